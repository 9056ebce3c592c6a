import Derived.Test.YtepfdekppnobaaaGreatMb28
import Derived.Test.YtepfdekppnobaaaGreatMb18
import Derived.Test.YtepfdekppnobaaaGreatMb5
import Derived.Deep.LoopGhost
import Derived.Test.YtepfdekppnobaaaGreatMb25
/-! graph.Check tells what the document calls right. -/
namespace Go.Proofs.YtepfdekppnobaaaGreat
set_option linter.unusedSimpArgs false
set_option linter.unusedVariables false
open Go.RowKit Ga
set_option maxRecDepth 100000

theorem nodeB_iff (l : List Gr.Nd) (n : Gr.Nd) : nodeB l n = true ↔ Gr.OkP l n := by
  unfold nodeB
  simp only [Bool.and_eq_true, decide_eq_true_eq, Bool.not_eq_true']
  have hk : kindB n = true ↔ (n.kind = 0 ∧ n.id = 0 ∧ n.frm.length = 0 ∧ n.prog.length = 0) ∨ (n.kind = 1 ∧ n.id ≠ 0 ∧ n.frm.length = 1 ∧ Vm.safe n.prog = true) ∨ (n.kind = 2 ∧ n.id ≠ 0 ∧ 1 ≤ n.frm.length ∧ n.frm.length ≤ 3 ∧ n.frm.Nodup ∧ n.prog.length = 0) := by
    unfold kindB
    by_cases k0 : n.kind = 0
    · rw [if_pos k0]
      simp only [Bool.and_eq_true, decide_eq_true_eq, beq_iff_eq]
      constructor
      · rintro ⟨h1, h2, h3⟩; exact .inl ⟨k0, h1, h2, h3⟩
      · rintro (⟨_, h1, h2, h3⟩ | ⟨h, _⟩ | ⟨h, _⟩)
        · exact ⟨h1, h2, h3⟩
        · omega
        · omega
    · rw [if_neg k0]
      by_cases k1 : n.kind = 1
      · rw [if_pos k1]
        simp only [Bool.and_eq_true, decide_eq_true_eq, bne_iff_ne]
        constructor
        · rintro ⟨h1, h2, h3⟩; exact .inr (.inl ⟨k1, h1, h2, h3⟩)
        · rintro (⟨h, _⟩ | ⟨_, h1, h2, h3⟩ | ⟨h, _⟩)
          · omega
          · exact ⟨h1, h2, h3⟩
          · omega
      · rw [if_neg k1]
        by_cases k2 : n.kind = 2
        · rw [if_pos k2]
          simp only [Bool.and_eq_true, decide_eq_true_eq, bne_iff_ne]
          constructor
          · rintro ⟨h1, h2, h3, h4, h5⟩; exact .inr (.inr ⟨k2, h1, h2, h3, h4, h5⟩)
          · rintro (⟨h, _⟩ | ⟨h, _⟩ | ⟨_, h1, h2, h3, h4, h5⟩)
            · omega
            · omega
            · exact ⟨h1, h2, h3, h4, h5⟩
        · rw [if_neg k2]
          constructor
          · intro h; cases h
          · rintro (⟨h, _⟩ | ⟨h, _⟩ | ⟨h, _⟩) <;> omega
  have hr : routeB n = true ↔ 1 ≤ n.par ∧ n.par ≤ 3 ∧ ∀ g ∈ n.route, 0 ≤ g ∧ g < n.par := by
    unfold routeB
    simp only [Bool.and_eq_true, decide_eq_true_eq, Bool.not_eq_true', List.any_eq_false]
    refine and_congr_right fun _ => and_congr_right fun _ => forall_congr' fun g => forall_congr' fun _ => ?_
    unfold badT
    simp only [Bool.or_eq_true, decide_eq_true_eq]
    omega
  have ha : n.frm.any (aboveB l) = false ↔ ∀ f ∈ n.frm, ∃ j m, Gr.find l f = some j ∧ l[j]? = some m ∧ m.kind ≠ 2 := by
    rw [List.any_eq_false]
    refine forall_congr' fun f => forall_congr' fun _ => ?_
    unfold aboveB Gr.nodeOf
    cases hf : Gr.find l f with
    | none => simp
    | some j =>
      obtain ⟨m, hm, -⟩ := Gr.find_some hf
      rw [Option.bind_some, hm]
      simp only [beq_iff_eq]
      constructor
      · intro h; exact ⟨j, m, rfl, hm, h⟩
      · rintro ⟨j', m', h1, h2, h3⟩
        cases h1
        rw [hm] at h2
        cases h2
        exact h3
  rw [hk, hr, ha]
  constructor
  · rintro ⟨h1, h2, h3, ⟨h4, h5, h6⟩, h7⟩
    exact ⟨h1, h2, h3, h4, h5, h6, h7⟩
  · rintro ⟨h1, h2, h3, h4, h5, h6, h7⟩
    exact ⟨h1, h2, h3, ⟨h4, h5, h6⟩, h7⟩
open Classical in
/-- the error that graph.Check tells -/
noncomputable def checkR (l : List Gr.Nd) : Int := if 8 < l.length then 6 else if Gr.RightR l then 0 else 10
theorem checkR_long {l : List Gr.Nd} (h : 8 < l.length) : checkR l = 6 := by unfold checkR; rw [if_pos h]
theorem checkR_bad {l : List Gr.Nd} (h8 : l.length ≤ 8) (h : ¬ Gr.RightR l) : checkR l = 10 := by unfold checkR; rw [if_neg (by omega), if_neg h]
theorem checkR_ok {l : List Gr.Nd} (h8 : l.length ≤ 8) (h : Gr.RightR l) : checkR l = 0 := by unfold checkR; rw [if_neg (by omega), if_pos h]
theorem right_self (l : List Gr.Nd) : Gr.RightR l ↔ Gr.RightP l l := Gr.right_iff (List.Perm.refl l)
def idsT (l : List Gr.Nd) (k : Nat) : List Int := (l.take k).map (·.id)
theorem idsT_succ {l : List Gr.Nd} {k : Nat} (h : k < l.length) : idsT l (k + 1) = idsT l k ++ [l[k].id] := by
  unfold idsT
  rw [List.take_succ_eq_append_getElem h, List.map_append]
  rfl
set_option maxHeartbeats 8000000 in
theorem check_graph (v : Value) (l : List Gr.Nd) (w : World) (hv : NodesAt w v l) (hs : Small l) : Calls Tryz.prog 29 #[v] w (Gives (.int .i64 (checkR l)) w) := by
  have HV := Lib.hid hv
  have HS := Lib.hid hs
  obtain ⟨a, cap, rfl, hm, -⟩ := hv.openC
  clear hv hs
  by_cases h8 : 8 < l.length
  · rw [checkR_long h8]
    have h8' : (8 : Int) < (l.length : Int) := by omega
    go_enter Tryz.func29, Tryz.ntmps29
    go_wp2
    go_ret
    refine ⟨rfl, ?_⟩
    repeat (first | with_reducible exact Grew.refl _ | apply Grew.more | apply Grew.alloc | apply Grew.drew | apply Grew.drewN)
  · have h8' : ¬ (8 : Int) < (l.length : Int) := by omega
    go_enter Tryz.func29, Tryz.ntmps29
    go_wp2
    go_loopg [3, 11] l.length (fun gg s3 s11 wr => ∃ (k : Nat) (vk : Value), k ≤ l.length ∧ l.length - k ≤ gg ∧ s11 = .int .i64 k ∧ vk = s3 ∧ Hid (Grew w wr) ∧ Hid (OwnAt w.heap.size 3 1 encN wr vk (idsT l k)) ∧ Hid (∀ j (hj : j < l.length), j < k → nodeB l l[j] = true))
    case atStart => exact ⟨0, _, Nat.zero_le _, by omega, rfl, rfl, Lib.hid (by repeat (first | with_reducible exact Grew.refl _ | apply Grew.more | apply Grew.alloc | apply Grew.drew | apply Grew.drewN)), Lib.hid (OwnAt.nil _), Lib.hid fun j _ h => by omega⟩
    case round =>
      obtain ⟨k, vk, hk, hgg, rfl, rfl, HG, HO, HNO⟩ := hrel
      obtain ⟨ak, ck, rfl⟩ := (HO.out.rows encN_len).len
      have hil : (idsT l k).length = k := by unfold idsT; rw [List.length_map, List.length_take, Nat.min_eq_left hk]
      rw [hil] at HO
      rw [hil]
      by_cases hlt : k < l.length
      · obtain ⟨a', cap', e, -, hx⟩ := (HV.out.grew HG.out).openC
        cases e
        obtain ⟨b, off, c, rfl, hb, hn, c0, c1, c2, c3, c4, c5, c6, c7, c8, c9, c10, c11, c12⟩ := hx k hlt
        have hst := (HS.out _ (List.getElem_mem hlt)).1
        have hsu := idsT_succ hlt
        have HSU := Lib.hid hsu
        have HIL := Lib.hid hil
        have hw1 := nodeB_iff l l[k]
        clear hx hsu hil
        generalize hy : l[k] = y at *
        have HY := Lib.hid hy
        have HB := Lib.hid fun W (g : Grew wr W) => node_any c y _ l W (hn.grew g) ((HV.out.grew HG.out).grew g) HS.out hst
        have hid := hn.id
        have HNc := Lib.hid hn
        obtain ⟨cid, kind, af, cf, ap, cp, par, r0, r1, r2, r3, r4, r5, r6, r7, rfl⟩ := hn.lit
        simp only at c0 c1 c2 c3 c4 c5 c6 c7 c8 c9 c10 c11 c12 hid HB
        have HID := Lib.hid hid
        have HW1 := Lib.hid hw1
        clear hn hid hw1 hy
        cases hq : nodeB l y with
        | false =>
          have hbad : ¬ Gr.RightR l := fun h => by
            have h2 := ((right_self l).1 h).ok y (by rw [← HY.out]; exact List.getElem_mem hlt)
            rw [← HW1.out, hq] at h2
            cases h2
          have he := checkR_bad (by omega) hbad
          have HE := Lib.hid he
          rw [hq] at HB
          clear he hbad hq
          go_wp2_with (go_at_call 66; refine (HB.out _ (by repeat (first | with_reducible exact Grew.refl _ | apply Grew.more | apply Grew.alloc | apply Grew.drew | apply Grew.drewN))).mono ?_; rintro e w1 ⟨rfl, R3, n3, rfl⟩)
          go_ret
          refine ⟨by rw [HE.out]; rfl, HG.out.trans ?_⟩
          repeat (first | with_reducible exact Grew.refl _ | apply Grew.more | apply Grew.alloc | apply Grew.drew | apply Grew.drewN)
        | true =>
          have HQ := Lib.hid hq
          rw [hq] at HB
          clear hq
          go_wp2_with (first
            | (go_at_call 66; refine (HB.out _ (by repeat (first | with_reducible exact Grew.refl _ | apply Grew.more | apply Grew.alloc | apply Grew.drew | apply Grew.drewN))).mono ?_; rintro e w1 ⟨rfl, R3, n3, rfl⟩)
            | (at_builtin; go_loud (refine wpList_ownK (w0 := w) rfl (.tmp 19) (.tmp 22) 40 _ _ _ _ [cid] rfl Tryz.underlying40 infoInt1 rfl (by decide) encN_len encN_one rfl (OwnAt.grew HO.out (by repeat (first | with_reducible exact Grew.refl _ | apply Grew.more | apply Grew.alloc | apply Grew.drew | apply Grew.drewN))) (HG.out.trans (by repeat (first | with_reducible exact Grew.refl _ | apply Grew.more | apply Grew.alloc | apply Grew.drew | apply Grew.drewN))) rfl (int_at _ _ _ _ rfl (by simp [go_sem])) (by rw [HIL.out]; simp; omega) (by decide) (by simp) ?_; intro v5 W5 hA; (have HA := Lib.hid hA); clear hA)))
          have hr1 : OwnAt w.heap.size 3 1 encN W5 v5 (idsT l (k + 1)) := by
            rw [HSU.out, HID.out]
            exact HA.out.2.1
          have HR1 := Lib.hid hr1
          clear hr1
          go_roundg (l.length - (k + 1))
          case measure => omega
          case rel => exact ⟨k + 1, _, by omega, by omega, by go_num, rfl, Lib.hid HA.out.1, HR1, Lib.hid fun j hj h => by
            rcases Nat.lt_or_ge j k with h1 | h1
            · exact HNO.out j hj h1
            · obtain rfl : j = k := by omega
              rw [HY.out]
              exact HQ.out⟩
      · obtain rfl : k = l.length := by omega
        have hids : idsT l l.length = Gr.ids l := by unfold idsT Gr.ids; rw [List.take_length]
        rw [hids] at HO
        have hall : ∀ n ∈ l, Gr.OkP l n := fun n hn => by
          obtain ⟨j, hj, rfl⟩ := List.mem_iff_getElem.1 hn
          exact (nodeB_iff l _).1 (HNO.out j hj hj)
        have HALL := Lib.hid hall
        have HU := Lib.hid fun W (g : Grew wr W) => unlike_any _ (Gr.ids l) W ((HO.out.rows encN_len).grew g) (by unfold Gr.ids; rw [List.length_map]; omega)
        have HC := Lib.hid fun W (g : Grew wr W) => containsI_any _ (Gr.ids l) 0 W ((HO.out.rows encN_len).grew g)
        have HT := Lib.hid fun W (g : Grew wr W) => sort_any _ l W ((HV.out.grew HG.out).grew g) HS.out (by omega)
        clear hil hids hall
        by_cases hu : (Gr.ids l).Nodup
        · by_cases hz : (0 : Int) ∈ Gr.ids l
          · rw [decide_eq_true hu] at HU
            rw [decide_eq_true hz] at HC
            have HUZ := Lib.hid (And.intro hu hz)
            clear hu hz
            go_wp2_with (first
              | (go_at_call 67; refine (HU.out _ (by repeat (first | with_reducible exact Grew.refl _ | apply Grew.more | apply Grew.alloc | apply Grew.drew | apply Grew.drewN))).mono ?_; rintro e w1 ⟨rfl, R3, n3, rfl⟩)
              | (go_at_call 68; refine (HC.out _ (by repeat (first | with_reducible exact Grew.refl _ | apply Grew.more | apply Grew.alloc | apply Grew.drew | apply Grew.drewN))).mono ?_; rintro e w1 ⟨rfl, hw1⟩; obtain rfl := hw1)
              | (go_at_call 69; refine (HT.out _ (by repeat (first | with_reducible exact Grew.refl _ | apply Grew.more | apply Grew.alloc | apply Grew.drew | apply Grew.drewN))).mono ?_; rintro e w1 ⟨vs, l', rfl, hr, hp, R4, n4, rfl⟩; obtain ⟨as1, cs1, rfl⟩ := hr.len; (have HP := Lib.hid hp); clear hr hp))
            · rename_i hx
              have he : (Gr.sortG l' (l'.length + 1) []).length ≠ l.length := by simp at hx; omega
              have hok := checkR_bad (by omega) fun h => he ((Gr.right_iff HP.out.symm).1 h).so
              have HOK := Lib.hid hok
              clear hok hx he
              go_ret
              exact ⟨by rw [HOK.out]; rfl, HG.out.trans (by repeat (first | with_reducible exact Grew.refl _ | apply Grew.more | apply Grew.alloc | apply Grew.drew | apply Grew.drewN))⟩
            · rename_i hx
              have he : (Gr.sortG l' (l'.length + 1) []).length = l.length := by simp at hx; omega
              have hok := checkR_ok (by omega) ((Gr.right_iff HP.out.symm).2 ⟨by omega, HALL.out, HUZ.out.1, HUZ.out.2, he⟩)
              have HOK := Lib.hid hok
              clear hok hx he
              go_ret
              exact ⟨by rw [HOK.out]; rfl, HG.out.trans (by repeat (first | with_reducible exact Grew.refl _ | apply Grew.more | apply Grew.alloc | apply Grew.drew | apply Grew.drewN))⟩
          · have hok := checkR_bad (by omega) fun h => hz ((right_self l).1 h).z
            have HOK := Lib.hid hok
            rw [decide_eq_true hu] at HU
            rw [decide_eq_false hz] at HC
            clear hok hu hz
            go_wp2_with (first
              | (go_at_call 67; refine (HU.out _ (by repeat (first | with_reducible exact Grew.refl _ | apply Grew.more | apply Grew.alloc | apply Grew.drew | apply Grew.drewN))).mono ?_; rintro e w1 ⟨rfl, R3, n3, rfl⟩)
              | (go_at_call 68; refine (HC.out _ (by repeat (first | with_reducible exact Grew.refl _ | apply Grew.more | apply Grew.alloc | apply Grew.drew | apply Grew.drewN))).mono ?_; rintro e w1 ⟨rfl, hw1⟩; obtain rfl := hw1))
            go_ret
            exact ⟨by rw [HOK.out]; rfl, HG.out.trans (by repeat (first | with_reducible exact Grew.refl _ | apply Grew.more | apply Grew.alloc | apply Grew.drew | apply Grew.drewN))⟩
        · have hok := checkR_bad (by omega) fun h => hu ((right_self l).1 h).un
          have HOK := Lib.hid hok
          rw [decide_eq_false hu] at HU
          clear hok hu
          go_wp2_with (go_at_call 67; refine (HU.out _ (by repeat (first | with_reducible exact Grew.refl _ | apply Grew.more | apply Grew.alloc | apply Grew.drew | apply Grew.drewN))).mono ?_; rintro e w1 ⟨rfl, R3, n3, rfl⟩)
          go_ret
          exact ⟨by rw [HOK.out]; rfl, HG.out.trans (by repeat (first | with_reducible exact Grew.refl _ | apply Grew.more | apply Grew.alloc | apply Grew.drew | apply Grew.drewN))⟩
end Go.Proofs.YtepfdekppnobaaaGreat

/-! pack.putNode, putGraph, Graph. -/
namespace Go.Proofs.YtepfdekppnobaaaGreat
set_option linter.unusedSimpArgs false
set_option linter.unusedVariables false
open Go.RowKit Ga
set_option maxRecDepth 100000

def fitsP (p : List Vm.Ins) : Prop := Co.fitsI p = true
theorem be_one (x : Int) : Oc.bes [x] = Oc.be x := by simp [Oc.bes]
theorem be_three (x y z : Int) : Oc.bes [x, y, z] = Oc.be x ++ (Oc.be y ++ Oc.be z) := by simp [Oc.bes]
theorem KeptW.cells {base B q : Nat} {W W' : World} {c : Array Value} {t : TypeId} (k : KeptW base B W W') (h : W.heap[q]? = some (.cells c t)) (hn : q ≠ B) (ht : t ≠ 5) : W'.heap[q]? = some (.cells c t) := by
  rw [k.2 q (heap_lt h) hn (.inr ⟨_, _, _, h, ht⟩)]; exact h
/-- a slice that the writer does not touch -/
def Apart (base B : Nat) (W : World) (v : Value) : Prop := ∀ b off, (∃ n c, v = .slice (some ⟨b, off, none⟩) n c) → Safe base b W ∧ b ≠ B
theorem Apart.kept {α : Type} {k : Nat} {enc : α → List Value} {base B : Nat} {W W' : World} {v : Value} {l : List α} (h : Apart base B W v) (hk : KeptW base B W W') (hr : RowsAt k enc W v l) (hlt : ∀ b off, (∃ n c, v = .slice (some ⟨b, off, none⟩) n c) → l ≠ [] → b < W.heap.size) : RowsAt k enc W' v l := by
  cases l with
  | nil =>
    obtain ⟨a, cap, rfl, hm, -⟩ := hr
    exact ⟨a, cap, rfl, hm, fun h => absurd rfl h⟩
  | cons x l => exact RowsAt.sameBlock hr fun b off hv => hk.2 b (hlt b off hv (by simp)) (h b off hv).2 (h b off hv).1
theorem Apart.to {base B : Nat} {W W' : World} {v : Value} (h : Apart base B W v) (hk : KeptW base B W W') : Apart base B W' v := fun b off hv => by
  obtain ⟨h1, h2⟩ := h b off hv
  refine ⟨?_, h2⟩
  rcases h1 with h1 | ⟨c, t, f, hc, ht⟩
  · exact .inl h1
  · exact .inr ⟨c, t, f, by rw [hk.2 b (heap_lt hc) h2 (.inr ⟨c, t, f, hc, ht⟩)]; exact hc, ht⟩
theorem ints_lt {W : World} {v : Value} {l : List Int} (h : IntsAt W v l) : ∀ b off, (∃ n c, v = .slice (some ⟨b, off, none⟩) n c) → l ≠ [] → b < W.heap.size := by
  rintro b off ⟨n, c, rfl⟩ hne
  exact rows_lt (k := 0) h (List.length_pos_iff.2 hne)
theorem vals_lt {W : World} {v : Value} {l : List Val} (h : ValsAt W v l) : ∀ b off, (∃ n c, v = .slice (some ⟨b, off, none⟩) n c) → l ≠ [] → b < W.heap.size := by
  rintro b off ⟨n, c, rfl⟩ hne
  exact rows_lt (k := 1) h (List.length_pos_iff.2 hne)
theorem bes_len3 (x y z : Int) : (Oc.bes [x, y, z]).length = 12 := by rw [Oc.bes_len]; rfl
theorem putI_len (p : List Val) (h : Co.fitsI p = true) : (putI p).length ≤ 200 := by
  obtain ⟨h24, _⟩ := Co.fits_parts h
  unfold putI
  rw [List.length_append, Oc.be_len, Oc.bes_len, nums_len]
  omega
theorem fits_of {x : Int} (h0 : -2147483648 ≤ x) (h1 : x ≤ 2147483647) : Oc.fitsN x = true := by unfold Oc.fitsN; simp; omega
def PutPost (w0 W : World) (B : Nat) (zs : List UInt8) (e : Ending) (W' : World) : Prop := e = .returned (.tuple #[]) ∧ Grew w0 W' ∧ KeptW w0.heap.size B W W' ∧ ∃ vb', WriterAt w0.heap.size B W' vb' zs
theorem route_box {W : World} {q : Nat} {t : TypeId} {id kind par r0 r1 r2 r3 r4 r5 r6 r7 : Int} {vf vp : Value} (h : W.heap[q]? = some (.cells #[.int .i64 id, .int .i64 kind, vf, vp, .int .i64 par, .int .i64 r0, .int .i64 r1, .int .i64 r2, .int .i64 r3, .int .i64 r4, .int .i64 r5, .int .i64 r6, .int .i64 r7] t)) : IntsAt W (.slice (some ⟨q, 5, none⟩) 8 8) [r0, r1, r2, r3, r4, r5, r6, r7] := by
  refine ⟨_, 8, rfl, (by unfold maxLen; simp), fun _ => ⟨_, _, rfl, fun i x hi j u hu => ?_⟩⟩
  rw [cell_of h]
  match j, hu with
  | 0, hu =>
    simp at hu
    subst hu
    match i, hi with
    | 0, hi => simp at hi; subst hi; rfl
    | 1, hi => simp at hi; subst hi; rfl
    | 2, hi => simp at hi; subst hi; rfl
    | 3, hi => simp at hi; subst hi; rfl
    | 4, hi => simp at hi; subst hi; rfl
    | 5, hi => simp at hi; subst hi; rfl
    | 6, hi => simp at hi; subst hi; rfl
    | 7, hi => simp at hi; subst hi; rfl
    | i + 8, hi => simp at hi
  | j + 1, hu => simp at hu
theorem putNd_eq (ys : List UInt8) (n : Gr.Nd) : ((((ys ++ Oc.bes [n.id, n.kind, n.frm.length]) ++ Oc.bes n.frm) ++ putI n.prog) ++ Oc.bes [n.par]) ++ Oc.bes n.route = ys ++ Gr.putNd putI n := by
  rw [be_three, be_one]
  unfold Gr.putNd
  simp only [List.append_assoc]
set_option maxHeartbeats 8000000 in
theorem putNode_any (w0 W : World) (B : Nat) (vb : Value) (ys : List UInt8) (c : NdC) (n : Gr.Nd) (lp : Int) (hlp : -2147483648 ≤ lp) (hw : WriterAt w0.heap.size B W vb ys) (hg : Grew w0 W) (hn : NodeIs W c n) (hsf : Apart w0.heap.size B W c.vf) (hsp : Apart w0.heap.size B W c.vp) (hok : Gr.OkB fitsP lp n) (hlen : ys.length ≤ 8000) :
    Calls Tryz.prog 137 #[.pointer (some ⟨B, 0, none⟩), .agg #[.int .i64 c.id, .int .i64 c.kind, .slice c.af c.nf c.cf, .slice c.ap c.np c.cp, .int .i64 c.par, .int .i64 c.r0, .int .i64 c.r1, .int .i64 c.r2, .int .i64 c.r3, .int .i64 c.r4, .int .i64 c.r5, .int .i64 c.r6, .int .i64 c.r7]] W (PutPost w0 W B (ys ++ Gr.putNd putI n)) := by
  obtain ⟨id, kind, af, cf, ap, cp, par, r0, r1, r2, r3, r4, r5, r6, r7, rfl⟩ := hn.lit
  have hr8 := hn.route
  simp only at hr8
  have HW := Lib.hid hw
  have HG := Lib.hid hg
  have HN := Lib.hid hn
  have HSF := Lib.hid hsf
  have HSP := Lib.hid hsp
  have HOK := Lib.hid hok
  have HR8 := Lib.hid hr8
  have hBlt := (Array.getElem?_eq_some_iff.1 hw.2.1).1
  have hneB : W.heap.size ≠ B := by omega
  clear hw hg hn hsf hsp hok hr8
  have hbx0 : (W.alloc (.cells #[.int .i64 id, .int .i64 kind, .slice af n.frm.length cf, .slice ap n.prog.length cp, .int .i64 par, .int .i64 r0, .int .i64 r1, .int .i64 r2, .int .i64 r3, .int .i64 r4, .int .i64 r5, .int .i64 r6, .int .i64 r7] 64)).heap[W.heap.size]? = some (.cells #[.int .i64 id, .int .i64 kind, .slice af n.frm.length cf, .slice ap n.prog.length cp, .int .i64 par, .int .i64 r0, .int .i64 r1, .int .i64 r2, .int .i64 r3, .int .i64 r4, .int .i64 r5, .int .i64 r6, .int .i64 r7] 64) := heap_new_at W _ _ rfl
  have HBX0 := Lib.hid hbx0
  clear hbx0
  show Calls Tryz.prog 137 #[.pointer (some ⟨B, 0, none⟩), .agg #[.int .i64 id, .int .i64 kind, .slice af n.frm.length cf, .slice ap n.prog.length cp, .int .i64 par, .int .i64 r0, .int .i64 r1, .int .i64 r2, .int .i64 r3, .int .i64 r4, .int .i64 r5, .int .i64 r6, .int .i64 r7]] W _
  go_enter Tryz.func137, Tryz.ntmps137
  go_wp2_with fail
  refine (writerNum_freshK w0 (W.alloc (.cells #[.int .i64 id, .int .i64 kind, .slice af n.frm.length cf, .slice ap n.prog.length cp, .int .i64 par, .int .i64 r0, .int .i64 r1, .int .i64 r2, .int .i64 r3, .int .i64 r4, .int .i64 r5, .int .i64 r6, .int .i64 r7] 64)) B vb ys [id, kind, n.frm.length] [.int .i64 id, .int .i64 kind, .int .i64 n.frm.length] _ _ _ (HW.out.grew (by repeat (first | with_reducible exact Grew.refl _ | apply Grew.more | apply Grew.alloc | apply Grew.drew | apply Grew.drewN))) (HG.out.alloc _) rfl (by simp [go_sem]) rfl ?_ (by simp; omega)).mono ?_
  · have h1 := HOK.out.i
    have h2 := HOK.out.k
    have h3 := HOK.out.m
    have h4 := HN.out.id
    have h5 := HN.out.kind
    simp only at h4 h5
    simp only [List.all_cons, List.all_nil, Bool.and_true, Bool.and_eq_true]
    exact ⟨fits_of (by omega) (by omega), fits_of (by omega) (by omega), fits_of (by omega) (by omega)⟩
  rintro e W1 ⟨rfl, hg1, hk1, vb1, hw1⟩
  have HW1 := Lib.hid hw1
  have HG1 := Lib.hid hg1
  have HK1 := Lib.hid ((KeptW.ofGrew ((Grew.refl W).alloc _)).trans hk1)
  have hbx1 := hk1.cells HBX0.out hneB (by decide)
  have HBX1 := Lib.hid hbx1
  clear hw1 hg1 hk1
  have x2 := cell_of (o := 2) HBX1.out
  simp at x2
  have px2 := Pre.mk (heap_lt HBX1.out)
  have hl1 := bes_len3 id kind n.frm.length
  have hfl := HOK.out.m
  have HL1 := Lib.hid hl1
  clear hl1
  go_wp2_with fail
  refine (writerNum_keep w0 W1 B vb1 _ _ n.frm HW1.out HG1.out (HSF.out.kept HK1.out HN.out.f (ints_lt HN.out.f)) (HSF.out.to HK1.out) (List.all_eq_true.2 fun x hx => ?_) (by rw [List.length_append, HL1.out]; omega)).mono ?_
  · have := HOK.out.f x hx
    exact fits_of (by omega) (by omega)
  rintro e W2 ⟨rfl, hg2, hk2, vb2, hw2⟩
  have HW2 := Lib.hid hw2
  have HG2 := Lib.hid hg2
  have HK2 := Lib.hid (HK1.out.trans hk2)
  have hbx2 := hk2.cells HBX1.out hneB (by decide)
  have HBX2 := Lib.hid hbx2
  clear hw2 hg2 hk2 hbx2 x2 px2
  have x3 := cell_of (o := 3) HBX2.out
  simp at x3
  have px3 := Pre.mk (heap_lt HBX2.out)
  go_wp2_with fail
  refine (codePut_keep w0 W2 B vb2 _ _ n.prog HW2.out HG2.out (HSP.out.kept HK2.out HN.out.p (vals_lt HN.out.p)) (HSP.out.to HK2.out) HOK.out.p (by rw [List.length_append, List.length_append, HL1.out, Oc.bes_len]; omega)).mono ?_
  rintro e W3 ⟨rfl, hg3, hk3, vb3, hw3⟩
  have HW3 := Lib.hid hw3
  have HG3 := Lib.hid hg3
  have HK3 := Lib.hid (HK2.out.trans hk3)
  have hbx3 := hk3.cells HBX2.out hneB (by decide)
  have HBX3 := Lib.hid hbx3
  have hpl := putI_len n.prog HOK.out.p
  clear hw3 hg3 hk3 hbx3 x3 px3
  have x4 := cell_of (o := 4) HBX3.out
  simp at x4
  have px4 := Pre.mk (heap_lt HBX3.out)
  go_wp2_with fail
  refine (writerNum_freshK w0 W3 B vb3 _ [par] [.int .i64 par] _ _ _ HW3.out HG3.out rfl (by simp [go_sem]) rfl ?_ (by simp only [List.length_append, HL1.out, Oc.bes_len, List.length_cons, List.length_nil]; omega)).mono ?_
  · have h1 := HOK.out.r
    have h4 := HN.out.par
    simp only at h4
    simp only [List.all_cons, List.all_nil, Bool.and_true]
    exact fits_of (by omega) (by omega)
  rintro e W4 ⟨rfl, hg4, hk4, vb4, hw4⟩
  have HW4 := Lib.hid hw4
  have HG4 := Lib.hid hg4
  have HK4 := Lib.hid (HK3.out.trans hk4)
  have hbx4 := hk4.cells HBX3.out hneB (by decide)
  have HBX4 := Lib.hid hbx4
  clear hw4 hg4 hk4 hbx4 x4 px4
  have px5 := Pre.mk (heap_lt HBX4.out)
  go_wp2_with fail
  refine (writerNum_keep w0 W4 B vb4 _ _ [r0, r1, r2, r3, r4, r5, r6, r7] HW4.out HG4.out (route_box HBX4.out) ?_ (List.all_eq_true.2 fun x hx => ?_) (by simp only [List.length_append, HL1.out, Oc.bes_len, List.length_cons, List.length_nil]; omega)).mono ?_
  · rintro b off ⟨m, k, e⟩
    cases e
    exact ⟨.inr ⟨_, _, _, HBX4.out, by decide⟩, hneB⟩
  · rw [← HR8.out] at hx
    have := HOK.out.o x hx
    exact fits_of (by omega) (by omega)
  rintro e W5 ⟨rfl, hg5, hk5, vb5, hw5⟩
  have HW5 := Lib.hid hw5
  have HG5 := Lib.hid hg5
  have HK5 := Lib.hid (HK4.out.trans hk5)
  clear hw5 hg5 hk5
  go_wp2
  go_end0
  refine ⟨rfl, HG5.out, HK5.out, vb5, ?_⟩
  have h1 := HN.out.id
  have h2 := HN.out.kind
  have h3 := HN.out.par
  simp only at h1 h2 h3
  rw [← putNd_eq, h1, h2, h3, HR8.out]
  exact HW5.out
end Go.Proofs.YtepfdekppnobaaaGreat

/-! pack.putGraph, Graph. -/
namespace Go.Proofs.YtepfdekppnobaaaGreat
set_option linter.unusedSimpArgs false
set_option linter.unusedVariables false
open Go.RowKit Ga
set_option maxRecDepth 100000

theorem OwnsNd.kept {base base0 B : Nat} {W W' : World} {c : NdC} {n : Gr.Nd} (o : OwnsNd base W c n) (hk : KeptW base0 B W W') (hB : B < base) : OwnsNd base W' c n := by
  refine ⟨OwnAt.same o.1 fun b h => ?_, OwnAt.same o.2 fun b h => ?_⟩
  · obtain ⟨h1, cs, h2⟩ := OwnAt.block o.1 h
    exact hk.2 b (heap_lt h2) (by omega) (.inr ⟨_, _, _, h2, by decide⟩)
  · obtain ⟨h1, cs, h2⟩ := OwnAt.block o.2 h
    exact hk.2 b (heap_lt h2) (by omega) (.inr ⟨_, _, _, h2, by decide⟩)
theorem NodesOwn.kept {base base0 B : Nat} {W W' : World} {v : Value} {lc : List NdC} (o : NodesOwn base W v lc) (hk : KeptW base0 B W W') (hB : B < base) : NodesOwn base W' v lc :=
  OwnAt.same o fun b h => by
    obtain ⟨h1, cs, h2⟩ := OwnAt.block o h
    exact hk.2 b (heap_lt h2) (by omega) (.inr ⟨_, _, _, h2, by decide⟩)
theorem NodesIn.kept {base base0 B : Nat} {W W' : World} {lc : List NdC} {l : List Gr.Nd} (h : NodesIn base W lc l) (hk : KeptW base0 B W W') (hB : B < base) : NodesIn base W' lc l :=
  Rel.mono (fun c n ⟨h1, h2⟩ => ⟨(h2.kept hk hB).is h1, h2.kept hk hB⟩) h
theorem OwnsNd.apartF {base base0 B : Nat} {W : World} {c : NdC} {n : Gr.Nd} (o : OwnsNd base W c n) (hB : B < base) : Apart base0 B W c.vf := by
  rintro b off ⟨m, k, e⟩
  have h : c.vf.ownBlock = some b := by rw [e]; rfl
  obtain ⟨h1, cs, h2⟩ := OwnAt.block o.1 h
  exact ⟨.inr ⟨_, _, _, h2, by decide⟩, by omega⟩
theorem OwnsNd.apartP {base base0 B : Nat} {W : World} {c : NdC} {n : Gr.Nd} (o : OwnsNd base W c n) (hB : B < base) : Apart base0 B W c.vp := by
  rintro b off ⟨m, k, e⟩
  have h : c.vp.ownBlock = some b := by rw [e]; rfl
  obtain ⟨h1, cs, h2⟩ := OwnAt.block o.2 h
  exact ⟨.inr ⟨_, _, _, h2, by decide⟩, by omega⟩
theorem putNd_len {n : Gr.Nd} {lp : Int} (h : Gr.OkB fitsP lp n) : (Gr.putNd putI n).length ≤ 300 := by
  have h1 := putI_len n.prog h.p
  have h2 := h.m
  have h3 := h.ol
  unfold Gr.putNd
  simp only [List.length_append, Oc.be_len, Oc.bes_len]
  omega
theorem flat_len {lp : Int} : ∀ {l : List Gr.Nd}, (∀ n ∈ l, Gr.OkB fitsP lp n) → (l.flatMap (Gr.putNd putI)).length ≤ l.length * 300
  | [], _ => by simp
  | n :: l, h => by
    have h1 := putNd_len (h n (List.mem_cons_self ..))
    have h2 := flat_len (l := l) fun m hm => h m (List.mem_cons_of_mem _ hm)
    rw [List.flatMap_cons, List.length_append, List.length_cons]
    omega
end Go.Proofs.YtepfdekppnobaaaGreat

/-! forebayref13.num, Node, Graph. -/
namespace Go.Proofs.YtepfdekppnobaaaGreat
set_option linter.unusedSimpArgs false
set_option linter.unusedVariables false
open Go.RowKit Ga
set_option maxRecDepth 100000

end Go.Proofs.YtepfdekppnobaaaGreat

/-! forebayref13.Graph. -/
namespace Go.Proofs.YtepfdekppnobaaaGreat
set_option linter.unusedSimpArgs false
set_option linter.unusedVariables false
open Go.RowKit Ga
set_option maxRecDepth 100000

end Go.Proofs.YtepfdekppnobaaaGreat

/-! octet.Writer.Num where a number does not fit: nothing is written. -/
namespace Go.Proofs.YtepfdekppnobaaaGreat
set_option linter.unusedSimpArgs false
set_option linter.unusedVariables false
open Go.RowKit Ga
set_option maxRecDepth 100000

set_option maxHeartbeats 4000000 in
theorem writerNum_bad (base : Nat) (W : World) (B : Nat) (vb : Value) (bs : List UInt8) (v : Value) (l : List Int) (_hw : WriterAt base B W vb bs) (hv : RowsAt 1 encN W v l) (hok : l.all Oc.fitsN = false) :
    Calls Tryz.prog 136 #[.pointer (some ⟨B, 0, none⟩), v] W fun e W' => e = .returned (.int .i64 2) ∧ W' = W := by
  obtain ⟨a, cap, rfl, hm, hl⟩ := hv.open1
  have HL := Lib.hid hl
  have HOK := Lib.hid hok
  clear hv hok hl _hw
  go_enter Tryz.func136, Tryz.ntmps136
  go_wp2
  go_loopg [14] l.length (fun gg i wr => ∃ (k : Nat), k ≤ l.length ∧ l.length - k ≤ gg ∧ i = .int .i64 k ∧ wr = W ∧ Hid (∀ x ∈ l.take k, Oc.fitsN x = true))
  case atStart => exact ⟨0, Nat.zero_le _, by omega, rfl, rfl, Lib.hid fun x hx => by simp at hx⟩
  case round =>
    obtain ⟨k, hk, hgg, rfl, rfl, HNO⟩ := hrel
    by_cases hlt : k < l.length
    · obtain ⟨b, off, rfl, hb, hx⟩ := HL.out k hlt
      have HTK := Lib.hid (List.take_succ_eq_append_getElem hlt)
      generalize l[k] = x at *
      cases hf : Oc.fitsN x
      · have HF := Lib.hid hf
        clear hf
        go_wp2_with (go_at_call 164; refine (octFits_any _ _).mono ?_; rintro e w1 ⟨rfl, rfl⟩; rw [HF.out])
        go_ret
        exact ⟨rfl, rfl⟩
      · have HF := Lib.hid hf
        clear hf
        go_wp2_with (go_at_call 164; refine (octFits_any _ _).mono ?_; rintro e w1 ⟨rfl, rfl⟩; rw [HF.out])
        go_roundg (l.length - (k + 1))
        case measure => omega
        case rel => exact ⟨k + 1, by omega, by omega, by go_num, rfl, Lib.hid fun y hy => by
          rw [HTK.out, List.mem_append, List.mem_singleton] at hy
          rcases hy with hy | rfl
          · exact HNO.out y hy
          · exact HF.out⟩
    · obtain rfl : k = l.length := by omega
      have h1 := HNO.out
      rw [List.take_length] at h1
      have h2 := HOK.out
      rw [List.all_eq_true.2 h1] at h2
      cases h2
set_option maxHeartbeats 4000000 in
theorem codePut_bad (W : World) (B : Nat) (v : Value) (l : List Val) (hv : ValsAt W v l) (hf : Co.fitsI l = false) : Calls Tryz.prog 165 #[.pointer (some ⟨B, 0, none⟩), v] W (Gives (.int .i64 1) W) := by
  obtain ⟨a, cap, rfl, hm, -⟩ := hv.open2
  have HV := Lib.hid hv
  have HF := Lib.hid hf
  clear hv hf
  go_enter Tryz.func165, Tryz.ntmps165
  go_wp2_with (go_at_call 180; refine (codeFits_any _ l _ (HV.out.grew (by repeat (first | with_reducible exact Grew.refl _ | apply Grew.more | apply Grew.alloc | apply Grew.drew | apply Grew.drewN)))).mono ?_; rintro e w1 ⟨rfl, R3, n3, rfl⟩; rw [HF.out])
  go_ret
  refine ⟨rfl, ?_⟩
  repeat (first | with_reducible exact Grew.refl _ | apply Grew.more | apply Grew.alloc | apply Grew.drew | apply Grew.drewN)
/-- whatever the numbers: some bytes, or none -/
def PutSome (w0 W : World) (B : Nat) (bs : List UInt8) (n : Nat) (e : Ending) (W' : World) : Prop := ∃ x, e = .returned (.int .i64 x) ∧ Grew w0 W' ∧ KeptW w0.heap.size B W W' ∧ ∃ vb' zs, zs.length ≤ n ∧ WriterAt w0.heap.size B W' vb' (bs ++ zs)
theorem writerNum_some (w0 W : World) (B : Nat) (vb : Value) (bs : List UInt8) (v : Value) (l : List Int) (hw : WriterAt w0.heap.size B W vb bs) (hg : Grew w0 W) (hv : RowsAt 1 encN W v l)
    (hs : ∀ b off, (∃ n c, v = .slice (some ⟨b, off, none⟩) n c) → Safe w0.heap.size b W ∧ b ≠ B) (hlen : bs.length + l.length * 4 ≤ 100000) :
    Calls Tryz.prog 136 #[.pointer (some ⟨B, 0, none⟩), v] W (PutSome w0 W B bs (l.length * 4)) := by
  cases hok : l.all Oc.fitsN
  · refine (writerNum_bad _ W B vb bs v l hw hv hok).mono ?_
    rintro e W' ⟨rfl, rfl⟩
    exact ⟨2, rfl, hg, KeptW.refl _ _ _, vb, [], Nat.zero_le _, by rw [List.append_nil]; exact hw⟩
  · refine (writerNum_keep w0 W B vb bs v l hw hg hv hs hok hlen).mono ?_
    rintro e W' ⟨rfl, h1, h2, vb', h3⟩
    exact ⟨0, rfl, h1, h2, vb', Oc.bes l, by rw [Oc.bes_len]; omega, h3⟩
theorem codePut_some (w0 W : World) (B : Nat) (vb : Value) (bs : List UInt8) (v : Value) (l : List Val) (hw : WriterAt w0.heap.size B W vb bs) (hg : Grew w0 W) (hv : ValsAt W v l) (hs : ∀ b off, (∃ n c, v = .slice (some ⟨b, off, none⟩) n c) → Safe w0.heap.size b W ∧ b ≠ B) (hlen : bs.length ≤ 10000) :
    Calls Tryz.prog 165 #[.pointer (some ⟨B, 0, none⟩), v] W (PutSome w0 W B bs 300) := by
  cases hf : Co.fitsI l
  · refine (codePut_bad W B v l hv hf).mono ?_
    rintro e W' ⟨rfl, g⟩
    exact ⟨1, rfl, hg.trans g, KeptW.ofGrew g, vb, [], Nat.zero_le _, by rw [List.append_nil]; exact hw.grew g⟩
  · refine (codePut_keep w0 W B vb bs v l hw hg hv hs hf hlen).mono ?_
    rintro e W' ⟨rfl, h1, h2, vb', h3⟩
    exact ⟨0, rfl, h1, h2, vb', putI l, by have := putI_len l hf; omega, h3⟩
end Go.Proofs.YtepfdekppnobaaaGreat

/-! forebayref08.Check, cut: the frame, the code from a region on. -/
namespace Go.Proofs.YtepfdekppnobaaaGreat
set_option linter.unusedSimpArgs false
set_option linter.unusedVariables false
open Go.RowKit Ga
set_option maxRecDepth 100000

end Go.Proofs.YtepfdekppnobaaaGreat

/-! forebayref08.Check, cut: the routes. -/
namespace Go.Proofs.YtepfdekppnobaaaGreat
set_option linter.unusedSimpArgs false
set_option linter.unusedVariables false
open Go.RowKit Ga
set_option maxRecDepth 100000

end Go.Proofs.YtepfdekppnobaaaGreat

/-! forebayref08.Check, cut: how many Froms; the program. -/
namespace Go.Proofs.YtepfdekppnobaaaGreat
set_option linter.unusedSimpArgs false
set_option linter.unusedVariables false
open Go.RowKit Ga
set_option maxRecDepth 100000

end Go.Proofs.YtepfdekppnobaaaGreat
