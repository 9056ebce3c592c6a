import Derived.Test.YtekkkmkhnphlhaaGreatDoorGh25
import Derived.Test.YtekkkmkhnphlhaaGreatDoorGh14
import Derived.Test.YtekkkmkhnphlhaaGreatDoorGh5
import Derived.ChangeKeysEq
/-! graph.Check tells what the document calls right. -/
namespace Go.Proofs.YtekkkmkhnphlhaaGreatDoor
set_option linter.unusedSimpArgs false
set_option linter.unusedVariables false
open Go.RowKit Ga
set_option maxRecDepth 100000

theorem nodeB_iff (l : List Gr.Nd) (n : Gr.Nd) : nodeB l n = true ↔ Gr.OkP l n := by
  unfold nodeB
  simp only [Bool.and_eq_true, decide_eq_true_eq, Bool.not_eq_true']
  have hk : kindB n = true ↔ (n.kind = 0 ∧ n.id = 0 ∧ n.frm.length = 0 ∧ n.prog.length = 0) ∨ (n.kind = 1 ∧ n.id ≠ 0 ∧ n.frm.length = 1 ∧ Vm.safe n.prog = true) ∨ (n.kind = 2 ∧ n.id ≠ 0 ∧ 1 ≤ n.frm.length ∧ n.frm.length ≤ 3 ∧ n.frm.Nodup ∧ n.prog.length = 0) := by
    unfold kindB
    by_cases k0 : n.kind = 0
    · rw [if_pos k0]
      simp only [Bool.and_eq_true, decide_eq_true_eq, beq_iff_eq]
      constructor
      · rintro ⟨h1, h2, h3⟩; exact .inl ⟨k0, h1, h2, h3⟩
      · rintro (⟨_, h1, h2, h3⟩ | ⟨h, _⟩ | ⟨h, _⟩)
        · exact ⟨h1, h2, h3⟩
        · omega
        · omega
    · rw [if_neg k0]
      by_cases k1 : n.kind = 1
      · rw [if_pos k1]
        simp only [Bool.and_eq_true, decide_eq_true_eq, bne_iff_ne]
        constructor
        · rintro ⟨h1, h2, h3⟩; exact .inr (.inl ⟨k1, h1, h2, h3⟩)
        · rintro (⟨h, _⟩ | ⟨_, h1, h2, h3⟩ | ⟨h, _⟩)
          · omega
          · exact ⟨h1, h2, h3⟩
          · omega
      · rw [if_neg k1]
        by_cases k2 : n.kind = 2
        · rw [if_pos k2]
          simp only [Bool.and_eq_true, decide_eq_true_eq, bne_iff_ne]
          constructor
          · rintro ⟨h1, h2, h3, h4, h5⟩; exact .inr (.inr ⟨k2, h1, h2, h3, h4, h5⟩)
          · rintro (⟨h, _⟩ | ⟨h, _⟩ | ⟨_, h1, h2, h3, h4, h5⟩)
            · omega
            · omega
            · exact ⟨h1, h2, h3, h4, h5⟩
        · rw [if_neg k2]
          constructor
          · intro h; cases h
          · rintro (⟨h, _⟩ | ⟨h, _⟩ | ⟨h, _⟩) <;> omega
  have hr : routeB n = true ↔ 1 ≤ n.par ∧ n.par ≤ 3 ∧ ∀ g ∈ n.route, 0 ≤ g ∧ g < n.par := by
    unfold routeB
    simp only [Bool.and_eq_true, decide_eq_true_eq, Bool.not_eq_true', List.any_eq_false]
    refine and_congr_right fun _ => and_congr_right fun _ => forall_congr' fun g => forall_congr' fun _ => ?_
    unfold badT
    simp only [Bool.or_eq_true, decide_eq_true_eq]
    omega
  have ha : n.frm.any (aboveB l) = false ↔ ∀ f ∈ n.frm, ∃ j m, Gr.find l f = some j ∧ l[j]? = some m ∧ m.kind ≠ 2 := by
    rw [List.any_eq_false]
    refine forall_congr' fun f => forall_congr' fun _ => ?_
    unfold aboveB Gr.nodeOf
    cases hf : Gr.find l f with
    | none => simp
    | some j =>
      obtain ⟨m, hm, -⟩ := Gr.find_some hf
      rw [Option.bind_some, hm]
      simp only [beq_iff_eq]
      constructor
      · intro h; exact ⟨j, m, rfl, hm, h⟩
      · rintro ⟨j', m', h1, h2, h3⟩
        cases h1
        rw [hm] at h2
        cases h2
        exact h3
  rw [hk, hr, ha]
  constructor
  · rintro ⟨h1, h2, h3, ⟨h4, h5, h6⟩, h7⟩
    exact ⟨h1, h2, h3, h4, h5, h6, h7⟩
  · rintro ⟨h1, h2, h3, h4, h5, h6, h7⟩
    exact ⟨h1, h2, h3, ⟨h4, h5, h6⟩, h7⟩
open Classical in
/-- the error that graph.Check tells -/
noncomputable def checkR (l : List Gr.Nd) : Int := if 8 < l.length then 6 else if Gr.RightR l then 0 else 10
theorem checkR_long {l : List Gr.Nd} (h : 8 < l.length) : checkR l = 6 := by unfold checkR; rw [if_pos h]
theorem checkR_bad {l : List Gr.Nd} (h8 : l.length ≤ 8) (h : ¬ Gr.RightR l) : checkR l = 10 := by unfold checkR; rw [if_neg (by omega), if_neg h]
theorem checkR_ok {l : List Gr.Nd} (h8 : l.length ≤ 8) (h : Gr.RightR l) : checkR l = 0 := by unfold checkR; rw [if_neg (by omega), if_pos h]
theorem right_self (l : List Gr.Nd) : Gr.RightR l ↔ Gr.RightP l l := Gr.right_iff (List.Perm.refl l)
def idsT (l : List Gr.Nd) (k : Nat) : List Int := (l.take k).map (·.id)
theorem idsT_succ {l : List Gr.Nd} {k : Nat} (h : k < l.length) : idsT l (k + 1) = idsT l k ++ [l[k].id] := by
  unfold idsT
  rw [List.take_succ_eq_append_getElem h, List.map_append]
  rfl
set_option maxHeartbeats 8000000 in
theorem check_graph (v : Value) (l : List Gr.Nd) (w : World) (hv : NodesAt w v l) (hs : Small l) : Calls Tryz.prog 42 #[v] w (Gives (.int .i64 (checkR l)) w) := by
  have HV := Lib.hid hv
  have HS := Lib.hid hs
  obtain ⟨a, cap, rfl, hm, -⟩ := hv.openC
  clear hv hs
  by_cases h8 : 8 < l.length
  · rw [checkR_long h8]
    have h8' : (8 : Int) < (l.length : Int) := by omega
    go_enter Tryz.func42, Tryz.ntmps42
    go_wp2
    go_ret
    refine ⟨rfl, ?_⟩
    repeat (first | with_reducible exact Grew.refl _ | apply Grew.more | apply Grew.alloc | apply Grew.drew | apply Grew.drewN)
  · have h8' : ¬ (8 : Int) < (l.length : Int) := by omega
    go_enter Tryz.func42, Tryz.ntmps42
    go_wp2
    go_loopg [3, 11] l.length (fun gg s3 s11 wr => ∃ (k : Nat) (vk : Value), k ≤ l.length ∧ l.length - k ≤ gg ∧ s11 = .int .i64 k ∧ vk = s3 ∧ Hid (Grew w wr) ∧ Hid (OwnAt w.heap.size 3 1 encN wr vk (idsT l k)) ∧ Hid (∀ j (hj : j < l.length), j < k → nodeB l l[j] = true))
    case atStart => exact ⟨0, _, Nat.zero_le _, by omega, rfl, rfl, Lib.hid (by repeat (first | with_reducible exact Grew.refl _ | apply Grew.more | apply Grew.alloc | apply Grew.drew | apply Grew.drewN)), Lib.hid (OwnAt.nil _), Lib.hid fun j _ h => by omega⟩
    case round =>
      obtain ⟨k, vk, hk, hgg, rfl, rfl, HG, HO, HNO⟩ := hrel
      obtain ⟨ak, ck, rfl⟩ := (HO.out.rows encN_len).len
      have hil : (idsT l k).length = k := by unfold idsT; rw [List.length_map, List.length_take, Nat.min_eq_left hk]
      rw [hil] at HO
      rw [hil]
      by_cases hlt : k < l.length
      · obtain ⟨a', cap', e, -, hx⟩ := (HV.out.grew HG.out).openC
        cases e
        obtain ⟨b, off, c, rfl, hb, hn, c0, c1, c2, c3, c4, c5, c6, c7, c8, c9, c10, c11, c12⟩ := hx k hlt
        have hst := (HS.out _ (List.getElem_mem hlt)).1
        have hsu := idsT_succ hlt
        have HSU := Lib.hid hsu
        have HIL := Lib.hid hil
        have hw1 := nodeB_iff l l[k]
        clear hx hsu hil
        generalize hy : l[k] = y at *
        have HY := Lib.hid hy
        have HB := Lib.hid fun W (g : Grew wr W) => node_any c y _ l W (hn.grew g) ((HV.out.grew HG.out).grew g) HS.out hst
        have hid := hn.id
        have HNc := Lib.hid hn
        obtain ⟨cid, kind, af, cf, ap, cp, par, r0, r1, r2, r3, r4, r5, r6, r7, rfl⟩ := hn.lit
        simp only at c0 c1 c2 c3 c4 c5 c6 c7 c8 c9 c10 c11 c12 hid HB
        have HID := Lib.hid hid
        have HW1 := Lib.hid hw1
        clear hn hid hw1 hy
        cases hq : nodeB l y with
        | false =>
          have hbad : ¬ Gr.RightR l := fun h => by
            have h2 := ((right_self l).1 h).ok y (by rw [← HY.out]; exact List.getElem_mem hlt)
            rw [← HW1.out, hq] at h2
            cases h2
          have he := checkR_bad (by omega) hbad
          have HE := Lib.hid he
          rw [hq] at HB
          clear he hbad hq
          go_wp2_with (go_at_call 98; refine (HB.out _ (by repeat (first | with_reducible exact Grew.refl _ | apply Grew.more | apply Grew.alloc | apply Grew.drew | apply Grew.drewN))).mono ?_; rintro e w1 ⟨rfl, R3, n3, rfl⟩)
          go_ret
          refine ⟨by rw [HE.out]; rfl, HG.out.trans ?_⟩
          repeat (first | with_reducible exact Grew.refl _ | apply Grew.more | apply Grew.alloc | apply Grew.drew | apply Grew.drewN)
        | true =>
          have HQ := Lib.hid hq
          rw [hq] at HB
          clear hq
          go_wp2_with (first
            | (go_at_call 98; refine (HB.out _ (by repeat (first | with_reducible exact Grew.refl _ | apply Grew.more | apply Grew.alloc | apply Grew.drew | apply Grew.drewN))).mono ?_; rintro e w1 ⟨rfl, R3, n3, rfl⟩)
            | (at_builtin; go_loud (refine wpList_ownK (w0 := w) rfl (.tmp 19) (.tmp 22) 56 _ _ _ _ [cid] rfl Tryz.underlying56 infoInt1 rfl (by decide) encN_len encN_one rfl (OwnAt.grew HO.out (by repeat (first | with_reducible exact Grew.refl _ | apply Grew.more | apply Grew.alloc | apply Grew.drew | apply Grew.drewN))) (HG.out.trans (by repeat (first | with_reducible exact Grew.refl _ | apply Grew.more | apply Grew.alloc | apply Grew.drew | apply Grew.drewN))) rfl (int_at _ _ _ _ rfl (by simp [go_sem])) (by rw [HIL.out]; simp; omega) (by decide) (by simp) ?_; intro v5 W5 hA; (have HA := Lib.hid hA); clear hA)))
          have hr1 : OwnAt w.heap.size 3 1 encN W5 v5 (idsT l (k + 1)) := by
            rw [HSU.out, HID.out]
            exact HA.out.2.1
          have HR1 := Lib.hid hr1
          clear hr1
          go_roundg (l.length - (k + 1))
          case measure => omega
          case rel => exact ⟨k + 1, _, by omega, by omega, by go_num, rfl, Lib.hid HA.out.1, HR1, Lib.hid fun j hj h => by
            rcases Nat.lt_or_ge j k with h1 | h1
            · exact HNO.out j hj h1
            · obtain rfl : j = k := by omega
              rw [HY.out]
              exact HQ.out⟩
      · obtain rfl : k = l.length := by omega
        have hids : idsT l l.length = Gr.ids l := by unfold idsT Gr.ids; rw [List.take_length]
        rw [hids] at HO
        have hall : ∀ n ∈ l, Gr.OkP l n := fun n hn => by
          obtain ⟨j, hj, rfl⟩ := List.mem_iff_getElem.1 hn
          exact (nodeB_iff l _).1 (HNO.out j hj hj)
        have HALL := Lib.hid hall
        have HU := Lib.hid fun W (g : Grew wr W) => unlike_any _ (Gr.ids l) W ((HO.out.rows encN_len).grew g) (by unfold Gr.ids; rw [List.length_map]; omega)
        have HC := Lib.hid fun W (g : Grew wr W) => containsI_any _ (Gr.ids l) 0 W ((HO.out.rows encN_len).grew g)
        have HT := Lib.hid fun W (g : Grew wr W) => sort_any _ l W ((HV.out.grew HG.out).grew g) HS.out (by omega)
        clear hil hids hall
        by_cases hu : (Gr.ids l).Nodup
        · by_cases hz : (0 : Int) ∈ Gr.ids l
          · rw [decide_eq_true hu] at HU
            rw [decide_eq_true hz] at HC
            have HUZ := Lib.hid (And.intro hu hz)
            clear hu hz
            go_wp2_with (first
              | (go_at_call 99; refine (HU.out _ (by repeat (first | with_reducible exact Grew.refl _ | apply Grew.more | apply Grew.alloc | apply Grew.drew | apply Grew.drewN))).mono ?_; rintro e w1 ⟨rfl, R3, n3, rfl⟩)
              | (go_at_call 100; refine (HC.out _ (by repeat (first | with_reducible exact Grew.refl _ | apply Grew.more | apply Grew.alloc | apply Grew.drew | apply Grew.drewN))).mono ?_; rintro e w1 ⟨rfl, hw1⟩; obtain rfl := hw1)
              | (go_at_call 101; refine (HT.out _ (by repeat (first | with_reducible exact Grew.refl _ | apply Grew.more | apply Grew.alloc | apply Grew.drew | apply Grew.drewN))).mono ?_; rintro e w1 ⟨vs, l', rfl, hr, hp, R4, n4, rfl⟩; obtain ⟨as1, cs1, rfl⟩ := hr.len; (have HP := Lib.hid hp); clear hr hp))
            · rename_i hx
              have he : (Gr.sortG l' (l'.length + 1) []).length ≠ l.length := by simp at hx; omega
              have hok := checkR_bad (by omega) fun h => he ((Gr.right_iff HP.out.symm).1 h).so
              have HOK := Lib.hid hok
              clear hok hx he
              go_ret
              exact ⟨by rw [HOK.out]; rfl, HG.out.trans (by repeat (first | with_reducible exact Grew.refl _ | apply Grew.more | apply Grew.alloc | apply Grew.drew | apply Grew.drewN))⟩
            · rename_i hx
              have he : (Gr.sortG l' (l'.length + 1) []).length = l.length := by simp at hx; omega
              have hok := checkR_ok (by omega) ((Gr.right_iff HP.out.symm).2 ⟨by omega, HALL.out, HUZ.out.1, HUZ.out.2, he⟩)
              have HOK := Lib.hid hok
              clear hok hx he
              go_ret
              exact ⟨by rw [HOK.out]; rfl, HG.out.trans (by repeat (first | with_reducible exact Grew.refl _ | apply Grew.more | apply Grew.alloc | apply Grew.drew | apply Grew.drewN))⟩
          · have hok := checkR_bad (by omega) fun h => hz ((right_self l).1 h).z
            have HOK := Lib.hid hok
            rw [decide_eq_true hu] at HU
            rw [decide_eq_false hz] at HC
            clear hok hu hz
            go_wp2_with (first
              | (go_at_call 99; refine (HU.out _ (by repeat (first | with_reducible exact Grew.refl _ | apply Grew.more | apply Grew.alloc | apply Grew.drew | apply Grew.drewN))).mono ?_; rintro e w1 ⟨rfl, R3, n3, rfl⟩)
              | (go_at_call 100; refine (HC.out _ (by repeat (first | with_reducible exact Grew.refl _ | apply Grew.more | apply Grew.alloc | apply Grew.drew | apply Grew.drewN))).mono ?_; rintro e w1 ⟨rfl, hw1⟩; obtain rfl := hw1))
            go_ret
            exact ⟨by rw [HOK.out]; rfl, HG.out.trans (by repeat (first | with_reducible exact Grew.refl _ | apply Grew.more | apply Grew.alloc | apply Grew.drew | apply Grew.drewN))⟩
        · have hok := checkR_bad (by omega) fun h => hu ((right_self l).1 h).un
          have HOK := Lib.hid hok
          rw [decide_eq_false hu] at HU
          clear hok hu
          go_wp2_with (go_at_call 99; refine (HU.out _ (by repeat (first | with_reducible exact Grew.refl _ | apply Grew.more | apply Grew.alloc | apply Grew.drew | apply Grew.drewN))).mono ?_; rintro e w1 ⟨rfl, R3, n3, rfl⟩)
          go_ret
          exact ⟨by rw [HOK.out]; rfl, HG.out.trans (by repeat (first | with_reducible exact Grew.refl _ | apply Grew.more | apply Grew.alloc | apply Grew.drew | apply Grew.drewN))⟩
end Go.Proofs.YtekkkmkhnphlhaaGreatDoor

/-! pack.putNode, putGraph, Graph. -/
namespace Go.Proofs.YtekkkmkhnphlhaaGreatDoor
set_option linter.unusedSimpArgs false
set_option linter.unusedVariables false
open Go.RowKit Ga
set_option maxRecDepth 100000

def fitsP (p : List Vm.Ins) : Prop := Co.fitsI p = true
theorem KeptW.cells {base B q : Nat} {W W' : World} {c : Array Value} {t : TypeId} (k : KeptW base B W W') (h : W.heap[q]? = some (.cells c t)) (hn : q ≠ B) (ht : t ≠ 5) : W'.heap[q]? = some (.cells c t) := by
  rw [k.2 q (heap_lt h) hn (.inr ⟨_, _, _, h, ht⟩)]; exact h
/-- a slice that the writer does not touch -/
def Apart (base B : Nat) (W : World) (v : Value) : Prop := ∀ b off, (∃ n c, v = .slice (some ⟨b, off, none⟩) n c) → Safe base b W ∧ b ≠ B
theorem Apart.kept {α : Type} {k : Nat} {enc : α → List Value} {base B : Nat} {W W' : World} {v : Value} {l : List α} (h : Apart base B W v) (hk : KeptW base B W W') (hr : RowsAt k enc W v l) (hlt : ∀ b off, (∃ n c, v = .slice (some ⟨b, off, none⟩) n c) → l ≠ [] → b < W.heap.size) : RowsAt k enc W' v l := by
  cases l with
  | nil =>
    obtain ⟨a, cap, rfl, hm, -⟩ := hr
    exact ⟨a, cap, rfl, hm, fun h => absurd rfl h⟩
  | cons x l => exact RowsAt.sameBlock hr fun b off hv => hk.2 b (hlt b off hv (by simp)) (h b off hv).2 (h b off hv).1
theorem Apart.to {base B : Nat} {W W' : World} {v : Value} (h : Apart base B W v) (hk : KeptW base B W W') : Apart base B W' v := fun b off hv => by
  obtain ⟨h1, h2⟩ := h b off hv
  refine ⟨?_, h2⟩
  rcases h1 with h1 | ⟨c, t, f, hc, ht⟩
  · exact .inl h1
  · exact .inr ⟨c, t, f, by rw [hk.2 b (heap_lt hc) h2 (.inr ⟨c, t, f, hc, ht⟩)]; exact hc, ht⟩
theorem putI_len (p : List Val) (h : Co.fitsI p = true) : (putI p).length ≤ 200 := by
  obtain ⟨h24, _⟩ := Co.fits_parts h
  unfold putI
  rw [List.length_append, Oc.be_len, Oc.bes_len, nums_len]
  omega
end Go.Proofs.YtekkkmkhnphlhaaGreatDoor

/-! pack.putGraph, Graph. -/
namespace Go.Proofs.YtekkkmkhnphlhaaGreatDoor
set_option linter.unusedSimpArgs false
set_option linter.unusedVariables false
open Go.RowKit Ga
set_option maxRecDepth 100000

theorem OwnsNd.kept {base base0 B : Nat} {W W' : World} {c : NdC} {n : Gr.Nd} (o : OwnsNd base W c n) (hk : KeptW base0 B W W') (hB : B < base) : OwnsNd base W' c n := by
  refine ⟨OwnAt.same o.1 fun b h => ?_, OwnAt.same o.2 fun b h => ?_⟩
  · obtain ⟨h1, cs, h2⟩ := OwnAt.block o.1 h
    exact hk.2 b (heap_lt h2) (by omega) (.inr ⟨_, _, _, h2, by decide⟩)
  · obtain ⟨h1, cs, h2⟩ := OwnAt.block o.2 h
    exact hk.2 b (heap_lt h2) (by omega) (.inr ⟨_, _, _, h2, by decide⟩)
theorem NodesOwn.kept {base base0 B : Nat} {W W' : World} {v : Value} {lc : List NdC} (o : NodesOwn base W v lc) (hk : KeptW base0 B W W') (hB : B < base) : NodesOwn base W' v lc :=
  OwnAt.same o fun b h => by
    obtain ⟨h1, cs, h2⟩ := OwnAt.block o h
    exact hk.2 b (heap_lt h2) (by omega) (.inr ⟨_, _, _, h2, by decide⟩)
theorem NodesIn.kept {base base0 B : Nat} {W W' : World} {lc : List NdC} {l : List Gr.Nd} (h : NodesIn base W lc l) (hk : KeptW base0 B W W') (hB : B < base) : NodesIn base W' lc l :=
  Rel.mono (fun c n ⟨h1, h2⟩ => ⟨(h2.kept hk hB).is h1, h2.kept hk hB⟩) h
theorem putNd_len {n : Gr.Nd} {lp : Int} (h : Gr.OkB fitsP lp n) : (Gr.putNd putI n).length ≤ 300 := by
  have h1 := putI_len n.prog h.p
  have h2 := h.m
  have h3 := h.ol
  unfold Gr.putNd
  simp only [List.length_append, Oc.be_len, Oc.bes_len]
  omega
theorem flat_len {lp : Int} : ∀ {l : List Gr.Nd}, (∀ n ∈ l, Gr.OkB fitsP lp n) → (l.flatMap (Gr.putNd putI)).length ≤ l.length * 300
  | [], _ => by simp
  | n :: l, h => by
    have h1 := putNd_len (h n (List.mem_cons_self ..))
    have h2 := flat_len (l := l) fun m hm => h m (List.mem_cons_of_mem _ hm)
    rw [List.flatMap_cons, List.length_append, List.length_cons]
    omega
theorem safe_fits {p : List Vm.Ins} (h : Vm.safe p = true) : fitsP p := by
  unfold Vm.safe at h
  obtain ⟨c, hc⟩ := Option.isSome_iff_exists.1 h
  exact Vm.checkC_fits hc

end Go.Proofs.YtekkkmkhnphlhaaGreatDoor

/-! code.Get, with what else it leaves; pack's reader. -/
namespace Go.Proofs.YtekkkmkhnphlhaaGreatDoor
set_option linter.unusedSimpArgs false
set_option linter.unusedVariables false
open Go.RowKit Ga
set_option maxRecDepth 100000

theorem OwnAt.up {α : Type} {base base' : Nat} {e : TypeId} {k : Nat} {enc : α → List Value} {w : World} {v : Value} {l : List α} (h : OwnAt base e k enc w v l) (hb : ∀ q, v.ownBlock = some q → base' ≤ q) : OwnAt base' e k enc w v l := by
  obtain ⟨h1, h2⟩ := h
  refine ⟨h1, ?_⟩
  rcases h2 with h | ⟨g, cap, cur, rfl, h3, r⟩
  · exact .inl h
  · exact .inr ⟨g, cap, cur, rfl, hb g rfl, r⟩
def GotProg (w0 w w' : World) (B : Nat) (v : Value) (r : List Val × Int × List UInt8) : Prop := OwnAt w.heap.size 142 2 encI w' v r.1 ∧ ReaderAt w0.heap.size B w' r.2.2 ∧ Grew w0 w' ∧ Keep B w w'
theorem GotProg.none {w0 w w' : World} {B : Nat} {r : List Val × Int × List UInt8} {e : Int} {s : List UInt8} (h : r = ([], e, s)) (h1 : ReaderAt w0.heap.size B w' s) (h2 : Grew w0 w') (h3 : Keep B w w') : GotProg w0 w w' B (.slice none 0 0) r := by
  subst h; exact ⟨OwnAt.nil _, h1, h2, h3⟩
theorem GotProg.some {w0 w w' : World} {B : Nat} {v : Value} {r : List Val × Int × List UInt8} {l : List Val} {e : Int} {s : List UInt8} (h : r = (l, e, s)) (h0 : OwnAt w.heap.size 142 2 encI w' v l) (h1 : ReaderAt w0.heap.size B w' s) (h2 : Grew w0 w') (h3 : Keep B w w') : GotProg w0 w w' B v r := by
  subst h; exact ⟨h0, h1, h2, h3⟩
end Go.Proofs.YtekkkmkhnphlhaaGreatDoor

/-! pack's reader: num, prog, list, end. -/
namespace Go.Proofs.YtekkkmkhnphlhaaGreatDoor
set_option linter.unusedSimpArgs false
set_option linter.unusedVariables false
open Go.RowKit Ga
set_option maxRecDepth 100000

/-- pack's reader at block A: octet's at block B; what is left, and the first error -/
def RdAt (base A B : Nat) (W : World) (s : Gr.Rs) : Prop := base ≤ A ∧ W.heap[A]? = some (.cells #[.pointer (some ⟨B, 0, none⟩), .int .i64 s.2] 119) ∧ ReaderAt base B W s.1
def Keep2 (A B : Nat) (w w' : World) : Prop := w.heap.size ≤ w'.heap.size ∧ ∀ q, q < w.heap.size → q ≠ A → q ≠ B → w'.heap[q]? = w.heap[q]?
theorem Keep2.refl (A B : Nat) (w : World) : Keep2 A B w w := ⟨Nat.le_refl _, fun _ _ _ _ => rfl⟩
theorem Keep2.trans {A B : Nat} {a b c : World} (h : Keep2 A B a b) (k : Keep2 A B b c) : Keep2 A B a c :=
  ⟨Nat.le_trans h.1 k.1, fun q hq h1 h2 => (k.2 q (Nat.lt_of_lt_of_le hq h.1) h1 h2).trans (h.2 q hq h1 h2)⟩
theorem Keep2.ofGrew {A B : Nat} {w w' : World} (g : Grew w w') : Keep2 A B w w' := ⟨g.below.size, fun q hq _ _ => g.below.block q hq⟩
theorem Keep2.set {A B : Nat} {w : World} {o : Nat} {v : Value} : Keep2 A B w (w.setCell ⟨A, o, none⟩ v) := ⟨by rw [World.size_setCell]; exact Nat.le_refl _, fun q hq h _ => set_other fun e => h e.symm⟩
theorem RdAt.ne {base A B : Nat} {W : World} {s : Gr.Rs} (h : RdAt base A B W s) : A ≠ B := fun e => by
  have h1 := h.2.1
  rw [e, h.2.2.2] at h1
  cases h1
theorem RdAt.grew {base A B : Nat} {W W' : World} {s : Gr.Rs} (h : RdAt base A B W s) (g : Grew W W') : RdAt base A B W' s := ⟨h.1, grew_heap g h.2.1, h.2.2.grew g⟩
theorem RdAt.put {base A B : Nat} {W W1 : World} {s : Gr.Rs} {z : List UInt8} {e : Int} (h : RdAt base A B W s) (hr : ReaderAt base B W1 z) (hk : Keep B W W1) : W1.heap[A]? = some (.cells #[.pointer (some ⟨B, 0, none⟩), .int .i64 s.2] 119) ∧ RdAt base A B (W1.setCell ⟨A, 1, none⟩ (.int .i64 e)) (z, e) := by
  have hA : W1.heap[A]? = some (.cells #[.pointer (some ⟨B, 0, none⟩), .int .i64 s.2] 119) := by rw [hk.2 A (heap_lt h.2.1) h.ne]; exact h.2.1
  exact ⟨hA, h.1, by rw [set_self hA]; rfl, hr.1, by rw [set_other h.ne]; exact hr.2⟩
end Go.Proofs.YtekkkmkhnphlhaaGreatDoor

/-! pack's reader: prog, end. -/
namespace Go.Proofs.YtekkkmkhnphlhaaGreatDoor
set_option linter.unusedSimpArgs false
set_option linter.unusedVariables false
open Go.RowKit Ga
set_option maxRecDepth 100000

end Go.Proofs.YtekkkmkhnphlhaaGreatDoor

/-! pack's reader: node. -/
namespace Go.Proofs.YtekkkmkhnphlhaaGreatDoor
set_option linter.unusedSimpArgs false
set_option linter.unusedVariables false
open Go.RowKit Ga
set_option maxRecDepth 100000

end Go.Proofs.YtekkkmkhnphlhaaGreatDoor

/-! pack's reader: nodes; sorted; GetGraph. -/
namespace Go.Proofs.YtekkkmkhnphlhaaGreatDoor
set_option linter.unusedSimpArgs false
set_option linter.unusedVariables false
open Go.RowKit Ga
set_option maxRecDepth 100000

end Go.Proofs.YtekkkmkhnphlhaaGreatDoor

/-! pack.sorted: the nodes stand by their numbers. -/
namespace Go.Proofs.YtekkkmkhnphlhaaGreatDoor
set_option linter.unusedSimpArgs false
set_option linter.unusedVariables false
open Go.RowKit Ga
set_option maxRecDepth 100000

end Go.Proofs.YtekkkmkhnphlhaaGreatDoor

/-! pack.GetGraph. -/
namespace Go.Proofs.YtekkkmkhnphlhaaGreatDoor
set_option linter.unusedSimpArgs false
set_option linter.unusedVariables false
open Go.RowKit Ga
set_option maxRecDepth 100000

theorem NodesAt.nil (w : World) : NodesAt w (.slice none 0 0) [] := ⟨[], RowsAt.nil, rfl, fun i c n h => by simp at h⟩
end Go.Proofs.YtekkkmkhnphlhaaGreatDoor

/-! [8]int: equal. -/
namespace Go.Proofs.YtekkkmkhnphlhaaGreatDoor
set_option linter.unusedSimpArgs false
set_option linter.unusedVariables false
open Go.RowKit Ga
set_option maxRecDepth 100000
set_option maxHeartbeats 4000000 in
theorem eq8 (r0 r1 r2 r3 r4 r5 r6 r7 s0 s1 s2 s3 s4 s5 s6 s7 : Int) (w : World) : (binOp .eql 58 (.agg #[.int .i64 r0, .int .i64 r1, .int .i64 r2, .int .i64 r3, .int .i64 r4, .int .i64 r5, .int .i64 r6, .int .i64 r7]) (.agg #[.int .i64 s0, .int .i64 s1, .int .i64 s2, .int .i64 s3, .int .i64 s4, .int .i64 s5, .int .i64 s6, .int .i64 s7])).run Tryz.prog w = .ok (.bool (decide ([r0, r1, r2, r3, r4, r5, r6, r7] = [s0, s1, s2, s3, s4, s5, s6, s7]))) w := by
  have u3 := Tryz.underlying3
  have a3 := Tryz.isAgg3
  have z3 := Tryz.sizeOf3
  obtain ⟨i, hi⟩ : ∃ i, Tryz.prog.info? 3 = some i := info_of_underlying u3
  rw [run_eql_struct, show (10000 : Nat) = 9999 + 1 from rfl, run_equalIn_array w 9999 _ _ Tryz.underlying58 hi]
  rw [show Tryz.prog.cellsOf 3 = 1 by kernel_rfl]
  rw [show List.range 8 = [0, 1, 2, 3, 4, 5, 6, 7] from rfl]
  simp only [Op.eqItems]
  go_simp
  by_cases h0 : r0 = s0
  · by_cases h1 : r1 = s1
    · by_cases h2 : r2 = s2
      · by_cases h3 : r3 = s3
        · by_cases h4 : r4 = s4
          · by_cases h5 : r5 = s5
            · by_cases h6 : r6 = s6
              · by_cases h7 : r7 = s7
                · simp [h0, h1, h2, h3, h4, h5, h6, h7]
                · simp [h0, h1, h2, h3, h4, h5, h6, h7]
              · simp [h0, h1, h2, h3, h4, h5, h6]
            · simp [h0, h1, h2, h3, h4, h5]
          · simp [h0, h1, h2, h3, h4]
        · simp [h0, h1, h2, h3]
      · simp [h0, h1, h2]
    · simp [h0, h1]
  · simp [h0]
end Go.Proofs.YtekkkmkhnphlhaaGreatDoor

/-! forebayref13.num, Node, Graph. -/
namespace Go.Proofs.YtekkkmkhnphlhaaGreatDoor
set_option linter.unusedSimpArgs false
set_option linter.unusedVariables false
open Go.RowKit Ga
set_option maxRecDepth 100000

end Go.Proofs.YtekkkmkhnphlhaaGreatDoor

/-! forebayref13.Graph. -/
namespace Go.Proofs.YtekkkmkhnphlhaaGreatDoor
set_option linter.unusedSimpArgs false
set_option linter.unusedVariables false
open Go.RowKit Ga
set_option maxRecDepth 100000

end Go.Proofs.YtekkkmkhnphlhaaGreatDoor

/-! forebayref08.Node, Same. -/
namespace Go.Proofs.YtekkkmkhnphlhaaGreatDoor
set_option linter.unusedSimpArgs false
set_option linter.unusedVariables false
open Go.RowKit Ga
set_option maxRecDepth 100000

open Classical in
/-- two nodes are one -/
noncomputable def eqNd (n m : Gr.Nd) : Bool := decide (n = m)
open Classical in
theorem eqNd_false {n m : Gr.Nd} (h : n ≠ m) : eqNd n m = false := by unfold eqNd; exact decide_eq_false h
open Classical in
theorem eqNd_true {n m : Gr.Nd} (h : n = m) : eqNd n m = true := by unfold eqNd; exact decide_eq_true h
theorem eqNd_iff {n m : Gr.Nd} {p : Prop} [Decidable p] (h : n = m ↔ p) : eqNd n m = decide p := by
  by_cases hp : p
  · rw [eqNd_true (h.2 hp), decide_eq_true hp]
  · rw [eqNd_false (fun q => hp (h.1 q)), decide_eq_false hp]
set_option maxHeartbeats 8000000 in
theorem refNode08_any (c d : NdC) (n m : Gr.Nd) (w : World) (hn : NodeIs w c n) (hm : NodeIs w d m) : Calls Tryz.prog 55 #[.agg #[.int .i64 c.id, .int .i64 c.kind, .slice c.af c.nf c.cf, .slice c.ap c.np c.cp, .int .i64 c.par, .int .i64 c.r0, .int .i64 c.r1, .int .i64 c.r2, .int .i64 c.r3, .int .i64 c.r4, .int .i64 c.r5, .int .i64 c.r6, .int .i64 c.r7], .agg #[.int .i64 d.id, .int .i64 d.kind, .slice d.af d.nf d.cf, .slice d.ap d.np d.cp, .int .i64 d.par, .int .i64 d.r0, .int .i64 d.r1, .int .i64 d.r2, .int .i64 d.r3, .int .i64 d.r4, .int .i64 d.r5, .int .i64 d.r6, .int .i64 d.r7]] w (Gives (.bool (eqNd n m)) w) := by
  have HF := Lib.hid hn.f
  have HF2 := Lib.hid hm.f
  have HS := Lib.hid fun W (g : Grew w W) => refSame_any _ _ n.prog m.prog W (hn.p.grew g) (hm.p.grew g)
  obtain ⟨id, kind, af, cf, ap, cp, par, r0, r1, r2, r3, r4, r5, r6, r7, rfl⟩ := hn.lit
  obtain ⟨id2, kind2, af2, cf2, ap2, cp2, par2, s0, s1, s2, s3, s4, s5, s6, s7, rfl⟩ := hm.lit
  have e1 := hn.id
  have e2 := hn.kind
  have e3 := hn.par
  have e4 := hn.route
  have g1 := hm.id
  have g2 := hm.kind
  have g3 := hm.par
  have g4 := hm.route
  simp only at e1 e2 e3 e4 g1 g2 g3 g4 HF HF2 HS
  have E1 := Lib.hid e1
  have E2 := Lib.hid e2
  have E3 := Lib.hid e3
  have E4 := Lib.hid e4
  have G1 := Lib.hid g1
  have G2 := Lib.hid g2
  have G3 := Lib.hid g3
  have G4 := Lib.hid g4
  obtain ⟨fn, hfn⟩ : ∃ fn, fn = n.frm := ⟨_, rfl⟩
  obtain ⟨fm, hfm⟩ : ∃ fm, fm = m.frm := ⟨_, rfl⟩
  have HFN := Lib.hid hfn
  have HFM := Lib.hid hfm
  rw [← hfn] at HF
  rw [← hfm] at HF2
  rw [← hfn, ← hfm]
  clear e1 e2 e3 e4 g1 g2 g3 g4 hn hm hfn hfm
  have H8 := Lib.hid (eq8 r0 r1 r2 r3 r4 r5 r6 r7 s0 s1 s2 s3 s4 s5 s6 s7)
  show Calls Tryz.prog 55 #[.agg #[.int .i64 id, .int .i64 kind, .slice af fn.length cf, .slice ap n.prog.length cp, .int .i64 par, .int .i64 r0, .int .i64 r1, .int .i64 r2, .int .i64 r3, .int .i64 r4, .int .i64 r5, .int .i64 r6, .int .i64 r7], .agg #[.int .i64 id2, .int .i64 kind2, .slice af2 fm.length cf2, .slice ap2 m.prog.length cp2, .int .i64 par2, .int .i64 s0, .int .i64 s1, .int .i64 s2, .int .i64 s3, .int .i64 s4, .int .i64 s5, .int .i64 s6, .int .i64 s7]] w _
  by_cases hlen : fn.length = fm.length
  · have hne : ((fn.length : Int) != (fm.length : Int)) = false := by simp; omega
    have HLEN := Lib.hid hlen
    clear hlen
    go_enter Tryz.func55, Tryz.ntmps55
    go_wp2
    go_loopg [5] fn.length (fun gg z5 wr => ∃ g : Nat, g ≤ fn.length ∧ fn.length - g ≤ gg ∧ z5 = .int .i64 g ∧ Hid (Grew w wr) ∧ Hid (wr.heap[w.heap.size]? = some (.cells #[.int .i64 id, .int .i64 kind, .slice af fn.length cf, .slice ap n.prog.length cp, .int .i64 par, .int .i64 r0, .int .i64 r1, .int .i64 r2, .int .i64 r3, .int .i64 r4, .int .i64 r5, .int .i64 r6, .int .i64 r7] 60)) ∧ Hid (wr.heap[w.heap.size + 1]? = some (.cells #[.int .i64 id2, .int .i64 kind2, .slice af2 fm.length cf2, .slice ap2 m.prog.length cp2, .int .i64 par2, .int .i64 s0, .int .i64 s1, .int .i64 s2, .int .i64 s3, .int .i64 s4, .int .i64 s5, .int .i64 s6, .int .i64 s7] 60)) ∧ Hid (∀ j (h1 : j < fn.length) (h2 : j < fm.length), j < g → fn[j] = fm[j]))
    case atStart => exact ⟨0, by omega, by omega, rfl, Lib.hid (by repeat (first | with_reducible exact Grew.refl _ | apply Grew.more | apply Grew.alloc | apply Grew.drew | apply Grew.drewN)), Lib.hid (heap_alloc_old (heap_new_at w _ _ rfl) _), Lib.hid (heap_new_at _ _ _ (by rw [World.size_alloc])), Lib.hid fun j _ _ h => by omega⟩
    case round =>
      obtain ⟨g, hg8, hgg, rfl, HGR, HBX, HBY, HNO⟩ := hrel
      have c0 := cell_of (o := 0) HBX.out
      have d0 := cell_of (o := 0) HBY.out
      have c1 := cell_of (o := 1) HBX.out
      have d1 := cell_of (o := 1) HBY.out
      have c2 := cell_of (o := 2) HBX.out
      have d2 := cell_of (o := 2) HBY.out
      have c3 := cell_of (o := 3) HBX.out
      have d3 := cell_of (o := 3) HBY.out
      have c4 := cell_of (o := 4) HBX.out
      have d4 := cell_of (o := 4) HBY.out
      have c5 := cell_of (o := 5) HBX.out
      have d5 := cell_of (o := 5) HBY.out
      have c6 := cell_of (o := 6) HBX.out
      have d6 := cell_of (o := 6) HBY.out
      have c7 := cell_of (o := 7) HBX.out
      have d7 := cell_of (o := 7) HBY.out
      have c8 := cell_of (o := 8) HBX.out
      have d8 := cell_of (o := 8) HBY.out
      have c9 := cell_of (o := 9) HBX.out
      have d9 := cell_of (o := 9) HBY.out
      have c10 := cell_of (o := 10) HBX.out
      have d10 := cell_of (o := 10) HBY.out
      have c11 := cell_of (o := 11) HBX.out
      have d11 := cell_of (o := 11) HBY.out
      have c12 := cell_of (o := 12) HBX.out
      have d12 := cell_of (o := 12) HBY.out
      have px := Pre.mk (heap_lt HBX.out)
      have py := Pre.mk (heap_lt HBY.out)
      simp at c0 d0 c1 d1 c2 d2 c3 d3 c4 d4 c5 d5 c6 d6 c7 d7 c8 d8 c9 d9 c10 d10 c11 d11 c12 d12
      by_cases hlt : g < fn.length
      · obtain ⟨af', cf', e, hfb, hx⟩ := ints_open (HF.out.grew HGR.out)
        cases e
        obtain ⟨bf, offf, rfl, hpf, cx⟩ := hx g hlt
        obtain ⟨af3, cf3, e, -, hy⟩ := ints_open (HF2.out.grew HGR.out)
        cases e
        have hlt2 : g < fm.length := by have := HLEN.out; omega
        obtain ⟨bg, offg, rfl, hpg, cy⟩ := hy g hlt2
        have hmeas : fn.length - (g + 1) < fn.length - g := by omega
        have hg1 : g + 1 ≤ fn.length := hlt
        have HMEAS := Lib.hid (And.intro hmeas hg1)
        clear hmeas hg1 hx hy c0 d0 c1 d1 c3 d3 c4 d4 c5 d5 c6 d6 c7 d7 c8 d8 c9 d9 c10 d10 c11 d11 c12 d12
        by_cases hxy : fn[g] = fm[g]
        · have HXYZ := Lib.hid hxy
          rw [← hxy] at cy
          clear hxy
          generalize hgx : fn[g] = x at *
          have HGX := Lib.hid hgx
          clear hgx
          go_wp2_with fail
          go_quiet (fail)
          go_wp2
          go_roundg (fn.length - (g + 1))
          case measure => (have := HMEAS.out; omega)
          case rel => exact ⟨g + 1, HMEAS.out.2, Nat.le_refl _, by go_num, Lib.hid (HGR.out.trans (by repeat (first | with_reducible exact Grew.refl _ | apply Grew.more | apply Grew.alloc | apply Grew.drew | apply Grew.drewN))), Lib.hid (grew_heap (by repeat (first | with_reducible exact Grew.refl _ | apply Grew.more | apply Grew.alloc | apply Grew.drew | apply Grew.drewN)) HBX.out), Lib.hid (grew_heap (by repeat (first | with_reducible exact Grew.refl _ | apply Grew.more | apply Grew.alloc | apply Grew.drew | apply Grew.drewN)) HBY.out), Lib.hid fun j h1 h2 h => by
            rcases Nat.lt_or_ge j g with h3 | h3
            · exact HNO.out j h1 h2 h3
            · obtain rfl : j = g := by omega
              rw [HGX.out]
              exact HXYZ.out⟩
        · have hno : eqNd n m = false := eqNd_false fun h => hxy (by
            have := HFN.out.trans ((congrArg Gr.Nd.frm h).trans HFM.out.symm)
            subst this
            rfl)
          have HNO2 := Lib.hid hno
          have hxb : (fn[g] != fm[g]) = true := by rw [bne_iff_ne]; exact hxy
          clear hno hxy
          generalize fn[g] = x at *
          generalize fm[g] = y at *
          go_wp2_with fail
          go_quiet (fail)
          go_wp2
          go_ret
          exact ⟨by rw [HNO2.out]; rfl, HGR.out.trans (by repeat (first | with_reducible exact Grew.refl _ | apply Grew.more | apply Grew.alloc | apply Grew.drew | apply Grew.drewN))⟩
      · obtain rfl : g = fn.length := by omega
        have hff : fn = fm := List.ext_getElem HLEN.out fun j h1 h2 => HNO.out j h1 h2 h1
        have HFF := Lib.hid (HFN.out.symm.trans (hff.trans HFM.out))
        clear hff
        by_cases i0 : id = id2
        · by_cases k0 : kind = kind2
          · by_cases p0 : par = par2
            · by_cases r0e : ([r0, r1, r2, r3, r4, r5, r6, r7] : List Int) = [s0, s1, s2, s3, s4, s5, s6, s7]
              · have hR := Lib.hid r0e
                have h8 := fun W => (H8.out W).trans (by rw [decide_eq_true r0e])
                have hdec : eqNd n m = decide (n.prog = m.prog) := by
                  refine eqNd_iff ⟨fun h => by rw [h], fun h => ?_⟩
                  obtain ⟨a1, a2, a3, a4, a5, a6⟩ := n
                  obtain ⟨b1, b2, b3, b4, b5, b6⟩ := m
                  have q1 := E1.out
                  have q2 := G1.out
                  have q3 := E2.out
                  have q4 := G2.out
                  have q5 := E3.out
                  have q6 := G3.out
                  have q7 := E4.out
                  have q8 := G4.out
                  have q9 := HFF.out
                  simp only at q1 q2 q3 q4 q5 q6 q7 q8 q9 h
                  rw [q1, q2, q3, q4, q5, q6, q7, q8, q9, h, i0, k0, p0, r0e]
                have HDEC := Lib.hid hdec
                subst i0 k0 p0
                clear hdec r0e
                generalize decide (n.prog = m.prog) = q at *
                go_wp2_with (go_at_call 115; refine (HS.out _ (HGR.out.trans (by repeat (first | with_reducible exact Grew.refl _ | apply Grew.more | apply Grew.alloc | apply Grew.drew | apply Grew.drewN)))).mono ?_; rintro e w2 ⟨rfl, R5, n5, rfl⟩)
                go_ret
                exact ⟨by rw [HDEC.out]; rfl, HGR.out.trans (by repeat (first | with_reducible exact Grew.refl _ | apply Grew.more | apply Grew.alloc | apply Grew.drew | apply Grew.drewN))⟩
              · have h8 := fun W => (H8.out W).trans (by rw [decide_eq_false r0e])
                subst i0 k0 p0
                have hno : eqNd n m = false := eqNd_false fun h => r0e (E4.out.symm.trans ((congrArg Gr.Nd.route h).trans G4.out))
                have HNO2 := Lib.hid hno
                clear hno
                clear r0e
                go_wp2
                go_ret
                exact ⟨by rw [HNO2.out]; rfl, HGR.out⟩
            · subst i0 k0
              have p0b : (par == par2) = false := by simpa using p0
              have hno : eqNd n m = false := eqNd_false fun h => p0 (E3.out.symm.trans ((congrArg Gr.Nd.par h).trans G3.out))
              have HNO2 := Lib.hid hno
              clear hno
              clear p0
              go_wp2
              go_ret
              exact ⟨by rw [HNO2.out]; rfl, HGR.out⟩
          · subst i0
            have k0b : (kind == kind2) = false := by simpa using k0
            have hno : eqNd n m = false := eqNd_false fun h => k0 (E2.out.symm.trans ((congrArg Gr.Nd.kind h).trans G2.out))
            have HNO2 := Lib.hid hno
            clear hno
            clear k0
            go_wp2
            go_ret
            exact ⟨by rw [HNO2.out]; rfl, HGR.out⟩
        · have i0b : (id == id2) = false := by simpa using i0
          have hno : eqNd n m = false := eqNd_false fun h => i0 (E1.out.symm.trans ((congrArg Gr.Nd.id h).trans G1.out))
          have HNO2 := Lib.hid hno
          clear hno
          clear i0
          go_wp2
          go_ret
          exact ⟨by rw [HNO2.out]; rfl, HGR.out⟩
  · have hne : ((fn.length : Int) != (fm.length : Int)) = true := by rw [bne_iff_ne]; omega
    have hno : eqNd n m = false := eqNd_false fun h => hlen (by
      have := HFN.out.trans ((congrArg Gr.Nd.frm h).trans HFM.out.symm)
      rw [this])
    rw [hno]
    clear hno hlen
    go_enter Tryz.func55, Tryz.ntmps55
    go_wp2
    go_ret
    refine ⟨rfl, ?_⟩
    repeat (first | with_reducible exact Grew.refl _ | apply Grew.more | apply Grew.alloc | apply Grew.drew | apply Grew.drewN)
end Go.Proofs.YtekkkmkhnphlhaaGreatDoor

/-! forebayref08.Same. -/
namespace Go.Proofs.YtekkkmkhnphlhaaGreatDoor
set_option linter.unusedSimpArgs false
set_option linter.unusedVariables false
open Go.RowKit Ga
set_option maxRecDepth 100000

open Classical in
theorem eqNd_eq {n m : Gr.Nd} (h : eqNd n m = true) : n = m := by
  unfold eqNd at h
  exact of_decide_eq_true h
open Classical in
/-- the same graph, as the document has it -/
noncomputable def sameG (l m : List Gr.Nd) : Bool := decide (l.length = m.length ∧ ∀ n ∈ l, Gr.nodeOf m n.id = some n)
open Classical in
theorem sameG_true {l m : List Gr.Nd} (h1 : l.length = m.length) (h2 : ∀ i (hi : i < l.length), Gr.nodeOf m l[i].id = some l[i]) : sameG l m = true := by
  unfold sameG
  exact decide_eq_true ⟨h1, fun n hn => by
    obtain ⟨i, hi, rfl⟩ := List.mem_iff_getElem.1 hn
    exact h2 i hi⟩
open Classical in
theorem sameG_len {l m : List Gr.Nd} (h1 : l.length ≠ m.length) : sameG l m = false := by
  unfold sameG
  exact decide_eq_false fun h => h1 h.1
open Classical in
theorem sameG_no {l m : List Gr.Nd} {i : Nat} (hi : i < l.length) (h2 : Gr.nodeOf m l[i].id ≠ some l[i]) : sameG l m = false := by
  unfold sameG
  exact decide_eq_false fun h => h2 (h.2 _ (List.getElem_mem hi))
set_option maxHeartbeats 16000000 in
theorem refSame08_any (v u : Value) (l m : List Gr.Nd) (w : World) (hv : NodesAt w v l) (hu : NodesAt w u m) : Calls Tryz.prog 22 #[v, u] w (Gives (.bool (sameG l m)) w) := by
  have HV := Lib.hid hv
  have HU := Lib.hid hu
  obtain ⟨a, cap, rfl, hm, -⟩ := hv.openC
  obtain ⟨a2, cap2, rfl, hm2, -⟩ := hu.openC
  clear hv hu
  by_cases hlen : l.length = m.length
  · have hne : ((l.length : Int) != (m.length : Int)) = false := by simp; omega
    have HLEN := Lib.hid hlen
    clear hlen
    go_enter Tryz.func22, Tryz.ntmps22
    go_wp2
    go_loopg [5] l.length (fun gg s5 wr => ∃ g : Nat, g ≤ l.length ∧ l.length - g ≤ gg ∧ s5 = .int .i64 g ∧ Hid (Grew w wr) ∧ Hid (∀ i (hi : i < l.length), i < g → Gr.nodeOf m l[i].id = some l[i]))
    case atStart => exact ⟨0, by omega, by omega, rfl, Lib.hid (by repeat (first | with_reducible exact Grew.refl _ | apply Grew.more | apply Grew.alloc | apply Grew.drew | apply Grew.drewN)), Lib.hid fun i _ h => by omega⟩
    case round =>
      obtain ⟨g, hg8, hgg, rfl, HGR, HNO⟩ := hrel
      by_cases hlt : g < l.length
      · obtain ⟨av, cv, e, -, hx⟩ := (HV.out.grew HGR.out).openC
        cases e
        obtain ⟨b, off, c, rfl, hb, hn, c0, c1, c2, c3, c4, c5, c6, c7, c8, c9, c10, c11, c12⟩ := hx g hlt
        have eid := hn.id
        have HF := Lib.hid fun W (gr : Grew wr W) => (by have := refFind08_any _ m l[g].id W ((HU.out.grew HGR.out).grew gr); rw [eid] at this; exact this)
        have HEID := Lib.hid eid
        have hsn : ∀ q, Gr.nodeOf m l[g].id = q → q ≠ some l[g] → sameG l m = false := fun q h1 h2 => sameG_no hlt (by rw [h1]; exact h2)
        have HSN := Lib.hid hsn
        clear hx hsn
        generalize hy : l[g] = y at *
        have HY := Lib.hid hy
        clear hy
        cases hf : Gr.find m c.id with
        | none =>
          have hi := findI_none hf
          have HI := Lib.hid hi
          have hno : sameG l m = false := HSN.out none (by unfold Gr.nodeOf; rw [HEID.out, hf]; rfl) (by simp)
          have HNOS := Lib.hid hno
          clear hi hf hno eid
          obtain ⟨cid, kind, af, cf, ap, cp, par, r0, r1, r2, r3, r4, r5, r6, r7, rfl⟩ := hn.lit
          simp only at c0 c1 c2 c3 c4 c5 c6 c7 c8 c9 c10 c11 c12
          clear hn
          go_upto_region 7 with (go_at_call 45; refine (HF.out _ (by repeat (first | with_reducible exact Grew.refl _ | apply Grew.more | apply Grew.alloc | apply Grew.drew | apply Grew.drewN))).mono ?_; rintro e w1 ⟨rfl, hw1⟩; obtain rfl := hw1.symm; rw [HI.out])
          go_quiet (fail)
          go_wp2
          go_ret
          exact ⟨by rw [HNOS.out]; rfl, HGR.out.trans (by repeat (first | with_reducible exact Grew.refl _ | apply Grew.more | apply Grew.alloc | apply Grew.drew | apply Grew.drewN))⟩
        | some j =>
          obtain ⟨hi, hjl⟩ := findI_some hf
          have HI := Lib.hid hi
          obtain ⟨av2, cv2, e, -, hz⟩ := (HU.out.grew HGR.out).openC
          cases e
          obtain ⟨b2, off2, d, rfl, hb2, hn2, d0, d1, d2, d3, d4, d5, d6, d7, d8, d9, d10, d11, d12⟩ := hz j hjl
          have hnode : Gr.nodeOf m y.id = some m[j] := by unfold Gr.nodeOf; rw [HEID.out, hf, Option.bind_some, List.getElem?_eq_getElem hjl]
          have hj0 : decide ((j : Int) < 0) = false := decide_eq_false (by omega)
          have hj1 : (j : Int) < (m.length : Int) := by omega
          have HNODE := Lib.hid hnode
          clear hz hf hi hnode eid
          generalize m[j] = z at *
          have HN := Lib.hid fun W (gr : Grew wr W) => refNode08_any c d y z W (hn.grew gr) (hn2.grew gr)
          obtain ⟨cid, kind, af, cf, ap, cp, par, r0, r1, r2, r3, r4, r5, r6, r7, rfl⟩ := hn.lit
          obtain ⟨cid2, kind2, af2, cf2, ap2, cp2, par2, s0, s1, s2, s3, s4, s5, s6, s7, rfl⟩ := hn2.lit
          simp only at c0 c1 c2 c3 c4 c5 c6 c7 c8 c9 c10 c11 c12 d0 d1 d2 d3 d4 d5 d6 d7 d8 d9 d10 d11 d12
          clear hn hn2
          generalize heq : eqNd y z = q at *
          have HEQ := Lib.hid heq
          clear heq
          go_upto_region 7 with (go_at_call 45; refine (HF.out _ (by repeat (first | with_reducible exact Grew.refl _ | apply Grew.more | apply Grew.alloc | apply Grew.drew | apply Grew.drewN))).mono ?_; rintro e w1 ⟨rfl, hw1⟩; obtain rfl := hw1.symm; rw [HI.out])
          refine wp_region_seq 14 Tryz.mixed (by kernel_rfl) (by kernel_rfl) ?_
          iterate 14
            apply Seq.val
            focus
              rintro w1 u ⟨R1, n1, rfl⟩ hF
              simp [moreFacts, Fact.more, Oper.deps, Region.binds, List.filter_cons, World.more_drew] at hF
              simp [putFacts, Oper.deps, Region.binds, List.filter_cons, Region.dstOf, Fact.at, Act.put, World.more_drew]
              go_wp2_with (go_at_call 55; refine (HN.out _ (by repeat (first | with_reducible exact Grew.refl _ | apply Grew.more | apply Grew.alloc | apply Grew.drew | apply Grew.drewN))).mono ?_; rintro e w2 ⟨rfl, R5, n5, rfl⟩)
              exact ⟨by repeat (first | with_reducible exact Grew.refl _ | apply Grew.more | apply Grew.alloc | apply Grew.drew | apply Grew.drewN), rfl, _, _, rfl, rfl, rfl⟩
          rintro u w1 ⟨R1, n1, rfl⟩ hF
          clear hF
          simp [putFacts, Region.dstOf, Fact.at, Act.put, List.range_succ, World.more_drew]
          cases q with
          | true =>
            go_wp2
            go_roundg (l.length - (g + 1))
            case measure => omega
            case rel => exact ⟨g + 1, by omega, by omega, by go_num, Lib.hid (HGR.out.trans (by repeat (first | with_reducible exact Grew.refl _ | apply Grew.more | apply Grew.alloc | apply Grew.drew | apply Grew.drewN))), Lib.hid fun i hi h => by
              by_cases e : i = g
              · subst e
                have e2 : l[i] = y := HY.out
                rw [e2, HNODE.out, eqNd_eq HEQ.out]
              · exact HNO.out i hi (by omega)⟩
          | false =>
            have hno : sameG l m = false := HSN.out (some z) HNODE.out (fun h => by rw [Option.some.injEq] at h; have := HEQ.out; rw [eqNd_true h.symm] at this; cases this)
            have HNOS := Lib.hid hno
            clear hno
            go_wp2
            go_ret
            exact ⟨by rw [HNOS.out]; rfl, HGR.out.trans (by repeat (first | with_reducible exact Grew.refl _ | apply Grew.more | apply Grew.alloc | apply Grew.drew | apply Grew.drewN))⟩
      · obtain rfl : g = l.length := by omega
        have hok := sameG_true HLEN.out fun i hi => HNO.out i hi hi
        have HOK := Lib.hid hok
        clear hok
        go_wp2
        go_ret
        exact ⟨by rw [HOK.out]; rfl, HGR.out⟩
  · have hne : ((l.length : Int) != (m.length : Int)) = true := by rw [bne_iff_ne]; omega
    rw [sameG_len hlen]
    clear hlen
    go_enter Tryz.func22, Tryz.ntmps22
    go_wp2
    go_ret
    refine ⟨rfl, ?_⟩
    repeat (first | with_reducible exact Grew.refl _ | apply Grew.more | apply Grew.alloc | apply Grew.drew | apply Grew.drewN)

end Go.Proofs.YtekkkmkhnphlhaaGreatDoor
