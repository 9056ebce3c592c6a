import Derived.Test.YthlmmfljeblflaaGreatDoorMc32
import Derived.Test.YthlmmfljeblflaaGreatDoorMc19
import Derived.Test.YthlmmfljeblflaaGreatDoorMc5
import Derived.ChangeKeysEq
import Derived.Deep.LoopGhost
import Derived.Test.YthlmmfljeblflaaGreatDoorMc28
import Derived.Test.YthlmmfljeblflaaGreatDoorMc9
/-! graph.Check tells what the document calls right. -/
namespace Go.Proofs.YthlmmfljeblflaaGreatDoor
set_option linter.unusedSimpArgs false
set_option linter.unusedVariables false
open Go.RowKit Ga
set_option maxRecDepth 100000

theorem nodeB_iff (l : List Gr.Nd) (n : Gr.Nd) : nodeB l n = true ↔ Gr.OkP l n := by
  unfold nodeB
  simp only [Bool.and_eq_true, decide_eq_true_eq, Bool.not_eq_true']
  have hk : kindB n = true ↔ (n.kind = 0 ∧ n.id = 0 ∧ n.frm.length = 0 ∧ n.prog.length = 0) ∨ (n.kind = 1 ∧ n.id ≠ 0 ∧ n.frm.length = 1 ∧ Vm.safe n.prog = true) ∨ (n.kind = 2 ∧ n.id ≠ 0 ∧ 1 ≤ n.frm.length ∧ n.frm.length ≤ 3 ∧ n.frm.Nodup ∧ n.prog.length = 0) := by
    unfold kindB
    by_cases k0 : n.kind = 0
    · rw [if_pos k0]
      simp only [Bool.and_eq_true, decide_eq_true_eq, beq_iff_eq]
      constructor
      · rintro ⟨h1, h2, h3⟩; exact .inl ⟨k0, h1, h2, h3⟩
      · rintro (⟨_, h1, h2, h3⟩ | ⟨h, _⟩ | ⟨h, _⟩)
        · exact ⟨h1, h2, h3⟩
        · omega
        · omega
    · rw [if_neg k0]
      by_cases k1 : n.kind = 1
      · rw [if_pos k1]
        simp only [Bool.and_eq_true, decide_eq_true_eq, bne_iff_ne]
        constructor
        · rintro ⟨h1, h2, h3⟩; exact .inr (.inl ⟨k1, h1, h2, h3⟩)
        · rintro (⟨h, _⟩ | ⟨_, h1, h2, h3⟩ | ⟨h, _⟩)
          · omega
          · exact ⟨h1, h2, h3⟩
          · omega
      · rw [if_neg k1]
        by_cases k2 : n.kind = 2
        · rw [if_pos k2]
          simp only [Bool.and_eq_true, decide_eq_true_eq, bne_iff_ne]
          constructor
          · rintro ⟨h1, h2, h3, h4, h5⟩; exact .inr (.inr ⟨k2, h1, h2, h3, h4, h5⟩)
          · rintro (⟨h, _⟩ | ⟨h, _⟩ | ⟨_, h1, h2, h3, h4, h5⟩)
            · omega
            · omega
            · exact ⟨h1, h2, h3, h4, h5⟩
        · rw [if_neg k2]
          constructor
          · intro h; cases h
          · rintro (⟨h, _⟩ | ⟨h, _⟩ | ⟨h, _⟩) <;> omega
  have hr : routeB n = true ↔ 1 ≤ n.par ∧ n.par ≤ 3 ∧ ∀ g ∈ n.route, 0 ≤ g ∧ g < n.par := by
    unfold routeB
    simp only [Bool.and_eq_true, decide_eq_true_eq, Bool.not_eq_true', List.any_eq_false]
    refine and_congr_right fun _ => and_congr_right fun _ => forall_congr' fun g => forall_congr' fun _ => ?_
    unfold badT
    simp only [Bool.or_eq_true, decide_eq_true_eq]
    omega
  have ha : n.frm.any (aboveB l) = false ↔ ∀ f ∈ n.frm, ∃ j m, Gr.find l f = some j ∧ l[j]? = some m ∧ m.kind ≠ 2 := by
    rw [List.any_eq_false]
    refine forall_congr' fun f => forall_congr' fun _ => ?_
    unfold aboveB Gr.nodeOf
    cases hf : Gr.find l f with
    | none => simp
    | some j =>
      obtain ⟨m, hm, -⟩ := Gr.find_some hf
      rw [Option.bind_some, hm]
      simp only [beq_iff_eq]
      constructor
      · intro h; exact ⟨j, m, rfl, hm, h⟩
      · rintro ⟨j', m', h1, h2, h3⟩
        cases h1
        rw [hm] at h2
        cases h2
        exact h3
  rw [hk, hr, ha]
  constructor
  · rintro ⟨h1, h2, h3, ⟨h4, h5, h6⟩, h7⟩
    exact ⟨h1, h2, h3, h4, h5, h6, h7⟩
  · rintro ⟨h1, h2, h3, h4, h5, h6, h7⟩
    exact ⟨h1, h2, h3, ⟨h4, h5, h6⟩, h7⟩
open Classical in
/-- the error that graph.Check tells -/
noncomputable def checkR (l : List Gr.Nd) : Int := if 8 < l.length then 6 else if Gr.RightR l then 0 else 10
theorem checkR_long {l : List Gr.Nd} (h : 8 < l.length) : checkR l = 6 := by unfold checkR; rw [if_pos h]
theorem checkR_bad {l : List Gr.Nd} (h8 : l.length ≤ 8) (h : ¬ Gr.RightR l) : checkR l = 10 := by unfold checkR; rw [if_neg (by omega), if_neg h]
theorem checkR_ok {l : List Gr.Nd} (h8 : l.length ≤ 8) (h : Gr.RightR l) : checkR l = 0 := by unfold checkR; rw [if_neg (by omega), if_pos h]
theorem right_self (l : List Gr.Nd) : Gr.RightR l ↔ Gr.RightP l l := Gr.right_iff (List.Perm.refl l)
def idsT (l : List Gr.Nd) (k : Nat) : List Int := (l.take k).map (·.id)
theorem idsT_succ {l : List Gr.Nd} {k : Nat} (h : k < l.length) : idsT l (k + 1) = idsT l k ++ [l[k].id] := by
  unfold idsT
  rw [List.take_succ_eq_append_getElem h, List.map_append]
  rfl
set_option maxHeartbeats 8000000 in
theorem check_graph (v : Value) (l : List Gr.Nd) (w : World) (hv : NodesAt w v l) (hs : Small l) : Calls Tryz.prog 31 #[v] w (Gives (.int .i64 (checkR l)) w) := by
  have HV := Lib.hid hv
  have HS := Lib.hid hs
  obtain ⟨a, cap, rfl, hm, -⟩ := hv.openC
  clear hv hs
  by_cases h8 : 8 < l.length
  · rw [checkR_long h8]
    have h8' : (8 : Int) < (l.length : Int) := by omega
    go_enter Tryz.func31, Tryz.ntmps31
    go_wp2
    go_ret
    refine ⟨rfl, ?_⟩
    repeat (first | with_reducible exact Grew.refl _ | apply Grew.more | apply Grew.alloc | apply Grew.drew | apply Grew.drewN)
  · have h8' : ¬ (8 : Int) < (l.length : Int) := by omega
    go_enter Tryz.func31, Tryz.ntmps31
    go_wp2
    go_loopg [3, 11] l.length (fun gg s3 s11 wr => ∃ (k : Nat) (vk : Value), k ≤ l.length ∧ l.length - k ≤ gg ∧ s11 = .int .i64 k ∧ vk = s3 ∧ Hid (Grew w wr) ∧ Hid (OwnAt w.heap.size 3 1 encN wr vk (idsT l k)) ∧ Hid (∀ j (hj : j < l.length), j < k → nodeB l l[j] = true))
    case atStart => exact ⟨0, _, Nat.zero_le _, by omega, rfl, rfl, Lib.hid (by repeat (first | with_reducible exact Grew.refl _ | apply Grew.more | apply Grew.alloc | apply Grew.drew | apply Grew.drewN)), Lib.hid (OwnAt.nil _), Lib.hid fun j _ h => by omega⟩
    case round =>
      obtain ⟨k, vk, hk, hgg, rfl, rfl, HG, HO, HNO⟩ := hrel
      obtain ⟨ak, ck, rfl⟩ := (HO.out.rows encN_len).len
      have hil : (idsT l k).length = k := by unfold idsT; rw [List.length_map, List.length_take, Nat.min_eq_left hk]
      rw [hil] at HO
      rw [hil]
      by_cases hlt : k < l.length
      · obtain ⟨a', cap', e, -, hx⟩ := (HV.out.grew HG.out).openC
        cases e
        obtain ⟨b, off, c, rfl, hb, hn, c0, c1, c2, c3, c4, c5, c6, c7, c8, c9, c10, c11, c12⟩ := hx k hlt
        have hst := (HS.out _ (List.getElem_mem hlt)).1
        have hsu := idsT_succ hlt
        have HSU := Lib.hid hsu
        have HIL := Lib.hid hil
        have hw1 := nodeB_iff l l[k]
        clear hx hsu hil
        generalize hy : l[k] = y at *
        have HY := Lib.hid hy
        have HB := Lib.hid fun W (g : Grew wr W) => node_any c y _ l W (hn.grew g) ((HV.out.grew HG.out).grew g) HS.out hst
        have hid := hn.id
        have HNc := Lib.hid hn
        obtain ⟨cid, kind, af, cf, ap, cp, par, r0, r1, r2, r3, r4, r5, r6, r7, rfl⟩ := hn.lit
        simp only at c0 c1 c2 c3 c4 c5 c6 c7 c8 c9 c10 c11 c12 hid HB
        have HID := Lib.hid hid
        have HW1 := Lib.hid hw1
        clear hn hid hw1 hy
        cases hq : nodeB l y with
        | false =>
          have hbad : ¬ Gr.RightR l := fun h => by
            have h2 := ((right_self l).1 h).ok y (by rw [← HY.out]; exact List.getElem_mem hlt)
            rw [← HW1.out, hq] at h2
            cases h2
          have he := checkR_bad (by omega) hbad
          have HE := Lib.hid he
          rw [hq] at HB
          clear he hbad hq
          go_wp2_with (go_at_call 59; refine (HB.out _ (by repeat (first | with_reducible exact Grew.refl _ | apply Grew.more | apply Grew.alloc | apply Grew.drew | apply Grew.drewN))).mono ?_; rintro e w1 ⟨rfl, R3, n3, rfl⟩)
          go_ret
          refine ⟨by rw [HE.out]; rfl, HG.out.trans ?_⟩
          repeat (first | with_reducible exact Grew.refl _ | apply Grew.more | apply Grew.alloc | apply Grew.drew | apply Grew.drewN)
        | true =>
          have HQ := Lib.hid hq
          rw [hq] at HB
          clear hq
          go_wp2_with (first
            | (go_at_call 59; refine (HB.out _ (by repeat (first | with_reducible exact Grew.refl _ | apply Grew.more | apply Grew.alloc | apply Grew.drew | apply Grew.drewN))).mono ?_; rintro e w1 ⟨rfl, R3, n3, rfl⟩)
            | (at_builtin; go_loud (refine wpList_ownK (w0 := w) rfl (.tmp 19) (.tmp 22) 29 _ _ _ _ [cid] rfl Tryz.underlying29 infoInt1 rfl (by decide) encN_len encN_one rfl (OwnAt.grew HO.out (by repeat (first | with_reducible exact Grew.refl _ | apply Grew.more | apply Grew.alloc | apply Grew.drew | apply Grew.drewN))) (HG.out.trans (by repeat (first | with_reducible exact Grew.refl _ | apply Grew.more | apply Grew.alloc | apply Grew.drew | apply Grew.drewN))) rfl (int_at _ _ _ _ rfl (by simp [go_sem])) (by rw [HIL.out]; simp; omega) (by decide) (by simp) ?_; intro v5 W5 hA; (have HA := Lib.hid hA); clear hA)))
          have hr1 : OwnAt w.heap.size 3 1 encN W5 v5 (idsT l (k + 1)) := by
            rw [HSU.out, HID.out]
            exact HA.out.2.1
          have HR1 := Lib.hid hr1
          clear hr1
          go_roundg (l.length - (k + 1))
          case measure => omega
          case rel => exact ⟨k + 1, _, by omega, by omega, by go_num, rfl, Lib.hid HA.out.1, HR1, Lib.hid fun j hj h => by
            rcases Nat.lt_or_ge j k with h1 | h1
            · exact HNO.out j hj h1
            · obtain rfl : j = k := by omega
              rw [HY.out]
              exact HQ.out⟩
      · obtain rfl : k = l.length := by omega
        have hids : idsT l l.length = Gr.ids l := by unfold idsT Gr.ids; rw [List.take_length]
        rw [hids] at HO
        have hall : ∀ n ∈ l, Gr.OkP l n := fun n hn => by
          obtain ⟨j, hj, rfl⟩ := List.mem_iff_getElem.1 hn
          exact (nodeB_iff l _).1 (HNO.out j hj hj)
        have HALL := Lib.hid hall
        have HU := Lib.hid fun W (g : Grew wr W) => unlike_any _ (Gr.ids l) W ((HO.out.rows encN_len).grew g) (by unfold Gr.ids; rw [List.length_map]; omega)
        have HC := Lib.hid fun W (g : Grew wr W) => containsI_any _ (Gr.ids l) 0 W ((HO.out.rows encN_len).grew g)
        have HT := Lib.hid fun W (g : Grew wr W) => sort_any _ l W ((HV.out.grew HG.out).grew g) HS.out (by omega)
        clear hil hids hall
        by_cases hu : (Gr.ids l).Nodup
        · by_cases hz : (0 : Int) ∈ Gr.ids l
          · rw [decide_eq_true hu] at HU
            rw [decide_eq_true hz] at HC
            have HUZ := Lib.hid (And.intro hu hz)
            clear hu hz
            go_wp2_with (first
              | (go_at_call 60; refine (HU.out _ (by repeat (first | with_reducible exact Grew.refl _ | apply Grew.more | apply Grew.alloc | apply Grew.drew | apply Grew.drewN))).mono ?_; rintro e w1 ⟨rfl, R3, n3, rfl⟩)
              | (go_at_call 61; refine (HC.out _ (by repeat (first | with_reducible exact Grew.refl _ | apply Grew.more | apply Grew.alloc | apply Grew.drew | apply Grew.drewN))).mono ?_; rintro e w1 ⟨rfl, hw1⟩; obtain rfl := hw1)
              | (go_at_call 62; refine (HT.out _ (by repeat (first | with_reducible exact Grew.refl _ | apply Grew.more | apply Grew.alloc | apply Grew.drew | apply Grew.drewN))).mono ?_; rintro e w1 ⟨vs, l', rfl, hr, hp, R4, n4, rfl⟩; obtain ⟨as1, cs1, rfl⟩ := hr.len; (have HP := Lib.hid hp); clear hr hp))
            · rename_i hx
              have he : (Gr.sortG l' (l'.length + 1) []).length ≠ l.length := by simp at hx; omega
              have hok := checkR_bad (by omega) fun h => he ((Gr.right_iff HP.out.symm).1 h).so
              have HOK := Lib.hid hok
              clear hok hx he
              go_ret
              exact ⟨by rw [HOK.out]; rfl, HG.out.trans (by repeat (first | with_reducible exact Grew.refl _ | apply Grew.more | apply Grew.alloc | apply Grew.drew | apply Grew.drewN))⟩
            · rename_i hx
              have he : (Gr.sortG l' (l'.length + 1) []).length = l.length := by simp at hx; omega
              have hok := checkR_ok (by omega) ((Gr.right_iff HP.out.symm).2 ⟨by omega, HALL.out, HUZ.out.1, HUZ.out.2, he⟩)
              have HOK := Lib.hid hok
              clear hok hx he
              go_ret
              exact ⟨by rw [HOK.out]; rfl, HG.out.trans (by repeat (first | with_reducible exact Grew.refl _ | apply Grew.more | apply Grew.alloc | apply Grew.drew | apply Grew.drewN))⟩
          · have hok := checkR_bad (by omega) fun h => hz ((right_self l).1 h).z
            have HOK := Lib.hid hok
            rw [decide_eq_true hu] at HU
            rw [decide_eq_false hz] at HC
            clear hok hu hz
            go_wp2_with (first
              | (go_at_call 60; refine (HU.out _ (by repeat (first | with_reducible exact Grew.refl _ | apply Grew.more | apply Grew.alloc | apply Grew.drew | apply Grew.drewN))).mono ?_; rintro e w1 ⟨rfl, R3, n3, rfl⟩)
              | (go_at_call 61; refine (HC.out _ (by repeat (first | with_reducible exact Grew.refl _ | apply Grew.more | apply Grew.alloc | apply Grew.drew | apply Grew.drewN))).mono ?_; rintro e w1 ⟨rfl, hw1⟩; obtain rfl := hw1))
            go_ret
            exact ⟨by rw [HOK.out]; rfl, HG.out.trans (by repeat (first | with_reducible exact Grew.refl _ | apply Grew.more | apply Grew.alloc | apply Grew.drew | apply Grew.drewN))⟩
        · have hok := checkR_bad (by omega) fun h => hu ((right_self l).1 h).un
          have HOK := Lib.hid hok
          rw [decide_eq_false hu] at HU
          clear hok hu
          go_wp2_with (go_at_call 60; refine (HU.out _ (by repeat (first | with_reducible exact Grew.refl _ | apply Grew.more | apply Grew.alloc | apply Grew.drew | apply Grew.drewN))).mono ?_; rintro e w1 ⟨rfl, R3, n3, rfl⟩)
          go_ret
          exact ⟨by rw [HOK.out]; rfl, HG.out.trans (by repeat (first | with_reducible exact Grew.refl _ | apply Grew.more | apply Grew.alloc | apply Grew.drew | apply Grew.drewN))⟩
end Go.Proofs.YthlmmfljeblflaaGreatDoor

/-! pack.putNode, putGraph, Graph. -/
namespace Go.Proofs.YthlmmfljeblflaaGreatDoor
set_option linter.unusedSimpArgs false
set_option linter.unusedVariables false
open Go.RowKit Ga
set_option maxRecDepth 100000

def fitsP (p : List Vm.Ins) : Prop := Co.fitsI p = true
theorem KeptW.cells {base B q : Nat} {W W' : World} {c : Array Value} {t : TypeId} (k : KeptW base B W W') (h : W.heap[q]? = some (.cells c t)) (hn : q ≠ B) (ht : t ≠ 5) : W'.heap[q]? = some (.cells c t) := by
  rw [k.2 q (heap_lt h) hn (.inr ⟨_, _, _, h, ht⟩)]; exact h
/-- a slice that the writer does not touch -/
def Apart (base B : Nat) (W : World) (v : Value) : Prop := ∀ b off, (∃ n c, v = .slice (some ⟨b, off, none⟩) n c) → Safe base b W ∧ b ≠ B
theorem Apart.kept {α : Type} {k : Nat} {enc : α → List Value} {base B : Nat} {W W' : World} {v : Value} {l : List α} (h : Apart base B W v) (hk : KeptW base B W W') (hr : RowsAt k enc W v l) (hlt : ∀ b off, (∃ n c, v = .slice (some ⟨b, off, none⟩) n c) → l ≠ [] → b < W.heap.size) : RowsAt k enc W' v l := by
  cases l with
  | nil =>
    obtain ⟨a, cap, rfl, hm, -⟩ := hr
    exact ⟨a, cap, rfl, hm, fun h => absurd rfl h⟩
  | cons x l => exact RowsAt.sameBlock hr fun b off hv => hk.2 b (hlt b off hv (by simp)) (h b off hv).2 (h b off hv).1
theorem Apart.to {base B : Nat} {W W' : World} {v : Value} (h : Apart base B W v) (hk : KeptW base B W W') : Apart base B W' v := fun b off hv => by
  obtain ⟨h1, h2⟩ := h b off hv
  refine ⟨?_, h2⟩
  rcases h1 with h1 | ⟨c, t, f, hc, ht⟩
  · exact .inl h1
  · exact .inr ⟨c, t, f, by rw [hk.2 b (heap_lt hc) h2 (.inr ⟨c, t, f, hc, ht⟩)]; exact hc, ht⟩
theorem putI_len (p : List Val) (h : Co.fitsI p = true) : (putI p).length ≤ 200 := by
  obtain ⟨h24, _⟩ := Co.fits_parts h
  unfold putI
  rw [List.length_append, Oc.be_len, Oc.bes_len, nums_len]
  omega
end Go.Proofs.YthlmmfljeblflaaGreatDoor

/-! pack.putGraph, Graph. -/
namespace Go.Proofs.YthlmmfljeblflaaGreatDoor
set_option linter.unusedSimpArgs false
set_option linter.unusedVariables false
open Go.RowKit Ga
set_option maxRecDepth 100000

theorem OwnsNd.kept {base base0 B : Nat} {W W' : World} {c : NdC} {n : Gr.Nd} (o : OwnsNd base W c n) (hk : KeptW base0 B W W') (hB : B < base) : OwnsNd base W' c n := by
  refine ⟨OwnAt.same o.1 fun b h => ?_, OwnAt.same o.2 fun b h => ?_⟩
  · obtain ⟨h1, cs, h2⟩ := OwnAt.block o.1 h
    exact hk.2 b (heap_lt h2) (by omega) (.inr ⟨_, _, _, h2, by decide⟩)
  · obtain ⟨h1, cs, h2⟩ := OwnAt.block o.2 h
    exact hk.2 b (heap_lt h2) (by omega) (.inr ⟨_, _, _, h2, by decide⟩)
theorem NodesOwn.kept {base base0 B : Nat} {W W' : World} {v : Value} {lc : List NdC} (o : NodesOwn base W v lc) (hk : KeptW base0 B W W') (hB : B < base) : NodesOwn base W' v lc :=
  OwnAt.same o fun b h => by
    obtain ⟨h1, cs, h2⟩ := OwnAt.block o h
    exact hk.2 b (heap_lt h2) (by omega) (.inr ⟨_, _, _, h2, by decide⟩)
theorem NodesIn.kept {base base0 B : Nat} {W W' : World} {lc : List NdC} {l : List Gr.Nd} (h : NodesIn base W lc l) (hk : KeptW base0 B W W') (hB : B < base) : NodesIn base W' lc l :=
  Rel.mono (fun c n ⟨h1, h2⟩ => ⟨(h2.kept hk hB).is h1, h2.kept hk hB⟩) h
theorem putNd_len {n : Gr.Nd} {lp : Int} (h : Gr.OkB fitsP lp n) : (Gr.putNd putI n).length ≤ 300 := by
  have h1 := putI_len n.prog h.p
  have h2 := h.m
  have h3 := h.ol
  unfold Gr.putNd
  simp only [List.length_append, Oc.be_len, Oc.bes_len]
  omega
theorem flat_len {lp : Int} : ∀ {l : List Gr.Nd}, (∀ n ∈ l, Gr.OkB fitsP lp n) → (l.flatMap (Gr.putNd putI)).length ≤ l.length * 300
  | [], _ => by simp
  | n :: l, h => by
    have h1 := putNd_len (h n (List.mem_cons_self ..))
    have h2 := flat_len (l := l) fun m hm => h m (List.mem_cons_of_mem _ hm)
    rw [List.flatMap_cons, List.length_append, List.length_cons]
    omega
end Go.Proofs.YthlmmfljeblflaaGreatDoor

/-! code.Get, with what else it leaves; pack's reader. -/
namespace Go.Proofs.YthlmmfljeblflaaGreatDoor
set_option linter.unusedSimpArgs false
set_option linter.unusedVariables false
open Go.RowKit Ga
set_option maxRecDepth 100000

theorem OwnAt.up {α : Type} {base base' : Nat} {e : TypeId} {k : Nat} {enc : α → List Value} {w : World} {v : Value} {l : List α} (h : OwnAt base e k enc w v l) (hb : ∀ q, v.ownBlock = some q → base' ≤ q) : OwnAt base' e k enc w v l := by
  obtain ⟨h1, h2⟩ := h
  refine ⟨h1, ?_⟩
  rcases h2 with h | ⟨g, cap, cur, rfl, h3, r⟩
  · exact .inl h
  · exact .inr ⟨g, cap, cur, rfl, hb g rfl, r⟩
end Go.Proofs.YthlmmfljeblflaaGreatDoor

/-! pack's reader: num, prog, list, end. -/
namespace Go.Proofs.YthlmmfljeblflaaGreatDoor
set_option linter.unusedSimpArgs false
set_option linter.unusedVariables false
open Go.RowKit Ga
set_option maxRecDepth 100000

def Keep2 (A B : Nat) (w w' : World) : Prop := w.heap.size ≤ w'.heap.size ∧ ∀ q, q < w.heap.size → q ≠ A → q ≠ B → w'.heap[q]? = w.heap[q]?
theorem Keep2.refl (A B : Nat) (w : World) : Keep2 A B w w := ⟨Nat.le_refl _, fun _ _ _ _ => rfl⟩
theorem Keep2.trans {A B : Nat} {a b c : World} (h : Keep2 A B a b) (k : Keep2 A B b c) : Keep2 A B a c :=
  ⟨Nat.le_trans h.1 k.1, fun q hq h1 h2 => (k.2 q (Nat.lt_of_lt_of_le hq h.1) h1 h2).trans (h.2 q hq h1 h2)⟩
theorem Keep2.ofGrew {A B : Nat} {w w' : World} (g : Grew w w') : Keep2 A B w w' := ⟨g.below.size, fun q hq _ _ => g.below.block q hq⟩
theorem Keep2.set {A B : Nat} {w : World} {o : Nat} {v : Value} : Keep2 A B w (w.setCell ⟨A, o, none⟩ v) := ⟨by rw [World.size_setCell]; exact Nat.le_refl _, fun q hq h _ => set_other fun e => h e.symm⟩
end Go.Proofs.YthlmmfljeblflaaGreatDoor

/-! pack's reader: prog, end. -/
namespace Go.Proofs.YthlmmfljeblflaaGreatDoor
set_option linter.unusedSimpArgs false
set_option linter.unusedVariables false
open Go.RowKit Ga
set_option maxRecDepth 100000

end Go.Proofs.YthlmmfljeblflaaGreatDoor

/-! pack's reader: node. -/
namespace Go.Proofs.YthlmmfljeblflaaGreatDoor
set_option linter.unusedSimpArgs false
set_option linter.unusedVariables false
open Go.RowKit Ga
set_option maxRecDepth 100000

/-- a node's cells, the routes as a list -/
def nodeArr (id kind : Int) (vf vp : Value) (par : Int) (rs : List Int) : Array Value := #[.int .i64 id, .int .i64 kind, vf, vp, .int .i64 par] ++ (rs.map (Value.int .i64)).toArray
theorem nodeArr_set (id kind : Int) (vf vp : Value) (par : Int) (rs : List Int) (k : Nat) (y : Int) : (nodeArr id kind vf vp par rs).setIfInBounds (5 + k) (.int .i64 y) = nodeArr id kind vf vp par (rs.set k y) := by
  unfold nodeArr
  apply Array.ext'
  simp only [Array.toList_setIfInBounds, Array.toList_append, List.map_set]
  rw [List.set_append_right _ _ (by simp)]
  simp
theorem nodeArr_get (id kind : Int) (vf vp : Value) (par : Int) (rs : List Int) (k : Nat) (h : k < rs.length) : (nodeArr id kind vf vp par rs)[5 + k]? = some (.int .i64 rs[k]) := by
  unfold nodeArr
  rw [Array.getElem?_append_right (by simp)]
  simp [h]
end Go.Proofs.YthlmmfljeblflaaGreatDoor

/-! pack's reader: nodes; sorted; GetGraph. -/
namespace Go.Proofs.YthlmmfljeblflaaGreatDoor
set_option linter.unusedSimpArgs false
set_option linter.unusedVariables false
open Go.RowKit Ga
set_option maxRecDepth 100000

end Go.Proofs.YthlmmfljeblflaaGreatDoor

/-! pack.sorted: the nodes stand by their numbers. -/
namespace Go.Proofs.YthlmmfljeblflaaGreatDoor
set_option linter.unusedSimpArgs false
set_option linter.unusedVariables false
open Go.RowKit Ga
set_option maxRecDepth 100000

end Go.Proofs.YthlmmfljeblflaaGreatDoor

/-! pack.GetGraph. -/
namespace Go.Proofs.YthlmmfljeblflaaGreatDoor
set_option linter.unusedSimpArgs false
set_option linter.unusedVariables false
open Go.RowKit Ga
set_option maxRecDepth 100000

theorem NodesAt.nil (w : World) : NodesAt w (.slice none 0 0) [] := ⟨[], RowsAt.nil, rfl, fun i c n h => by simp at h⟩
end Go.Proofs.YthlmmfljeblflaaGreatDoor

/-! [8]int: equal. -/
namespace Go.Proofs.YthlmmfljeblflaaGreatDoor
set_option linter.unusedSimpArgs false
set_option linter.unusedVariables false
open Go.RowKit Ga
set_option maxRecDepth 100000
set_option maxHeartbeats 4000000 in
theorem eq8 (r0 r1 r2 r3 r4 r5 r6 r7 s0 s1 s2 s3 s4 s5 s6 s7 : Int) (w : World) : (binOp .eql 39 (.agg #[.int .i64 r0, .int .i64 r1, .int .i64 r2, .int .i64 r3, .int .i64 r4, .int .i64 r5, .int .i64 r6, .int .i64 r7]) (.agg #[.int .i64 s0, .int .i64 s1, .int .i64 s2, .int .i64 s3, .int .i64 s4, .int .i64 s5, .int .i64 s6, .int .i64 s7])).run Tryz.prog w = .ok (.bool (decide ([r0, r1, r2, r3, r4, r5, r6, r7] = [s0, s1, s2, s3, s4, s5, s6, s7]))) w := by
  have u3 := Tryz.underlying3
  have a3 := Tryz.isAgg3
  have z3 := Tryz.sizeOf3
  obtain ⟨i, hi⟩ : ∃ i, Tryz.prog.info? 3 = some i := info_of_underlying u3
  rw [run_eql_struct, show (10000 : Nat) = 9999 + 1 from rfl, run_equalIn_array w 9999 _ _ Tryz.underlying39 hi]
  rw [show Tryz.prog.cellsOf 3 = 1 by kernel_rfl]
  rw [show List.range 8 = [0, 1, 2, 3, 4, 5, 6, 7] from rfl]
  simp only [Op.eqItems]
  go_simp
  by_cases h0 : r0 = s0
  · by_cases h1 : r1 = s1
    · by_cases h2 : r2 = s2
      · by_cases h3 : r3 = s3
        · by_cases h4 : r4 = s4
          · by_cases h5 : r5 = s5
            · by_cases h6 : r6 = s6
              · by_cases h7 : r7 = s7
                · simp [h0, h1, h2, h3, h4, h5, h6, h7]
                · simp [h0, h1, h2, h3, h4, h5, h6, h7]
              · simp [h0, h1, h2, h3, h4, h5, h6]
            · simp [h0, h1, h2, h3, h4, h5]
          · simp [h0, h1, h2, h3, h4]
        · simp [h0, h1, h2, h3]
      · simp [h0, h1, h2]
    · simp [h0, h1]
  · simp [h0]
end Go.Proofs.YthlmmfljeblflaaGreatDoor

/-! forebayref13.num, Node, Graph. -/
namespace Go.Proofs.YthlmmfljeblflaaGreatDoor
set_option linter.unusedSimpArgs false
set_option linter.unusedVariables false
open Go.RowKit Ga
set_option maxRecDepth 100000

end Go.Proofs.YthlmmfljeblflaaGreatDoor

/-! forebayref13.Graph. -/
namespace Go.Proofs.YthlmmfljeblflaaGreatDoor
set_option linter.unusedSimpArgs false
set_option linter.unusedVariables false
open Go.RowKit Ga
set_option maxRecDepth 100000

end Go.Proofs.YthlmmfljeblflaaGreatDoor

/-! octet.Writer.Num where a number does not fit: nothing is written. -/
namespace Go.Proofs.YthlmmfljeblflaaGreatDoor
set_option linter.unusedSimpArgs false
set_option linter.unusedVariables false
open Go.RowKit Ga
set_option maxRecDepth 100000

end Go.Proofs.YthlmmfljeblflaaGreatDoor

/-! pack.putNode, whatever the node. -/
namespace Go.Proofs.YthlmmfljeblflaaGreatDoor
set_option linter.unusedSimpArgs false
set_option linter.unusedVariables false
open Go.RowKit Ga
set_option maxRecDepth 100000

end Go.Proofs.YthlmmfljeblflaaGreatDoor

/-! forebayref08.Check, cut: the frame, the code from a region on. -/
namespace Go.Proofs.YthlmmfljeblflaaGreatDoor
set_option linter.unusedSimpArgs false
set_option linter.unusedVariables false
open Go.RowKit Ga
set_option maxRecDepth 100000

end Go.Proofs.YthlmmfljeblflaaGreatDoor

/-! forebayref08.Check, cut: the routes. -/
namespace Go.Proofs.YthlmmfljeblflaaGreatDoor
set_option linter.unusedSimpArgs false
set_option linter.unusedVariables false
open Go.RowKit Ga
set_option maxRecDepth 100000

end Go.Proofs.YthlmmfljeblflaaGreatDoor

/-! forebayref08.Check, cut: how many Froms; the program. -/
namespace Go.Proofs.YthlmmfljeblflaaGreatDoor
set_option linter.unusedSimpArgs false
set_option linter.unusedVariables false
open Go.RowKit Ga
set_option maxRecDepth 100000

end Go.Proofs.YthlmmfljeblflaaGreatDoor

/-! forebayref08.Check, cut: each From. -/
namespace Go.Proofs.YthlmmfljeblflaaGreatDoor
set_option linter.unusedSimpArgs false
set_option linter.unusedVariables false
open Go.RowKit Ga
set_option maxRecDepth 100000

end Go.Proofs.YthlmmfljeblflaaGreatDoor

/-! forebayref08.Check, cut: none above itself. -/
namespace Go.Proofs.YthlmmfljeblflaaGreatDoor
set_option linter.unusedSimpArgs false
set_option linter.unusedVariables false
open Go.RowKit Ga
set_option maxRecDepth 100000

end Go.Proofs.YthlmmfljeblflaaGreatDoor

/-! forebayref13.Plan, cut: the frame; kind; what is told of a step. -/
namespace Go.Proofs.YthlmmfljeblflaaGreatDoor
set_option linter.unusedSimpArgs false
set_option linter.unusedVariables false
open Go.RowKit Ga
set_option maxRecDepth 100000

def OkP (z : Gr.Stp) : Prop := 0 ≤ z.nd.id ∧ z.nd.id ≤ 7 ∧ 0 ≤ z.nd.kind ∧ z.nd.kind ≤ 2 ∧ z.nd.frm.length ≤ 3 ∧ 0 ≤ z.nd.par ∧ z.nd.par ≤ 3 ∧ Co.fitsI z.nd.prog = true
end Go.Proofs.YthlmmfljeblflaaGreatDoor
