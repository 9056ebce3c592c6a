import Derived.Test.YtangapokicnfgaaGreatMp28
/-! graph.Check tells what the document calls right. -/
namespace Go.Proofs.YtangapokicnfgaaGreat
set_option linter.unusedSimpArgs false
set_option linter.unusedVariables false
open Go.RowKit Ga
set_option maxRecDepth 100000

theorem nodeB_iff (l : List Gr.Nd) (n : Gr.Nd) : nodeB l n = true ↔ Gr.OkP l n := by
  unfold nodeB
  simp only [Bool.and_eq_true, decide_eq_true_eq, Bool.not_eq_true']
  have hk : kindB n = true ↔ (n.kind = 0 ∧ n.id = 0 ∧ n.frm.length = 0 ∧ n.prog.length = 0) ∨ (n.kind = 1 ∧ n.id ≠ 0 ∧ n.frm.length = 1 ∧ Vm.safe n.prog = true) ∨ (n.kind = 2 ∧ n.id ≠ 0 ∧ 1 ≤ n.frm.length ∧ n.frm.length ≤ 3 ∧ n.frm.Nodup ∧ n.prog.length = 0) := by
    unfold kindB
    by_cases k0 : n.kind = 0
    · rw [if_pos k0]
      simp only [Bool.and_eq_true, decide_eq_true_eq, beq_iff_eq]
      constructor
      · rintro ⟨h1, h2, h3⟩; exact .inl ⟨k0, h1, h2, h3⟩
      · rintro (⟨_, h1, h2, h3⟩ | ⟨h, _⟩ | ⟨h, _⟩)
        · exact ⟨h1, h2, h3⟩
        · omega
        · omega
    · rw [if_neg k0]
      by_cases k1 : n.kind = 1
      · rw [if_pos k1]
        simp only [Bool.and_eq_true, decide_eq_true_eq, bne_iff_ne]
        constructor
        · rintro ⟨h1, h2, h3⟩; exact .inr (.inl ⟨k1, h1, h2, h3⟩)
        · rintro (⟨h, _⟩ | ⟨_, h1, h2, h3⟩ | ⟨h, _⟩)
          · omega
          · exact ⟨h1, h2, h3⟩
          · omega
      · rw [if_neg k1]
        by_cases k2 : n.kind = 2
        · rw [if_pos k2]
          simp only [Bool.and_eq_true, decide_eq_true_eq, bne_iff_ne]
          constructor
          · rintro ⟨h1, h2, h3, h4, h5⟩; exact .inr (.inr ⟨k2, h1, h2, h3, h4, h5⟩)
          · rintro (⟨h, _⟩ | ⟨h, _⟩ | ⟨_, h1, h2, h3, h4, h5⟩)
            · omega
            · omega
            · exact ⟨h1, h2, h3, h4, h5⟩
        · rw [if_neg k2]
          constructor
          · intro h; cases h
          · rintro (⟨h, _⟩ | ⟨h, _⟩ | ⟨h, _⟩) <;> omega
  have hr : routeB n = true ↔ 1 ≤ n.par ∧ n.par ≤ 3 ∧ ∀ g ∈ n.route, 0 ≤ g ∧ g < n.par := by
    unfold routeB
    simp only [Bool.and_eq_true, decide_eq_true_eq, Bool.not_eq_true', List.any_eq_false]
    refine and_congr_right fun _ => and_congr_right fun _ => forall_congr' fun g => forall_congr' fun _ => ?_
    unfold badT
    simp only [Bool.or_eq_true, decide_eq_true_eq]
    omega
  have ha : n.frm.any (aboveB l) = false ↔ ∀ f ∈ n.frm, ∃ j m, Gr.find l f = some j ∧ l[j]? = some m ∧ m.kind ≠ 2 := by
    rw [List.any_eq_false]
    refine forall_congr' fun f => forall_congr' fun _ => ?_
    unfold aboveB Gr.nodeOf
    cases hf : Gr.find l f with
    | none => simp
    | some j =>
      obtain ⟨m, hm, -⟩ := Gr.find_some hf
      rw [Option.bind_some, hm]
      simp only [beq_iff_eq]
      constructor
      · intro h; exact ⟨j, m, rfl, hm, h⟩
      · rintro ⟨j', m', h1, h2, h3⟩
        cases h1
        rw [hm] at h2
        cases h2
        exact h3
  rw [hk, hr, ha]
  constructor
  · rintro ⟨h1, h2, h3, ⟨h4, h5, h6⟩, h7⟩
    exact ⟨h1, h2, h3, h4, h5, h6, h7⟩
  · rintro ⟨h1, h2, h3, h4, h5, h6, h7⟩
    exact ⟨h1, h2, h3, ⟨h4, h5, h6⟩, h7⟩
open Classical in
/-- the error that graph.Check tells -/
noncomputable def checkR (l : List Gr.Nd) : Int := if 8 < l.length then 6 else if Gr.RightR l then 0 else 10
theorem checkR_long {l : List Gr.Nd} (h : 8 < l.length) : checkR l = 6 := by unfold checkR; rw [if_pos h]
theorem checkR_bad {l : List Gr.Nd} (h8 : l.length ≤ 8) (h : ¬ Gr.RightR l) : checkR l = 10 := by unfold checkR; rw [if_neg (by omega), if_neg h]
theorem checkR_ok {l : List Gr.Nd} (h8 : l.length ≤ 8) (h : Gr.RightR l) : checkR l = 0 := by unfold checkR; rw [if_neg (by omega), if_pos h]
theorem right_self (l : List Gr.Nd) : Gr.RightR l ↔ Gr.RightP l l := Gr.right_iff (List.Perm.refl l)
def idsT (l : List Gr.Nd) (k : Nat) : List Int := (l.take k).map (·.id)
theorem idsT_succ {l : List Gr.Nd} {k : Nat} (h : k < l.length) : idsT l (k + 1) = idsT l k ++ [l[k].id] := by
  unfold idsT
  rw [List.take_succ_eq_append_getElem h, List.map_append]
  rfl
set_option maxHeartbeats 8000000 in
theorem check_graph (v : Value) (l : List Gr.Nd) (w : World) (hv : NodesAt w v l) (hs : Small l) : Calls Tryz.prog 30 #[v] w (Gives (.int .i64 (checkR l)) w) := by
  have HV := Lib.hid hv
  have HS := Lib.hid hs
  obtain ⟨a, cap, rfl, hm, -⟩ := hv.openC
  clear hv hs
  by_cases h8 : 8 < l.length
  · rw [checkR_long h8]
    have h8' : (8 : Int) < (l.length : Int) := by omega
    go_enter Tryz.func30, Tryz.ntmps30
    go_wp2
    go_ret
    refine ⟨rfl, ?_⟩
    repeat (first | with_reducible exact Grew.refl _ | apply Grew.more | apply Grew.alloc | apply Grew.drew | apply Grew.drewN)
  · have h8' : ¬ (8 : Int) < (l.length : Int) := by omega
    go_enter Tryz.func30, Tryz.ntmps30
    go_wp2
    go_loopg [3, 11] l.length (fun gg s3 s11 wr => ∃ (k : Nat) (vk : Value), k ≤ l.length ∧ l.length - k ≤ gg ∧ s11 = .int .i64 k ∧ vk = s3 ∧ Hid (Grew w wr) ∧ Hid (OwnAt w.heap.size 3 1 encN wr vk (idsT l k)) ∧ Hid (∀ j (hj : j < l.length), j < k → nodeB l l[j] = true))
    case atStart => exact ⟨0, _, Nat.zero_le _, by omega, rfl, rfl, Lib.hid (by repeat (first | with_reducible exact Grew.refl _ | apply Grew.more | apply Grew.alloc | apply Grew.drew | apply Grew.drewN)), Lib.hid (OwnAt.nil _), Lib.hid fun j _ h => by omega⟩
    case round =>
      obtain ⟨k, vk, hk, hgg, rfl, rfl, HG, HO, HNO⟩ := hrel
      obtain ⟨ak, ck, rfl⟩ := (HO.out.rows encN_len).len
      have hil : (idsT l k).length = k := by unfold idsT; rw [List.length_map, List.length_take, Nat.min_eq_left hk]
      rw [hil] at HO
      rw [hil]
      by_cases hlt : k < l.length
      · obtain ⟨a', cap', e, -, hx⟩ := (HV.out.grew HG.out).openC
        cases e
        obtain ⟨b, off, c, rfl, hb, hn, c0, c1, c2, c3, c4, c5, c6, c7, c8, c9, c10, c11, c12⟩ := hx k hlt
        have hst := (HS.out _ (List.getElem_mem hlt)).1
        have hsu := idsT_succ hlt
        have HSU := Lib.hid hsu
        have HIL := Lib.hid hil
        have hw1 := nodeB_iff l l[k]
        clear hx hsu hil
        generalize hy : l[k] = y at *
        have HY := Lib.hid hy
        have HB := Lib.hid fun W (g : Grew wr W) => node_any c y _ l W (hn.grew g) ((HV.out.grew HG.out).grew g) HS.out hst
        have hid := hn.id
        have HNc := Lib.hid hn
        obtain ⟨cid, kind, af, cf, ap, cp, par, r0, r1, r2, r3, r4, r5, r6, r7, rfl⟩ := hn.lit
        simp only at c0 c1 c2 c3 c4 c5 c6 c7 c8 c9 c10 c11 c12 hid HB
        have HID := Lib.hid hid
        have HW1 := Lib.hid hw1
        clear hn hid hw1 hy
        cases hq : nodeB l y with
        | false =>
          have hbad : ¬ Gr.RightR l := fun h => by
            have h2 := ((right_self l).1 h).ok y (by rw [← HY.out]; exact List.getElem_mem hlt)
            rw [← HW1.out, hq] at h2
            cases h2
          have he := checkR_bad (by omega) hbad
          have HE := Lib.hid he
          rw [hq] at HB
          clear he hbad hq
          go_wp2_with (go_at_call 73; refine (HB.out _ (by repeat (first | with_reducible exact Grew.refl _ | apply Grew.more | apply Grew.alloc | apply Grew.drew | apply Grew.drewN))).mono ?_; rintro e w1 ⟨rfl, R3, n3, rfl⟩)
          go_ret
          refine ⟨by rw [HE.out]; rfl, HG.out.trans ?_⟩
          repeat (first | with_reducible exact Grew.refl _ | apply Grew.more | apply Grew.alloc | apply Grew.drew | apply Grew.drewN)
        | true =>
          have HQ := Lib.hid hq
          rw [hq] at HB
          clear hq
          go_wp2_with (first
            | (go_at_call 73; refine (HB.out _ (by repeat (first | with_reducible exact Grew.refl _ | apply Grew.more | apply Grew.alloc | apply Grew.drew | apply Grew.drewN))).mono ?_; rintro e w1 ⟨rfl, R3, n3, rfl⟩)
            | (at_builtin; go_loud (refine wpList_ownK (w0 := w) rfl (.tmp 19) (.tmp 22) 41 _ _ _ _ [cid] rfl Tryz.underlying41 infoInt1 rfl (by decide) encN_len encN_one rfl (OwnAt.grew HO.out (by repeat (first | with_reducible exact Grew.refl _ | apply Grew.more | apply Grew.alloc | apply Grew.drew | apply Grew.drewN))) (HG.out.trans (by repeat (first | with_reducible exact Grew.refl _ | apply Grew.more | apply Grew.alloc | apply Grew.drew | apply Grew.drewN))) rfl (int_at _ _ _ _ rfl (by simp [go_sem])) (by rw [HIL.out]; simp; omega) (by decide) (by simp) ?_; intro v5 W5 hA; (have HA := Lib.hid hA); clear hA)))
          have hr1 : OwnAt w.heap.size 3 1 encN W5 v5 (idsT l (k + 1)) := by
            rw [HSU.out, HID.out]
            exact HA.out.2.1
          have HR1 := Lib.hid hr1
          clear hr1
          go_roundg (l.length - (k + 1))
          case measure => omega
          case rel => exact ⟨k + 1, _, by omega, by omega, by go_num, rfl, Lib.hid HA.out.1, HR1, Lib.hid fun j hj h => by
            rcases Nat.lt_or_ge j k with h1 | h1
            · exact HNO.out j hj h1
            · obtain rfl : j = k := by omega
              rw [HY.out]
              exact HQ.out⟩
      · obtain rfl : k = l.length := by omega
        have hids : idsT l l.length = Gr.ids l := by unfold idsT Gr.ids; rw [List.take_length]
        rw [hids] at HO
        have hall : ∀ n ∈ l, Gr.OkP l n := fun n hn => by
          obtain ⟨j, hj, rfl⟩ := List.mem_iff_getElem.1 hn
          exact (nodeB_iff l _).1 (HNO.out j hj hj)
        have HALL := Lib.hid hall
        have HU := Lib.hid fun W (g : Grew wr W) => unlike_any _ (Gr.ids l) W ((HO.out.rows encN_len).grew g) (by unfold Gr.ids; rw [List.length_map]; omega)
        have HC := Lib.hid fun W (g : Grew wr W) => containsI_any _ (Gr.ids l) 0 W ((HO.out.rows encN_len).grew g)
        have HT := Lib.hid fun W (g : Grew wr W) => sort_any _ l W ((HV.out.grew HG.out).grew g) HS.out (by omega)
        clear hil hids hall
        by_cases hu : (Gr.ids l).Nodup
        · by_cases hz : (0 : Int) ∈ Gr.ids l
          · rw [decide_eq_true hu] at HU
            rw [decide_eq_true hz] at HC
            have HUZ := Lib.hid (And.intro hu hz)
            clear hu hz
            go_wp2_with (first
              | (go_at_call 74; refine (HU.out _ (by repeat (first | with_reducible exact Grew.refl _ | apply Grew.more | apply Grew.alloc | apply Grew.drew | apply Grew.drewN))).mono ?_; rintro e w1 ⟨rfl, R3, n3, rfl⟩)
              | (go_at_call 75; refine (HC.out _ (by repeat (first | with_reducible exact Grew.refl _ | apply Grew.more | apply Grew.alloc | apply Grew.drew | apply Grew.drewN))).mono ?_; rintro e w1 ⟨rfl, hw1⟩; obtain rfl := hw1)
              | (go_at_call 76; refine (HT.out _ (by repeat (first | with_reducible exact Grew.refl _ | apply Grew.more | apply Grew.alloc | apply Grew.drew | apply Grew.drewN))).mono ?_; rintro e w1 ⟨vs, l', rfl, hr, hp, R4, n4, rfl⟩; obtain ⟨as1, cs1, rfl⟩ := hr.len; (have HP := Lib.hid hp); clear hr hp))
            · rename_i hx
              have he : (Gr.sortG l' (l'.length + 1) []).length ≠ l.length := by simp at hx; omega
              have hok := checkR_bad (by omega) fun h => he ((Gr.right_iff HP.out.symm).1 h).so
              have HOK := Lib.hid hok
              clear hok hx he
              go_ret
              exact ⟨by rw [HOK.out]; rfl, HG.out.trans (by repeat (first | with_reducible exact Grew.refl _ | apply Grew.more | apply Grew.alloc | apply Grew.drew | apply Grew.drewN))⟩
            · rename_i hx
              have he : (Gr.sortG l' (l'.length + 1) []).length = l.length := by simp at hx; omega
              have hok := checkR_ok (by omega) ((Gr.right_iff HP.out.symm).2 ⟨by omega, HALL.out, HUZ.out.1, HUZ.out.2, he⟩)
              have HOK := Lib.hid hok
              clear hok hx he
              go_ret
              exact ⟨by rw [HOK.out]; rfl, HG.out.trans (by repeat (first | with_reducible exact Grew.refl _ | apply Grew.more | apply Grew.alloc | apply Grew.drew | apply Grew.drewN))⟩
          · have hok := checkR_bad (by omega) fun h => hz ((right_self l).1 h).z
            have HOK := Lib.hid hok
            rw [decide_eq_true hu] at HU
            rw [decide_eq_false hz] at HC
            clear hok hu hz
            go_wp2_with (first
              | (go_at_call 74; refine (HU.out _ (by repeat (first | with_reducible exact Grew.refl _ | apply Grew.more | apply Grew.alloc | apply Grew.drew | apply Grew.drewN))).mono ?_; rintro e w1 ⟨rfl, R3, n3, rfl⟩)
              | (go_at_call 75; refine (HC.out _ (by repeat (first | with_reducible exact Grew.refl _ | apply Grew.more | apply Grew.alloc | apply Grew.drew | apply Grew.drewN))).mono ?_; rintro e w1 ⟨rfl, hw1⟩; obtain rfl := hw1))
            go_ret
            exact ⟨by rw [HOK.out]; rfl, HG.out.trans (by repeat (first | with_reducible exact Grew.refl _ | apply Grew.more | apply Grew.alloc | apply Grew.drew | apply Grew.drewN))⟩
        · have hok := checkR_bad (by omega) fun h => hu ((right_self l).1 h).un
          have HOK := Lib.hid hok
          rw [decide_eq_false hu] at HU
          clear hok hu
          go_wp2_with (go_at_call 74; refine (HU.out _ (by repeat (first | with_reducible exact Grew.refl _ | apply Grew.more | apply Grew.alloc | apply Grew.drew | apply Grew.drewN))).mono ?_; rintro e w1 ⟨rfl, R3, n3, rfl⟩)
          go_ret
          exact ⟨by rw [HOK.out]; rfl, HG.out.trans (by repeat (first | with_reducible exact Grew.refl _ | apply Grew.more | apply Grew.alloc | apply Grew.drew | apply Grew.drewN))⟩
end Go.Proofs.YtangapokicnfgaaGreat
