import Derived.Test.YtiocdmfmghanmaaGreatDoorLawVmEach
import Derived.Test.YtiocdmfmghanmaaGreatDoorVmTrim
/-! The law VmTrims, walked. -/
namespace Go.Proofs.YtiocdmfmghanmaaGreatDoor
set_option linter.unusedSimpArgs false
set_option linter.unusedVariables false
open Go.RowKit Ga
set_option maxRecDepth 100000

theorem TrimGives.coded {l : List Val} {w w' : World} {e : Ending} (h : TrimGives l w e w') : ∃ (v : Value) (err : Int), e = .returned (.tuple #[v, .int .i64 err]) ∧ Grew w w' ∧ (Vm.safe l = false → err = 9) ∧ (Vm.safe l = true → err = 0 ∧ ∃ s, Vm.checkC l = some s ∧ ValsAt w' v (Vm.trimL l (Vm.livesL l s.depth))) := by
  obtain ⟨h1, h2⟩ := h
  cases hc : Vm.checkC l with
  | none =>
    rw [hc] at h2
    exact ⟨_, _, h2, h1, fun _ => rfl, fun h => by unfold Vm.safe at h; rw [hc] at h; cases h⟩
  | some s =>
    rw [hc] at h2
    obtain ⟨v, rfl, hv⟩ := h2
    exact ⟨v, 0, rfl, h1, (fun h => by unfold Vm.safe at h; rw [hc] at h; cases h), fun _ => ⟨rfl, s, rfl, hv⟩⟩

set_option maxHeartbeats 8000000 in
theorem vmTrims_any (v : Value) (l : List Val) (p q x0 y0 x1 y1 : Int) (w : World) (hv : ValsAt w v l) (h : Env4 w) :
    Calls Tryz.prog 6 #[v, .agg #[.int .i64 p, .int .i64 q], .agg #[.int .i64 x0, .int .i64 y0, .int .i64 x1, .int .i64 y1]] w (Gives (.bool true) w) := by
  obtain ⟨a, cap, rfl, hm, hlv⟩ := hv.open2
  have HV := Lib.hid hv
  have HE := Lib.hid h
  clear hv h hlv
  by_cases h6 : l.length ≤ 60
  · by_cases hz : Vm.codeOf l (x0, y0) (x1, y1) [(p, q)] = 0
    · have HZ := Lib.hid hz
      obtain ⟨hs, hr, hi⟩ := Vm.codeOf_zero.1 hz
      obtain ⟨s, hc⟩ : ∃ s, Vm.checkC l = some s := Option.isSome_iff_exists.1 hs
      have hqz : Vm.codeOf (Vm.trimL l (Vm.livesL l s.depth)) (x0, y0) (x1, y1) [(p, q)] = 0 := Vm.codeOf_zero.2 ⟨Vm.trim_safe hc, hr, hi⟩
      have hte := Vm.trim_each hc (x0, y0) (x1, y1) (p, q)
      have HS := Lib.hid hs
      have HC := Lib.hid hc
      clear hz hs hr hi hc
      generalize hqq : Vm.trimL l (Vm.livesL l s.depth) = qq at *
      have HQQ := Lib.hid hqq
      generalize hEE : Vm.each l ⟨[], (x0, y0), (x1, y1), 0⟩ [(p, q)] = E at *
      generalize hEF : Vm.each qq ⟨[], (x0, y0), (x1, y1), 0⟩ [(p, q)] = F at *
      obtain ⟨eo, ⟨ex0, ey0⟩, ⟨ex1, ey1⟩, es⟩ := E
      obtain ⟨fo, ⟨fx0, fy0⟩, ⟨fx1, fy1⟩, fs⟩ := F
      simp only [Prod.mk.injEq] at hte
      obtain ⟨rfl, ⟨rfl, rfl⟩, ⟨rfl, rfl⟩, hle⟩ := hte
      have HEE := Lib.hid hEE
      have HEF := Lib.hid hEF
      have HQZ := Lib.hid hqz
      clear hEE hEF hqz hqq
      have hq := run_eql_arr fx0 fy0 fx1 fy1
      go_enter Tryz.func6, Tryz.ntmps6
      go_wp2_with (first
        | (go_at_call 7; refine (awake06_any _ (HE.out.grew (by repeat (first | with_reducible exact Grew.refl _ | apply Grew.more | apply Grew.alloc | apply Grew.drew | apply Grew.drewN)))).mono ?_; rintro e w1 ⟨rfl, Ra, na, rfl⟩)
        | (go_at_call 18; refine (trim_any _ l _ (HV.out.grew (by repeat (first | with_reducible exact Grew.refl _ | apply Grew.more | apply Grew.alloc | apply Grew.drew | apply Grew.drewN)))).mono ?_; rintro e w1 hT; obtain ⟨vt, et, rfl, ⟨R5, N5, rfl⟩, _, ht2⟩ := hT.coded; obtain ⟨rfl, s', hs', hvt⟩ := ht2 HS.out; rw [HC.out] at hs'; cases hs'; rw [HQQ.out] at hvt; (have HVT := Lib.hid hvt); clear hvt ht2 hT)
        | (go_at_call_of 8 (Value.slice a l.length cap); refine (run1_any _ l p q x0 y0 x1 y1 _ (HV.out.grew (by repeat (first | with_reducible exact Grew.refl _ | apply Grew.more | apply Grew.alloc | apply Grew.drew | apply Grew.drewN)))).mono ?_; rintro e w1 hE; obtain ⟨ao2, no2, co2, m1, m2, m3, m4, m5, err2, rfl⟩ := hE.shape; (have hcd2 := hE.coded); obtain ⟨hq1, _, hq2⟩ := hcd2; rw [HZ.out] at hq1; subst hq1; obtain ⟨ho2, hm1, hm2, hm3, hm4, hm5⟩ := hq2 rfl; rw [HEE.out] at ho2 hm1 hm2 hm3 hm4 hm5; simp only at ho2 hm1 hm2 hm3 hm4 hm5; subst hm1 hm2 hm3 hm4 hm5; (have hvo := ho2.rows encI_len); (have HVO := Lib.hid hvo); obtain ⟨⟨R6, N6, hw⟩, _⟩ := hE; subst hw; clear ho2 hq2 hvo)
        | (go_at_call 8; refine (run1_any _ qq p q x0 y0 x1 y1 _ (HVT.out.grew (by repeat (first | with_reducible exact Grew.refl _ | apply Grew.more | apply Grew.alloc | apply Grew.drew | apply Grew.drewN)))).mono ?_; rintro e w1 hE; obtain ⟨ao3, no3, co3, k1, k2, k3, k4, k5, err3, rfl⟩ := hE.shape; (have hcd2 := hE.coded); obtain ⟨hq1, _, hq2⟩ := hcd2; rw [HQZ.out] at hq1; subst hq1; obtain ⟨ho2, hm1, hm2, hm3, hm4, hm5⟩ := hq2 rfl; rw [HEF.out] at ho2 hm1 hm2 hm3 hm4 hm5; simp only at ho2 hm1 hm2 hm3 hm4 hm5; subst hm1 hm2 hm3 hm4 hm5; (have hvo := ho2.rows encI_len); (have HVP := Lib.hid hvo); obtain ⟨⟨R7, N7, hw⟩, _⟩ := hE; subst hw; clear ho2 hq2 hvo)
        | (go_at_call 12; refine (refSameV_any _ _ _ _ _ (HVO.out.grew (by repeat (first | with_reducible exact Grew.refl _ | apply Grew.more | apply Grew.alloc | apply Grew.drew | apply Grew.drewN))) (HVP.out.grew (by repeat (first | with_reducible exact Grew.refl _ | apply Grew.more | apply Grew.alloc | apply Grew.drew | apply Grew.drewN)))).mono ?_; rintro e w1 ⟨rfl, R8, N8, rfl⟩; rw [decide_eq_true rfl])
        )
      go_ret
      refine ⟨rfl, ?_⟩
      repeat (first | with_reducible exact Grew.refl _ | apply Grew.more | apply Grew.alloc | apply Grew.drew | apply Grew.drewN)
    · cases hs : Vm.safe l
      · have hcd : Vm.codeOf l (x0, y0) (x1, y1) [(p, q)] = 9 := by unfold Vm.codeOf; rw [if_pos hs]
        have HS := Lib.hid hs
        have HCD := Lib.hid hcd
        clear hz hs hcd
        go_enter Tryz.func6, Tryz.ntmps6
        go_wp2_with (first
          | (go_at_call 7; refine (awake06_any _ (HE.out.grew (by repeat (first | with_reducible exact Grew.refl _ | apply Grew.more | apply Grew.alloc | apply Grew.drew | apply Grew.drewN)))).mono ?_; rintro e w1 ⟨rfl, Ra, na, rfl⟩)
          | (go_at_call 18; refine (trim_any _ l _ (HV.out.grew (by repeat (first | with_reducible exact Grew.refl _ | apply Grew.more | apply Grew.alloc | apply Grew.drew | apply Grew.drewN)))).mono ?_; rintro e w1 hT; obtain ⟨vt, et, rfl, ⟨R5, N5, rfl⟩, ht1, ht2⟩ := hT.coded; obtain rfl := ht1 HS.out; clear ht1 ht2 hT)
          | (go_at_call 8; refine (run1_any _ l p q x0 y0 x1 y1 _ (HV.out.grew (by repeat (first | with_reducible exact Grew.refl _ | apply Grew.more | apply Grew.alloc | apply Grew.drew | apply Grew.drewN)))).mono ?_; rintro e w1 hE; obtain ⟨ao2, no2, co2, m1, m2, m3, m4, m5, err2, rfl⟩ := hE.shape; (have hcd2 := hE.coded); obtain ⟨hq1, _, _⟩ := hcd2; rw [HCD.out] at hq1; subst hq1; obtain ⟨⟨R6, N6, hw⟩, _⟩ := hE; subst hw)
          )
        go_ret
        refine ⟨rfl, ?_⟩
        repeat (first | with_reducible exact Grew.refl _ | apply Grew.more | apply Grew.alloc | apply Grew.drew | apply Grew.drewN)
      · obtain ⟨cd, hcd⟩ : ∃ cd, Vm.codeOf l (x0, y0) (x1, y1) [(p, q)] = cd := ⟨_, rfl⟩
        rw [hcd] at hz
        have hzb : (cd != 0) = true := by simpa using hz
        have HS := Lib.hid hs
        have HCD := Lib.hid hcd
        clear hz hs hcd
        go_enter Tryz.func6, Tryz.ntmps6
        go_wp2_with (first
          | (go_at_call 7; refine (awake06_any _ (HE.out.grew (by repeat (first | with_reducible exact Grew.refl _ | apply Grew.more | apply Grew.alloc | apply Grew.drew | apply Grew.drewN)))).mono ?_; rintro e w1 ⟨rfl, Ra, na, rfl⟩)
          | (go_at_call 18; refine (trim_any _ l _ (HV.out.grew (by repeat (first | with_reducible exact Grew.refl _ | apply Grew.more | apply Grew.alloc | apply Grew.drew | apply Grew.drewN)))).mono ?_; rintro e w1 hT; obtain ⟨vt, et, rfl, ⟨R5, N5, rfl⟩, ht1, ht2⟩ := hT.coded; obtain ⟨rfl, -⟩ := ht2 HS.out; clear ht1 ht2 hT)
          | (go_at_call 8; refine (run1_any _ l p q x0 y0 x1 y1 _ (HV.out.grew (by repeat (first | with_reducible exact Grew.refl _ | apply Grew.more | apply Grew.alloc | apply Grew.drew | apply Grew.drewN)))).mono ?_; rintro e w1 hE; obtain ⟨ao2, no2, co2, m1, m2, m3, m4, m5, err2, rfl⟩ := hE.shape; (have hcd2 := hE.coded); obtain ⟨hq1, _, _⟩ := hcd2; rw [HCD.out] at hq1; subst hq1; obtain ⟨⟨R6, N6, hw⟩, _⟩ := hE; subst hw)
          )
        go_ret
        refine ⟨rfl, ?_⟩
        repeat (first | with_reducible exact Grew.refl _ | apply Grew.more | apply Grew.alloc | apply Grew.drew | apply Grew.drewN)
  · have h6' : 60 < l.length := by omega
    go_enter Tryz.func6, Tryz.ntmps6
    go_wp2_with (go_at_call 7; refine (awake06_any _ (HE.out.grew (by repeat (first | with_reducible exact Grew.refl _ | apply Grew.more | apply Grew.alloc | apply Grew.drew | apply Grew.drewN)))).mono ?_; rintro e w1 ⟨rfl, Ra, na, rfl⟩)
    go_ret
    refine ⟨rfl, ?_⟩
    repeat (first | with_reducible exact Grew.refl _ | apply Grew.more | apply Grew.alloc | apply Grew.drew | apply Grew.drewN)
end Go.Proofs.YtiocdmfmghanmaaGreatDoor
