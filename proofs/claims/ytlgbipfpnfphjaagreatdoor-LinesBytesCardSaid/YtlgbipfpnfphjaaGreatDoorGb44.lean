import Derived.Test.YtlgbipfpnfphjaaGreatDoorGb40
/-! forebaylaw27.awake. -/
namespace Go.Proofs.YtlgbipfpnfphjaaGreatDoor
set_option linter.unusedSimpArgs false
set_option linter.unusedVariables false
open Go.RowKit Ga
set_option maxRecDepth 100000

theorem told_S2 : Li.Told S2 := by
  refine ⟨by decide, by decide +kernel, fun _ => ?_, rfl⟩
  decide +kernel
theorem plan_S2 : Li.planT [S2] = stL := by
  rw [Li.planT_some ⟨by decide, by decide, fun s hs => by rw [List.mem_singleton] at hs; subst hs; exact told_S2⟩]
  decide +kernel
theorem parse_S2 : Li.parseP stL = ([S2], 0) := by
  have h := Li.parseP_plan (p := [S2]) (fun s hs => by rw [List.mem_singleton] at hs; subst hs; rfl) (by rw [plan_S2]; decide)
  rwa [plan_S2] at h
theorem S2_lit {W : World} {d : StC} (h : StepIs W d S2) : ∃ af cf ap cp, d = ⟨2, ⟨2, 2, af, 1, cf, ap, 0, cp, 1, 0, 0, 0, 0, 0, 0, 0, 0⟩, false⟩ := by
  obtain ⟨kd, rs, id, kind, af, cf, ap, cp, par, r0, r1, r2, r3, r4, r5, r6, r7, rfl⟩ := h.lit
  have e1 := h.kind
  have e2 := h.reset
  have e3 := h.nd.id
  have e4 := h.nd.kind
  have e5 := h.nd.par
  have e6 := h.nd.route
  simp [S2, N2, List.replicate] at e1 e2 e3 e4 e5 e6
  obtain ⟨rfl, rfl, rfl, rfl, rfl, rfl, rfl, rfl⟩ := e6
  subst e1 e2 e3 e4 e5
  exact ⟨af, cf, ap, cp, rfl⟩
set_option maxHeartbeats 8000000 in
theorem awake27_any (w : World) (hV : Env27 w) : Calls Tryz.prog 5 #[] w (Gives (.bool true) w) := by
  have hp := parsePlan_any stL (by decide) w hV
  rw [parse_S2] at hp
  have HP := Lib.hid hp
  have HL := Lib.hid fun W (q : Grew w W) v (hv : StepsAt W v [S2]) => linesPlan_any v [S2] W (hV.p.grew q) (hV.a.grew q) hv
  rw [plan_S2] at HL
  clear hV hp
  go_enter Tryz.func5, Tryz.ntmps5
  show Code.wp _ _ _ _ _
  go_wp2_with fail
  refine HP.out.mono ?_
  rintro e w1 ⟨v, rfl, hv, R1, n1, rfl⟩
  have HV := Lib.hid hv
  obtain ⟨a, cap, rfl, -, hx⟩ := hv.openC
  obtain ⟨b, off, c, rfl, hb, hs, g0, g1, g2, g3, g4, g5, -⟩ := hx 0 (by decide)
  obtain ⟨af, cf, ap, cp, rfl⟩ := S2_lit hs
  simp only [Nat.zero_mul, Nat.add_zero] at g0 g1 g5
  clear hv hx hs g2 g3 g4
  go_wp2_with (go_at_call 11; refine (HL.out _ (by repeat (first | with_reducible exact Grew.refl _ | apply Grew.more | apply Grew.alloc | apply Grew.drew | apply Grew.drewN)) _ (HV.out.grew (by repeat (first | with_reducible exact Grew.refl _ | apply Grew.more | apply Grew.alloc | apply Grew.drew | apply Grew.drewN)))).mono ?_; rintro e w2 ⟨rfl, R3, n3, rfl⟩)
  go_ret
  exact ⟨rfl, by repeat (first | with_reducible exact Grew.refl _ | apply Grew.more | apply Grew.alloc | apply Grew.drew | apply Grew.drewN)⟩
end Go.Proofs.YtlgbipfpnfphjaaGreatDoor
