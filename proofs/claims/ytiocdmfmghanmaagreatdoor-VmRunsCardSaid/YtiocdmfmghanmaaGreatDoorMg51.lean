import Derived.Test.YtiocdmfmghanmaaGreatDoorMg32
import Derived.Test.YtiocdmfmghanmaaGreatDoorMg41
import Derived.Test.YtiocdmfmghanmaaGreatDoorMg50
import Derived.Test.YtiocdmfmghanmaaGreatDoorGaussB
import Derived.Test.YtiocdmfmghanmaaGreatDoorLawKit
/-! The law VmRuns, walked. -/
namespace Go.Proofs.YtiocdmfmghanmaaGreatDoor
set_option linter.unusedSimpArgs false
set_option linter.unusedVariables false
open Go.RowKit Ga
set_option maxRecDepth 100000

theorem EachGives.refused {l : List Val} {c0 c1 : Val} {ins : List Val} {w w' : World} {e : Ending} (h : EachGives l c0 c1 ins w e w') (hc : Vm.codeOf l c0 c1 ins ≠ 0) : Grew w w' ∧ e = .returned (.tuple #[.agg #[.slice none 0 0, .int .i64 0, .int .i64 0, .int .i64 0, .int .i64 0, .int .i64 0], .int .i64 (Vm.codeOf l c0 c1 ins)]) := by
  obtain ⟨h0, h⟩ := h
  refine ⟨h0, ?_⟩
  unfold Vm.codeOf at hc ⊢
  split at h
  · rename_i hs
    rw [if_pos hs]
    exact h
  · rename_i hs
    rw [if_neg hs] at hc ⊢
    split at h
    · rename_i hr
      rw [if_pos hr]
      exact h
    · rename_i hr
      rw [if_neg hr] at hc
      exact absurd rfl hc

theorem field_known (d : Value) (n1 n2 : Int) (u1 u2 b : Bool) (W : World) : (Instr.field 36 (.agg #[d, .int .i64 n1, .int .i64 n2, .bool u1, .bool u2, .bool b]) 4).run Tryz.prog W = .ok (.bool b) W := by
  kernel_rfl

set_option maxHeartbeats 8000000 in
theorem vmRuns_any (v : Value) (l : List Val) (p q x0 y0 x1 y1 : Int) (w : World) (hv : ValsAt w v l) (h : Env4 w) :
    Calls Tryz.prog 3 #[v, .agg #[.int .i64 p, .int .i64 q], .agg #[.int .i64 x0, .int .i64 y0, .int .i64 x1, .int .i64 y1]] w (Gives (.bool true) w) := by
  obtain ⟨a, cap, rfl, hm, hlv⟩ := hv.open2
  have HV := Lib.hid hv
  have HE := Lib.hid h
  clear hv h hlv
  have hfd := field_known
  by_cases h6 : l.length ≤ 60
  · by_cases hz : Vm.codeOf l (x0, y0) (x1, y1) [(p, q)] = 0
    · have HZ := Lib.hid hz
      obtain ⟨hs, hr, hi⟩ := Vm.codeOf_zero.1 hz
      simp only [List.all_cons, List.all_nil, Bool.and_true, Bool.and_eq_true] at hr hi
      have HS := Lib.hid hs
      have HR0 := Lib.hid hr.1
      have HR1 := Lib.hid hr.2
      have HRI := Lib.hid hi
      clear hz hs hr hi
      generalize hEE : Vm.each l ⟨[], (x0, y0), (x1, y1), 0⟩ [(p, q)] = E at *
      obtain ⟨eo, ⟨ex0, ey0⟩, ⟨ex1, ey1⟩, es⟩ := E
      have HEE := Lib.hid hEE
      clear hEE
      have hq := run_eql_arr ex0 ey0 ex1 ey1
      go_enter Tryz.func3, Tryz.ntmps3
      go_wp2_with (first
        | (go_at_call 7; refine (awake06_any _ (HE.out.grew (by repeat (first | with_reducible exact Grew.refl _ | apply Grew.more | apply Grew.alloc | apply Grew.drew | apply Grew.drewN)))).mono ?_; rintro e w1 ⟨rfl, Ra, na, rfl⟩)
        | (go_at_call 8; refine (run1_any _ l p q x0 y0 x1 y1 _ (HV.out.grew (by repeat (first | with_reducible exact Grew.refl _ | apply Grew.more | apply Grew.alloc | apply Grew.drew | apply Grew.drewN)))).mono ?_; rintro e w1 hE; obtain ⟨ao2, no2, co2, m1, m2, m3, m4, m5, err2, rfl⟩ := hE.shape; (have hcd2 := hE.coded); obtain ⟨hq1, _, hq2⟩ := hcd2; rw [HZ.out] at hq1; subst hq1; obtain ⟨ho2, hm1, hm2, hm3, hm4, hm5⟩ := hq2 rfl; rw [HEE.out] at ho2 hm1 hm2 hm3 hm4 hm5; simp only at ho2 hm1 hm2 hm3 hm4 hm5; subst hm1 hm2 hm3 hm4 hm5; (have hvo := ho2.rows encI_len); (have HVO := Lib.hid hvo); obtain ⟨⟨R6, N6, hw⟩, _⟩ := hE; subst hw; clear ho2 hq2 hvo)
        | (go_at_call 9; refine (refCheck_any _ l _ (HV.out.grew (by repeat (first | with_reducible exact Grew.refl _ | apply Grew.more | apply Grew.alloc | apply Grew.drew | apply Grew.drewN)))).mono ?_; rintro e w1 hC; obtain ⟨⟨R7, N7, hw⟩, kd, kn1, kn2, ku1, ku2, rfl⟩ := hC; subst hw; rw [HS.out])
        | (go_at_call_of 10 (Value.agg #[.int .i64 p, .int .i64 q]); refine (right06_any p q _).mono ?_; rintro e w1 ⟨rfl, R8, N8, rfl⟩; rw [HRI.out])
        | (go_at_call_of 10 (Value.agg #[.int .i64 x0, .int .i64 y0]); refine (right06_any x0 y0 _).mono ?_; rintro e w1 ⟨rfl, R9, N9, rfl⟩; rw [HR0.out])
        | (go_at_call_of 10 (Value.agg #[.int .i64 x1, .int .i64 y1]); refine (right06_any x1 y1 _).mono ?_; rintro e w1 ⟨rfl, R10, N10, rfl⟩; rw [HR1.out])
        | (go_at_call 11; refine (refRun_any _ l p q x0 y0 x1 y1 _ (HV.out.grew (by repeat (first | with_reducible exact Grew.refl _ | apply Grew.more | apply Grew.alloc | apply Grew.drew | apply Grew.drewN))) HZ.out).mono ?_; rintro e w1 hC; obtain ⟨⟨R11, N11, hw⟩, vr, rfl, hvr⟩ := hC; subst hw; rw [HEE.out] at hvr ⊢; simp only at hvr; (have hvp := hvr.rows encI_len); (have HVP := Lib.hid hvp); clear hvr hvp)
        | (go_at_call 12; refine (refSameV_any _ _ _ _ _ (HVO.out.grew (by repeat (first | with_reducible exact Grew.refl _ | apply Grew.more | apply Grew.alloc | apply Grew.drew | apply Grew.drewN))) (HVP.out.grew (by repeat (first | with_reducible exact Grew.refl _ | apply Grew.more | apply Grew.alloc | apply Grew.drew | apply Grew.drewN)))).mono ?_; rintro e w1 ⟨rfl, R12, N12, rfl⟩; rw [decide_eq_true rfl])
        )
      go_ret
      refine ⟨rfl, ?_⟩
      repeat (first | with_reducible exact Grew.refl _ | apply Grew.more | apply Grew.alloc | apply Grew.drew | apply Grew.drewN)
    · have HZ := Lib.hid hz
      have hq := run_eql_arr 0 0 0 0
      cases hs : Vm.safe l
      · have hcd : Vm.codeOf l (x0, y0) (x1, y1) [(p, q)] = 9 := by unfold Vm.codeOf; rw [if_pos hs]
        have HS := Lib.hid hs
        have HCD := Lib.hid hcd
        clear hz hs hcd
        go_enter Tryz.func3, Tryz.ntmps3
        go_wp2_with (first
          | (go_at_call 7; refine (awake06_any _ (HE.out.grew (by repeat (first | with_reducible exact Grew.refl _ | apply Grew.more | apply Grew.alloc | apply Grew.drew | apply Grew.drewN)))).mono ?_; rintro e w1 ⟨rfl, Ra, na, rfl⟩)
          | (go_at_call 8; refine (run1_any _ l p q x0 y0 x1 y1 _ (HV.out.grew (by repeat (first | with_reducible exact Grew.refl _ | apply Grew.more | apply Grew.alloc | apply Grew.drew | apply Grew.drewN)))).mono ?_; rintro e w1 hE; obtain ⟨⟨R6, N6, hw⟩, rfl⟩ := hE.refused HZ.out; subst hw; rw [HCD.out])
          | (go_at_call 9; refine (refCheck_any _ l _ (HV.out.grew (by repeat (first | with_reducible exact Grew.refl _ | apply Grew.more | apply Grew.alloc | apply Grew.drew | apply Grew.drewN)))).mono ?_; rintro e w1 hC; obtain ⟨⟨R7, N7, hw⟩, kd, kn1, kn2, ku1, ku2, rfl⟩ := hC; subst hw; rw [HS.out])
          )
        go_ret
        refine ⟨rfl, ?_⟩
        repeat (first | with_reducible exact Grew.refl _ | apply Grew.more | apply Grew.alloc | apply Grew.drew | apply Grew.drewN)
      · have hr : rightV (p, q) = false ∨ rightV (p, q) = true ∧ rightV (x0, y0) = false ∨ rightV (p, q) = true ∧ rightV (x0, y0) = true ∧ rightV (x1, y1) = false := by
          have hn := fun h => hz (Vm.codeOf_zero.2 h)
          simp only [List.all_cons, List.all_nil, Bool.and_true, Bool.and_eq_true] at hn
          cases h1 : rightV (p, q) <;> cases h2 : rightV (x0, y0) <;> cases h3 : rightV (x1, y1) <;> simp
          exact hn ⟨hs, ⟨h2, h3⟩, h1⟩
        have hcd : Vm.codeOf l (x0, y0) (x1, y1) [(p, q)] = 1 := by
          unfold Vm.codeOf at hz ⊢
          rw [if_neg (by rw [hs]; decide)] at hz ⊢
          split
          · rfl
          · rename_i hq'
            rw [if_neg hq'] at hz
            exact absurd rfl hz
        have HS := Lib.hid hs
        have HCD := Lib.hid hcd
        clear hz hs hcd
        rcases hr with h1 | ⟨h1, h2⟩ | ⟨h1, h2, h3⟩
        · have H1 := Lib.hid h1
          clear h1
          go_enter Tryz.func3, Tryz.ntmps3
          go_wp2_with (first
            | (go_at_call 7; refine (awake06_any _ (HE.out.grew (by repeat (first | with_reducible exact Grew.refl _ | apply Grew.more | apply Grew.alloc | apply Grew.drew | apply Grew.drewN)))).mono ?_; rintro e w1 ⟨rfl, Ra, na, rfl⟩)
            | (go_at_call 8; refine (run1_any _ l p q x0 y0 x1 y1 _ (HV.out.grew (by repeat (first | with_reducible exact Grew.refl _ | apply Grew.more | apply Grew.alloc | apply Grew.drew | apply Grew.drewN)))).mono ?_; rintro e w1 hE; obtain ⟨⟨R6, N6, hw⟩, rfl⟩ := hE.refused HZ.out; subst hw; rw [HCD.out])
            | (go_at_call 9; refine (refCheck_any _ l _ (HV.out.grew (by repeat (first | with_reducible exact Grew.refl _ | apply Grew.more | apply Grew.alloc | apply Grew.drew | apply Grew.drewN)))).mono ?_; rintro e w1 hC; obtain ⟨⟨R7, N7, hw⟩, kd, kn1, kn2, ku1, ku2, rfl⟩ := hC; subst hw; rw [HS.out])
            | (go_at_call_of 10 (Value.agg #[.int .i64 p, .int .i64 q]); refine (right06_any p q _).mono ?_; rintro e w1 ⟨rfl, R8, N8, rfl⟩; rw [H1.out])
            )
          go_ret
          refine ⟨rfl, ?_⟩
          repeat (first | with_reducible exact Grew.refl _ | apply Grew.more | apply Grew.alloc | apply Grew.drew | apply Grew.drewN)
        · have H1 := Lib.hid h1
          have H2 := Lib.hid h2
          clear h1 h2
          go_enter Tryz.func3, Tryz.ntmps3
          go_wp2_with (first
            | (go_at_call 7; refine (awake06_any _ (HE.out.grew (by repeat (first | with_reducible exact Grew.refl _ | apply Grew.more | apply Grew.alloc | apply Grew.drew | apply Grew.drewN)))).mono ?_; rintro e w1 ⟨rfl, Ra, na, rfl⟩)
            | (go_at_call 8; refine (run1_any _ l p q x0 y0 x1 y1 _ (HV.out.grew (by repeat (first | with_reducible exact Grew.refl _ | apply Grew.more | apply Grew.alloc | apply Grew.drew | apply Grew.drewN)))).mono ?_; rintro e w1 hE; obtain ⟨⟨R6, N6, hw⟩, rfl⟩ := hE.refused HZ.out; subst hw; rw [HCD.out])
            | (go_at_call 9; refine (refCheck_any _ l _ (HV.out.grew (by repeat (first | with_reducible exact Grew.refl _ | apply Grew.more | apply Grew.alloc | apply Grew.drew | apply Grew.drewN)))).mono ?_; rintro e w1 hC; obtain ⟨⟨R7, N7, hw⟩, kd, kn1, kn2, ku1, ku2, rfl⟩ := hC; subst hw; rw [HS.out])
            | (go_at_call_of 10 (Value.agg #[.int .i64 p, .int .i64 q]); refine (right06_any p q _).mono ?_; rintro e w1 ⟨rfl, R8, N8, rfl⟩; rw [H1.out])
            | (go_at_call_of 10 (Value.agg #[.int .i64 x0, .int .i64 y0]); refine (right06_any x0 y0 _).mono ?_; rintro e w1 ⟨rfl, R9, N9, rfl⟩; rw [H2.out])
            )
          go_ret
          refine ⟨rfl, ?_⟩
          repeat (first | with_reducible exact Grew.refl _ | apply Grew.more | apply Grew.alloc | apply Grew.drew | apply Grew.drewN)
        · have H1 := Lib.hid h1
          have H2 := Lib.hid h2
          have H3 := Lib.hid h3
          clear h1 h2 h3
          go_enter Tryz.func3, Tryz.ntmps3
          go_wp2_with (first
            | (go_at_call 7; refine (awake06_any _ (HE.out.grew (by repeat (first | with_reducible exact Grew.refl _ | apply Grew.more | apply Grew.alloc | apply Grew.drew | apply Grew.drewN)))).mono ?_; rintro e w1 ⟨rfl, Ra, na, rfl⟩)
            | (go_at_call 8; refine (run1_any _ l p q x0 y0 x1 y1 _ (HV.out.grew (by repeat (first | with_reducible exact Grew.refl _ | apply Grew.more | apply Grew.alloc | apply Grew.drew | apply Grew.drewN)))).mono ?_; rintro e w1 hE; obtain ⟨⟨R6, N6, hw⟩, rfl⟩ := hE.refused HZ.out; subst hw; rw [HCD.out])
            | (go_at_call 9; refine (refCheck_any _ l _ (HV.out.grew (by repeat (first | with_reducible exact Grew.refl _ | apply Grew.more | apply Grew.alloc | apply Grew.drew | apply Grew.drewN)))).mono ?_; rintro e w1 hC; obtain ⟨⟨R7, N7, hw⟩, kd, kn1, kn2, ku1, ku2, rfl⟩ := hC; subst hw; rw [HS.out])
            | (go_at_call_of 10 (Value.agg #[.int .i64 p, .int .i64 q]); refine (right06_any p q _).mono ?_; rintro e w1 ⟨rfl, R8, N8, rfl⟩; rw [H1.out])
            | (go_at_call_of 10 (Value.agg #[.int .i64 x0, .int .i64 y0]); refine (right06_any x0 y0 _).mono ?_; rintro e w1 ⟨rfl, R9, N9, rfl⟩; rw [H2.out])
            | (go_at_call_of 10 (Value.agg #[.int .i64 x1, .int .i64 y1]); refine (right06_any x1 y1 _).mono ?_; rintro e w1 ⟨rfl, R10, N10, rfl⟩; rw [H3.out])
            )
          go_ret
          refine ⟨rfl, ?_⟩
          repeat (first | with_reducible exact Grew.refl _ | apply Grew.more | apply Grew.alloc | apply Grew.drew | apply Grew.drewN)
  · have h6' : 60 < l.length := by omega
    go_enter Tryz.func3, Tryz.ntmps3
    go_wp2_with (go_at_call 7; refine (awake06_any _ (HE.out.grew (by repeat (first | with_reducible exact Grew.refl _ | apply Grew.more | apply Grew.alloc | apply Grew.drew | apply Grew.drewN)))).mono ?_; rintro e w1 ⟨rfl, Ra, na, rfl⟩)
    go_ret
    refine ⟨rfl, ?_⟩
    repeat (first | with_reducible exact Grew.refl _ | apply Grew.more | apply Grew.alloc | apply Grew.drew | apply Grew.drewN)
end Go.Proofs.YtiocdmfmghanmaaGreatDoor

/-! Values as arguments. -/
namespace Go.Proofs.YtiocdmfmghanmaaGreatDoor
set_option linter.unusedSimpArgs false
set_option maxRecDepth 100000
set_option linter.unusedVariables false
open Go.RowKit Ga Go.ChangeShapes Go.WideShapes

theorem cells_int1 : Tryz.prog.cellsOf 3 = 1 := by kernel_rfl
theorem cells_val : Tryz.prog.cellsOf 24 = 2 := by kernel_rfl
theorem opens_val : Opens Tryz.prog 24 (fun _ cs (a : Ga.Val) => cs = [Value.int .i64 a.1, Value.int .i64 a.2] ∧ okVal a) := by
  intro H enc w fuel cs x hx
  obtain ⟨hl, hf⟩ := Opens.fields Tryz.underlying24 hx
  rw [cells_val] at hl
  match cs, hl with
  | [c0, c1], _ =>
    obtain ⟨n0, y0, h0⟩ := hf 0 _ rfl
    obtain ⟨n1, y1, h1⟩ := hf 1 _ rfl
    have h0' : DataW.trod enc Tryz.prog w 0 (fun _ => true) true n0 3 (([c0, c1].drop 0).take (Tryz.prog.cellsOf 3)) = some y0 := h0
    have h1' : DataW.trod enc Tryz.prog w 0 (fun _ => true) true n1 3 (([c0, c1].drop 1).take (Tryz.prog.cellsOf 3)) = some y1 := h1
    rw [cells_int1] at h0' h1'
    obtain ⟨i0, e0, b0⟩ := Opens.i64 Tryz.underlying3 H enc w n0 _ _ h0'
    obtain ⟨i1, e1, b1⟩ := Opens.i64 Tryz.underlying3 H enc w n1 _ _ h1'
    simp at e0 e1
    subst e0 e1
    exact ⟨(i0, i1), rfl, b0, b1⟩
theorem arg_val {H : Type} {enc : TypeId × Value → H} {w : World} {v : Value} {d : DataW H} {ps : List MemPlace} {r : Reach} {b : Nat} (ho : Value.okWide Tryz.prog w r b 24 v) (h : DataW.Trod enc Tryz.prog w 0 (fun _ => true) true 24 v d ps) : ∃ a : Ga.Val, v = vv a ∧ okVal a := by
  obtain ⟨a, h1, h2⟩ := opens_val.arg h
  exact ⟨a, cells_agg Tryz.underlying24 ho h1, h2⟩
theorem arg_vals {H : Type} {enc : TypeId × Value → H} {w : World} {v : Value} {d : DataW H} {ps : List MemPlace} {r : Reach} {b : Nat} (ho : Value.okWide Tryz.prog w r b 27 v) (h : DataW.Trod enc Tryz.prog w 0 (fun _ => true) true 27 v d ps) : ∃ l : List Ga.Val, ValsAt w v l ∧ ∀ a ∈ l, okVal a := by
  obtain ⟨l, u, h1, h2⟩ := (Opens.slice Tryz.underlying27 cells_val (by decide) opens_val).arg h
  obtain rfl := cells_slice Tryz.underlying27 ho h1
  exact ⟨l, h2.rows⟩
theorem laidOut : laidOutB Tryz.prog = true := by kernel_rfl
theorem cells_ins : Tryz.prog.cellsOf 44 = 2 := by kernel_rfl
theorem opens_ins : Opens Tryz.prog 44 (fun _ cs (a : Ga.Val) => cs = [Value.int .i64 a.1, Value.int .i64 a.2] ∧ okVal a) := by
  intro H enc w fuel cs x hx
  obtain ⟨hl, hf⟩ := Opens.fields Tryz.underlying44 hx
  rw [cells_ins] at hl
  match cs, hl with
  | [c0, c1], _ =>
    obtain ⟨n0, y0, h0⟩ := hf 0 _ rfl
    obtain ⟨n1, y1, h1⟩ := hf 1 _ rfl
    have h0' : DataW.trod enc Tryz.prog w 0 (fun _ => true) true n0 3 (([c0, c1].drop 0).take (Tryz.prog.cellsOf 3)) = some y0 := h0
    have h1' : DataW.trod enc Tryz.prog w 0 (fun _ => true) true n1 3 (([c0, c1].drop 1).take (Tryz.prog.cellsOf 3)) = some y1 := h1
    rw [cells_int1] at h0' h1'
    obtain ⟨i0, e0, b0⟩ := Opens.i64 Tryz.underlying3 H enc w n0 _ _ h0'
    obtain ⟨i1, e1, b1⟩ := Opens.i64 Tryz.underlying3 H enc w n1 _ _ h1'
    simp at e0 e1
    subst e0 e1
    exact ⟨(i0, i1), rfl, b0, b1⟩
theorem arg_inss {H : Type} {enc : TypeId × Value → H} {w : World} {v : Value} {d : DataW H} {ps : List MemPlace} {r : Reach} {b : Nat} (ho : Value.okWide Tryz.prog w r b 22 v) (h : DataW.Trod enc Tryz.prog w 0 (fun _ => true) true 22 v d ps) : ∃ l : List Ga.Val, ValsAt w v l ∧ ∀ a ∈ l, okVal a := by
  obtain ⟨l, u, h1, h2⟩ := (Opens.slice Tryz.underlying22 cells_ins (by decide) opens_ins).arg h
  obtain rfl := cells_slice Tryz.underlying22 ho h1
  exact ⟨l, h2.rows⟩
theorem arg_inss2 {H : Type} {enc : TypeId × Value → H} {w : World} {v : Value} {d : DataW H} {ps : List MemPlace} {r : Reach} {b : Nat} (ho : Value.okWide Tryz.prog w r b 22 v) (h : DataW.Trod enc Tryz.prog w 0 (fun _ => true) true 22 v d ps) : ∃ l : List Ga.Val, ValsAt w v l ∧ (v = .slice none 0 0 ∨ ∃ a c, v = .slice (some a) l.length c) := by
  obtain ⟨l, u, h1, h2⟩ := (Opens.slice Tryz.underlying22 cells_ins (by decide) opens_ins).arg h
  obtain rfl := cells_slice Tryz.underlying22 ho h1
  exact ⟨l, h2.rows.1, h2.nilOr⟩
end Go.Proofs.YtiocdmfmghanmaaGreatDoor
