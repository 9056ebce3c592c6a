import Derived.Test.YtiocdmfmghanmaaGreatDoorGaussB
import Derived.Test.YtiocdmfmghanmaaGreatDoorLawKit
/-! Values as arguments. -/
namespace Go.Proofs.YtiocdmfmghanmaaGreatDoor
set_option linter.unusedSimpArgs false
set_option maxRecDepth 100000
set_option linter.unusedVariables false
open Go.RowKit Ga Go.ChangeShapes Go.WideShapes

theorem cells_int1 : Tryz.prog.cellsOf 3 = 1 := by kernel_rfl
theorem cells_val : Tryz.prog.cellsOf 24 = 2 := by kernel_rfl
theorem opens_val : Opens Tryz.prog 24 (fun _ cs (a : Ga.Val) => cs = [Value.int .i64 a.1, Value.int .i64 a.2] ∧ okVal a) := by
  intro H enc w fuel cs x hx
  obtain ⟨hl, hf⟩ := Opens.fields Tryz.underlying24 hx
  rw [cells_val] at hl
  match cs, hl with
  | [c0, c1], _ =>
    obtain ⟨n0, y0, h0⟩ := hf 0 _ rfl
    obtain ⟨n1, y1, h1⟩ := hf 1 _ rfl
    have h0' : DataW.trod enc Tryz.prog w 0 (fun _ => true) true n0 3 (([c0, c1].drop 0).take (Tryz.prog.cellsOf 3)) = some y0 := h0
    have h1' : DataW.trod enc Tryz.prog w 0 (fun _ => true) true n1 3 (([c0, c1].drop 1).take (Tryz.prog.cellsOf 3)) = some y1 := h1
    rw [cells_int1] at h0' h1'
    obtain ⟨i0, e0, b0⟩ := Opens.i64 Tryz.underlying3 H enc w n0 _ _ h0'
    obtain ⟨i1, e1, b1⟩ := Opens.i64 Tryz.underlying3 H enc w n1 _ _ h1'
    simp at e0 e1
    subst e0 e1
    exact ⟨(i0, i1), rfl, b0, b1⟩
theorem arg_val {H : Type} {enc : TypeId × Value → H} {w : World} {v : Value} {d : DataW H} {ps : List MemPlace} {r : Reach} {b : Nat} (ho : Value.okWide Tryz.prog w r b 24 v) (h : DataW.Trod enc Tryz.prog w 0 (fun _ => true) true 24 v d ps) : ∃ a : Ga.Val, v = vv a ∧ okVal a := by
  obtain ⟨a, h1, h2⟩ := opens_val.arg h
  exact ⟨a, cells_agg Tryz.underlying24 ho h1, h2⟩
theorem arg_vals {H : Type} {enc : TypeId × Value → H} {w : World} {v : Value} {d : DataW H} {ps : List MemPlace} {r : Reach} {b : Nat} (ho : Value.okWide Tryz.prog w r b 27 v) (h : DataW.Trod enc Tryz.prog w 0 (fun _ => true) true 27 v d ps) : ∃ l : List Ga.Val, ValsAt w v l ∧ ∀ a ∈ l, okVal a := by
  obtain ⟨l, u, h1, h2⟩ := (Opens.slice Tryz.underlying27 cells_val (by decide) opens_val).arg h
  obtain rfl := cells_slice Tryz.underlying27 ho h1
  exact ⟨l, h2.rows⟩
theorem laidOut : laidOutB Tryz.prog = true := by kernel_rfl
theorem cells_ins : Tryz.prog.cellsOf 44 = 2 := by kernel_rfl
theorem opens_ins : Opens Tryz.prog 44 (fun _ cs (a : Ga.Val) => cs = [Value.int .i64 a.1, Value.int .i64 a.2] ∧ okVal a) := by
  intro H enc w fuel cs x hx
  obtain ⟨hl, hf⟩ := Opens.fields Tryz.underlying44 hx
  rw [cells_ins] at hl
  match cs, hl with
  | [c0, c1], _ =>
    obtain ⟨n0, y0, h0⟩ := hf 0 _ rfl
    obtain ⟨n1, y1, h1⟩ := hf 1 _ rfl
    have h0' : DataW.trod enc Tryz.prog w 0 (fun _ => true) true n0 3 (([c0, c1].drop 0).take (Tryz.prog.cellsOf 3)) = some y0 := h0
    have h1' : DataW.trod enc Tryz.prog w 0 (fun _ => true) true n1 3 (([c0, c1].drop 1).take (Tryz.prog.cellsOf 3)) = some y1 := h1
    rw [cells_int1] at h0' h1'
    obtain ⟨i0, e0, b0⟩ := Opens.i64 Tryz.underlying3 H enc w n0 _ _ h0'
    obtain ⟨i1, e1, b1⟩ := Opens.i64 Tryz.underlying3 H enc w n1 _ _ h1'
    simp at e0 e1
    subst e0 e1
    exact ⟨(i0, i1), rfl, b0, b1⟩
theorem arg_inss {H : Type} {enc : TypeId × Value → H} {w : World} {v : Value} {d : DataW H} {ps : List MemPlace} {r : Reach} {b : Nat} (ho : Value.okWide Tryz.prog w r b 22 v) (h : DataW.Trod enc Tryz.prog w 0 (fun _ => true) true 22 v d ps) : ∃ l : List Ga.Val, ValsAt w v l ∧ ∀ a ∈ l, okVal a := by
  obtain ⟨l, u, h1, h2⟩ := (Opens.slice Tryz.underlying22 cells_ins (by decide) opens_ins).arg h
  obtain rfl := cells_slice Tryz.underlying22 ho h1
  exact ⟨l, h2.rows⟩
theorem arg_inss2 {H : Type} {enc : TypeId × Value → H} {w : World} {v : Value} {d : DataW H} {ps : List MemPlace} {r : Reach} {b : Nat} (ho : Value.okWide Tryz.prog w r b 22 v) (h : DataW.Trod enc Tryz.prog w 0 (fun _ => true) true 22 v d ps) : ∃ l : List Ga.Val, ValsAt w v l ∧ (v = .slice none 0 0 ∨ ∃ a c, v = .slice (some a) l.length c) := by
  obtain ⟨l, u, h1, h2⟩ := (Opens.slice Tryz.underlying22 cells_ins (by decide) opens_ins).arg h
  obtain rfl := cells_slice Tryz.underlying22 ho h1
  exact ⟨l, h2.rows.1, h2.nilOr⟩
end Go.Proofs.YtiocdmfmghanmaaGreatDoor
