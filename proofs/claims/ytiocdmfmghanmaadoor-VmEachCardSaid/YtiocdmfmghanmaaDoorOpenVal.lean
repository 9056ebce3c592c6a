import Derived.Test.YtiocdmfmghanmaaDoorGaussB
import Derived.Test.YtiocdmfmghanmaaDoorLawKit
/-! Values as arguments. -/
namespace Go.Proofs.YtiocdmfmghanmaaDoor
set_option linter.unusedSimpArgs false
set_option maxRecDepth 100000
set_option linter.unusedVariables false
open Go.RowKit Ga Go.ChangeShapes Go.WideShapes

theorem cells_int1 : Tryd.prog.cellsOf 3 = 1 := by kernel_rfl
theorem cells_val : Tryd.prog.cellsOf 23 = 2 := by kernel_rfl
theorem opens_val : Opens Tryd.prog 23 (fun _ cs (a : Ga.Val) => cs = [Value.int .i64 a.1, Value.int .i64 a.2] ∧ okVal a) := by
  intro H enc w fuel cs x hx
  obtain ⟨hl, hf⟩ := Opens.fields Tryd.underlying23 hx
  rw [cells_val] at hl
  match cs, hl with
  | [c0, c1], _ =>
    obtain ⟨n0, y0, h0⟩ := hf 0 _ rfl
    obtain ⟨n1, y1, h1⟩ := hf 1 _ rfl
    have h0' : DataW.trod enc Tryd.prog w 0 (fun _ => true) true n0 3 (([c0, c1].drop 0).take (Tryd.prog.cellsOf 3)) = some y0 := h0
    have h1' : DataW.trod enc Tryd.prog w 0 (fun _ => true) true n1 3 (([c0, c1].drop 1).take (Tryd.prog.cellsOf 3)) = some y1 := h1
    rw [cells_int1] at h0' h1'
    obtain ⟨i0, e0, b0⟩ := Opens.i64 Tryd.underlying3 H enc w n0 _ _ h0'
    obtain ⟨i1, e1, b1⟩ := Opens.i64 Tryd.underlying3 H enc w n1 _ _ h1'
    simp at e0 e1
    subst e0 e1
    exact ⟨(i0, i1), rfl, b0, b1⟩
theorem arg_val {H : Type} {enc : TypeId × Value → H} {w : World} {v : Value} {d : DataW H} {ps : List MemPlace} {r : Reach} {b : Nat} (ho : Value.okWide Tryd.prog w r b 23 v) (h : DataW.Trod enc Tryd.prog w 0 (fun _ => true) true 23 v d ps) : ∃ a : Ga.Val, v = vv a ∧ okVal a := by
  obtain ⟨a, h1, h2⟩ := opens_val.arg h
  exact ⟨a, cells_agg Tryd.underlying23 ho h1, h2⟩
theorem arg_vals {H : Type} {enc : TypeId × Value → H} {w : World} {v : Value} {d : DataW H} {ps : List MemPlace} {r : Reach} {b : Nat} (ho : Value.okWide Tryd.prog w r b 57 v) (h : DataW.Trod enc Tryd.prog w 0 (fun _ => true) true 57 v d ps) : ∃ l : List Ga.Val, ValsAt w v l ∧ ∀ a ∈ l, okVal a := by
  obtain ⟨l, u, h1, h2⟩ := (Opens.slice Tryd.underlying57 cells_val (by decide) opens_val).arg h
  obtain rfl := cells_slice Tryd.underlying57 ho h1
  exact ⟨l, h2.rows⟩
theorem laidOut : laidOutB Tryd.prog = true := by kernel_rfl
theorem cells_ins : Tryd.prog.cellsOf 37 = 2 := by kernel_rfl
theorem opens_ins : Opens Tryd.prog 37 (fun _ cs (a : Ga.Val) => cs = [Value.int .i64 a.1, Value.int .i64 a.2] ∧ okVal a) := by
  intro H enc w fuel cs x hx
  obtain ⟨hl, hf⟩ := Opens.fields Tryd.underlying37 hx
  rw [cells_ins] at hl
  match cs, hl with
  | [c0, c1], _ =>
    obtain ⟨n0, y0, h0⟩ := hf 0 _ rfl
    obtain ⟨n1, y1, h1⟩ := hf 1 _ rfl
    have h0' : DataW.trod enc Tryd.prog w 0 (fun _ => true) true n0 3 (([c0, c1].drop 0).take (Tryd.prog.cellsOf 3)) = some y0 := h0
    have h1' : DataW.trod enc Tryd.prog w 0 (fun _ => true) true n1 3 (([c0, c1].drop 1).take (Tryd.prog.cellsOf 3)) = some y1 := h1
    rw [cells_int1] at h0' h1'
    obtain ⟨i0, e0, b0⟩ := Opens.i64 Tryd.underlying3 H enc w n0 _ _ h0'
    obtain ⟨i1, e1, b1⟩ := Opens.i64 Tryd.underlying3 H enc w n1 _ _ h1'
    simp at e0 e1
    subst e0 e1
    exact ⟨(i0, i1), rfl, b0, b1⟩
theorem arg_inss {H : Type} {enc : TypeId × Value → H} {w : World} {v : Value} {d : DataW H} {ps : List MemPlace} {r : Reach} {b : Nat} (ho : Value.okWide Tryd.prog w r b 33 v) (h : DataW.Trod enc Tryd.prog w 0 (fun _ => true) true 33 v d ps) : ∃ l : List Ga.Val, ValsAt w v l ∧ ∀ a ∈ l, okVal a := by
  obtain ⟨l, u, h1, h2⟩ := (Opens.slice Tryd.underlying33 cells_ins (by decide) opens_ins).arg h
  obtain rfl := cells_slice Tryd.underlying33 ho h1
  exact ⟨l, h2.rows⟩
theorem arg_inss2 {H : Type} {enc : TypeId × Value → H} {w : World} {v : Value} {d : DataW H} {ps : List MemPlace} {r : Reach} {b : Nat} (ho : Value.okWide Tryd.prog w r b 33 v) (h : DataW.Trod enc Tryd.prog w 0 (fun _ => true) true 33 v d ps) : ∃ l : List Ga.Val, ValsAt w v l ∧ (v = .slice none 0 0 ∨ ∃ a c, v = .slice (some a) l.length c) := by
  obtain ⟨l, u, h1, h2⟩ := (Opens.slice Tryd.underlying33 cells_ins (by decide) opens_ins).arg h
  obtain rfl := cells_slice Tryd.underlying33 ho h1
  exact ⟨l, h2.rows.1, h2.nilOr⟩
end Go.Proofs.YtiocdmfmghanmaaDoor
