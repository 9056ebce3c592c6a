import Derived.Test.YtekkkmkhnphlhaaGreatDoorRows
import Derived.Test.YtekkkmkhnphlhaaGreatDoorGh1
import Derived.Test.YtekkkmkhnphlhaaGreatDoorGh3
import Derived.Test.YtekkkmkhnphlhaaGreatDoorGh0
import Derived.WalkKit
import Derived.WalkSpells
import Derived.StillTactics
import Derived.Laws.Pointers
import Derived.Laws.ComplexArith
import Derived.Deep.RegionHeld3
import Derived.Deep.QuietTactic
import Derived.BigQuiet
import Derived.Below
import Derived.Lib.Hide
import Derived.Outline
import Derived.LoopTactic
import Derived.Test.YtekkkmkhnphlhaaGreatDoorGh2
/-! The contracts of package gauss, and of the other text of it. -/
namespace Go.Proofs.YtekkkmkhnphlhaaGreatDoor
set_option linter.unusedSimpArgs false
set_option linter.unusedVariables false
open Go.RowKit Ga

/-- The call returns v; there are new blocks, nothing else has turned. -/
def Gives (v : Value) (w : World) (e : Ending) (w' : World) : Prop := e = .returned v ∧ Grew w w'
abbrev ValsAt (w : World) (v : Value) (l : List Ga.Val) : Prop := RowsAt 2 (fun a : Ga.Val => [.int .i64 a.1, .int .i64 a.2]) w v l

theorem Tryz.mixed : Tryz.prog.follows .mixedOrders = true := by kernel_rfl

def fl (z : Int) : Nat := floatOfInt .f64 z
end Go.Proofs.YtekkkmkhnphlhaaGreatDoor

/-! The contracts of package gauss, part two. -/
namespace Go.Proofs.YtekkkmkhnphlhaaGreatDoor
set_option linter.unusedSimpArgs false
set_option linter.unusedVariables false
open Go.RowKit Ga

end Go.Proofs.YtekkkmkhnphlhaaGreatDoor

/-! Instructions and values as two cells. -/
namespace Go.Proofs.YtekkkmkhnphlhaaGreatDoor
set_option linter.unusedSimpArgs false
set_option linter.unusedVariables false
open Go.RowKit Ga
set_option maxRecDepth 100000

def encI (a : Val) : List Value := [.int .i64 a.1, .int .i64 a.2]
theorem infoIns : (Tryz.prog.info? 142).map (fun i => (i.zero, i.size, i.bytes)) = some (some (.agg #[.int .i64 0, .int .i64 0]), 2, 16) := by kernel_rfl

theorem encI_len (l : Val) : (encI l).length = 2 := rfl
theorem encI_one (l : Val) : ∀ u ∈ encI l, u.oneCell' = true := by
  intro u hu; simp [encI] at hu; rcases hu with rfl | rfl <;> rfl
theorem encI_at (W : World) (a : Val) (t : TypeId) (b : Nat) {c : Array Value} (hc : c = #[.int .i64 a.1, .int .i64 a.2]) (hb : b = W.heap.size) : ∀ j u, (encI a)[j]? = some u → (W.alloc (.cells c t)).cell? ⟨b, j, none⟩ = some u := by
  subst hc
  intro j u hu
  rw [new_cells W _ t b hb j]
  simpa [encI] using hu
end Go.Proofs.YtekkkmkhnphlhaaGreatDoor

/-! code.bounds, Right, Fits and the document's. -/
namespace Go.Proofs.YtekkkmkhnphlhaaGreatDoor
set_option linter.unusedSimpArgs false
set_option linter.unusedVariables false
open Go.RowKit Ga
set_option maxRecDepth 100000

theorem ret_bool {a b : Bool} (h : a = b) : Ending.returned (.bool a) = Ending.returned (.bool b) := by rw [h]
theorem lo_else {op : Int} (h1 : op ≠ 1) (h2 : op ≠ 2) (h15 : op ≠ 15) (h16 : op ≠ 16) : Co.lo op = 0 := by
  unfold Co.lo; rw [if_neg (by omega), if_neg (by omega)]
theorem hi_else {op : Int} (h1 : op ≠ 1) (h2 : op ≠ 2) (h4 : op ≠ 4) (h5 : op ≠ 5) (h15 : op ≠ 15) (h16 : op ≠ 16) : Co.hi op = 0 := by
  unfold Co.hi; rw [if_neg (by omega), if_neg (by omega), if_neg (by omega)]
theorem has_else {op : Int} (h1 : op ≠ 1) (h2 : op ≠ 2) (h4 : op ≠ 4) (h5 : op ≠ 5) (h15 : op ≠ 15) (h16 : op ≠ 16) : Co.hasA op = false := by
  unfold Co.hasA; simp [h1, h2, h4, h5, h15, h16]

set_option maxHeartbeats 2000000 in
theorem bounds_any (op : Int) (w : World) : Calls Tryz.prog 143 #[.int .i64 op] w fun e w' => e = .returned (.tuple #[.int .i64 (Co.lo op), .int .i64 (Co.hi op), .bool (Co.hasA op)]) ∧ w' = w := by
  by_cases h1 : op = 1
  · subst h1
    go_enter Tryz.func143, Tryz.ntmps143
    go_wp2
    exact bodyPost_ret (v := .tuple #[.int .i64 (-524288), .int .i64 524287, .bool true]) (by simp [results, Tryz.results143, go_sem]) rfl ⟨by simp [Co.lo, Co.hi, Co.hasA], rfl⟩
  by_cases h2 : op = 2
  · subst h2
    go_enter Tryz.func143, Tryz.ntmps143
    go_wp2
    exact bodyPost_ret (v := .tuple #[.int .i64 (-524288), .int .i64 524287, .bool true]) (by simp [results, Tryz.results143, go_sem]) rfl ⟨by simp [Co.lo, Co.hi, Co.hasA], rfl⟩
  by_cases h4 : op = 4
  · subst h4
    go_enter Tryz.func143, Tryz.ntmps143
    go_wp2
    exact bodyPost_ret (v := .tuple #[.int .i64 0, .int .i64 1, .bool true]) (by simp [results, Tryz.results143, go_sem]) rfl ⟨by simp [Co.lo, Co.hi, Co.hasA], rfl⟩
  by_cases h5 : op = 5
  · subst h5
    go_enter Tryz.func143, Tryz.ntmps143
    go_wp2
    exact bodyPost_ret (v := .tuple #[.int .i64 0, .int .i64 1, .bool true]) (by simp [results, Tryz.results143, go_sem]) rfl ⟨by simp [Co.lo, Co.hi, Co.hasA], rfl⟩
  by_cases h15 : op = 15
  · subst h15
    go_enter Tryz.func143, Tryz.ntmps143
    go_wp2
    exact bodyPost_ret (v := .tuple #[.int .i64 1, .int .i64 24, .bool true]) (by simp [results, Tryz.results143, go_sem]) rfl ⟨by simp [Co.lo, Co.hi, Co.hasA], rfl⟩
  by_cases h16 : op = 16
  · subst h16
    go_enter Tryz.func143, Tryz.ntmps143
    go_wp2
    exact bodyPost_ret (v := .tuple #[.int .i64 1, .int .i64 24, .bool true]) (by simp [results, Tryz.results143, go_sem]) rfl ⟨by simp [Co.lo, Co.hi, Co.hasA], rfl⟩
  have e1 : (op == 1) = false := by simpa using h1
  have e2 : (op == 2) = false := by simpa using h2
  have e4 : (op == 4) = false := by simpa using h4
  have e5 : (op == 5) = false := by simpa using h5
  have e15 : (op == 15) = false := by simpa using h15
  have e16 : (op == 16) = false := by simpa using h16
  rw [lo_else h1 h2 h15 h16, hi_else h1 h2 h4 h5 h15 h16, has_else h1 h2 h4 h5 h15 h16]
  clear h1 h2 h4 h5 h15 h16
  go_enter Tryz.func143, Tryz.ntmps143
  go_wp2
  exact bodyPost_ret (v := .tuple #[.int .i64 0, .int .i64 0, .bool false]) (by simp [results, Tryz.results143, go_sem]) rfl ⟨rfl, rfl⟩

set_option maxHeartbeats 2000000 in
theorem codeRight_any (x y : Int) (w : World) : Calls Tryz.prog 178 #[.agg #[.int .i64 x, .int .i64 y]] w (Gives (.bool (Co.rightI (x, y))) w) := by
  have H : Co.rightI (x, y) = (decide (0 ≤ x) && decide (x < 18) && decide (Co.lo x ≤ y) && decide (y ≤ Co.hi x)) := rfl
  rw [H]
  clear H
  go_enter Tryz.func178, Tryz.ntmps178
  go_wp2_with (go_at_call 143; refine (bounds_any _ _).mono ?_; rintro e w1 ⟨rfl, rfl⟩)
  all_goals
    go_ret
    refine ⟨ret_bool (by grind), ?_⟩
    repeat (first | with_reducible exact Grew.refl _ | apply Grew.more | apply Grew.alloc | apply Grew.drew | apply Grew.drewN)

set_option maxHeartbeats 2000000 in
theorem refRight_any (x y : Int) (w : World) : Calls Tryz.prog 96 #[.agg #[.int .i64 x, .int .i64 y]] w (Gives (.bool (Co.rightI (x, y))) w) := by
  go_enter Tryz.func96, Tryz.ntmps96
  go_wp2
  all_goals
    go_ret
    refine ⟨ret_bool ?_, ?_⟩
    · unfold Co.rightI Co.lo Co.hi
      grind
    repeat (first | with_reducible exact Grew.refl _ | apply Grew.more | apply Grew.alloc | apply Grew.drew | apply Grew.drewN)
end Go.Proofs.YtekkkmkhnphlhaaGreatDoor

