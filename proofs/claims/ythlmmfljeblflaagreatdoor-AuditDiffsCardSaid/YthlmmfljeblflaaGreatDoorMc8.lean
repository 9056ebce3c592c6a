import Derived.Test.YthlmmfljeblflaaGreatDoorMc3
import Derived.Test.YthlmmfljeblflaaGreatDoorMc5
import Derived.Test.YthlmmfljeblflaaGreatDoorMc0
/-! code.bounds, Right, Fits and the document's. -/
namespace Go.Proofs.YthlmmfljeblflaaGreatDoor
set_option linter.unusedSimpArgs false
set_option linter.unusedVariables false
open Go.RowKit Ga
set_option maxRecDepth 100000

theorem ret_bool {a b : Bool} (h : a = b) : Ending.returned (.bool a) = Ending.returned (.bool b) := by rw [h]
theorem lo_else {op : Int} (h1 : op ≠ 1) (h2 : op ≠ 2) (h15 : op ≠ 15) (h16 : op ≠ 16) : Co.lo op = 0 := by
  unfold Co.lo; rw [if_neg (by omega), if_neg (by omega)]
theorem hi_else {op : Int} (h1 : op ≠ 1) (h2 : op ≠ 2) (h4 : op ≠ 4) (h5 : op ≠ 5) (h15 : op ≠ 15) (h16 : op ≠ 16) : Co.hi op = 0 := by
  unfold Co.hi; rw [if_neg (by omega), if_neg (by omega), if_neg (by omega)]
theorem has_else {op : Int} (h1 : op ≠ 1) (h2 : op ≠ 2) (h4 : op ≠ 4) (h5 : op ≠ 5) (h15 : op ≠ 15) (h16 : op ≠ 16) : Co.hasA op = false := by
  unfold Co.hasA; simp [h1, h2, h4, h5, h15, h16]

set_option maxHeartbeats 2000000 in
theorem bounds_any (op : Int) (w : World) : Calls Tryz.prog 89 #[.int .i64 op] w fun e w' => e = .returned (.tuple #[.int .i64 (Co.lo op), .int .i64 (Co.hi op), .bool (Co.hasA op)]) ∧ w' = w := by
  by_cases h1 : op = 1
  · subst h1
    go_enter Tryz.func89, Tryz.ntmps89
    go_wp2
    exact bodyPost_ret (v := .tuple #[.int .i64 (-524288), .int .i64 524287, .bool true]) (by simp [results, Tryz.results89, go_sem]) rfl ⟨by simp [Co.lo, Co.hi, Co.hasA], rfl⟩
  by_cases h2 : op = 2
  · subst h2
    go_enter Tryz.func89, Tryz.ntmps89
    go_wp2
    exact bodyPost_ret (v := .tuple #[.int .i64 (-524288), .int .i64 524287, .bool true]) (by simp [results, Tryz.results89, go_sem]) rfl ⟨by simp [Co.lo, Co.hi, Co.hasA], rfl⟩
  by_cases h4 : op = 4
  · subst h4
    go_enter Tryz.func89, Tryz.ntmps89
    go_wp2
    exact bodyPost_ret (v := .tuple #[.int .i64 0, .int .i64 1, .bool true]) (by simp [results, Tryz.results89, go_sem]) rfl ⟨by simp [Co.lo, Co.hi, Co.hasA], rfl⟩
  by_cases h5 : op = 5
  · subst h5
    go_enter Tryz.func89, Tryz.ntmps89
    go_wp2
    exact bodyPost_ret (v := .tuple #[.int .i64 0, .int .i64 1, .bool true]) (by simp [results, Tryz.results89, go_sem]) rfl ⟨by simp [Co.lo, Co.hi, Co.hasA], rfl⟩
  by_cases h15 : op = 15
  · subst h15
    go_enter Tryz.func89, Tryz.ntmps89
    go_wp2
    exact bodyPost_ret (v := .tuple #[.int .i64 1, .int .i64 24, .bool true]) (by simp [results, Tryz.results89, go_sem]) rfl ⟨by simp [Co.lo, Co.hi, Co.hasA], rfl⟩
  by_cases h16 : op = 16
  · subst h16
    go_enter Tryz.func89, Tryz.ntmps89
    go_wp2
    exact bodyPost_ret (v := .tuple #[.int .i64 1, .int .i64 24, .bool true]) (by simp [results, Tryz.results89, go_sem]) rfl ⟨by simp [Co.lo, Co.hi, Co.hasA], rfl⟩
  have e1 : (op == 1) = false := by simpa using h1
  have e2 : (op == 2) = false := by simpa using h2
  have e4 : (op == 4) = false := by simpa using h4
  have e5 : (op == 5) = false := by simpa using h5
  have e15 : (op == 15) = false := by simpa using h15
  have e16 : (op == 16) = false := by simpa using h16
  rw [lo_else h1 h2 h15 h16, hi_else h1 h2 h4 h5 h15 h16, has_else h1 h2 h4 h5 h15 h16]
  clear h1 h2 h4 h5 h15 h16
  go_enter Tryz.func89, Tryz.ntmps89
  go_wp2
  exact bodyPost_ret (v := .tuple #[.int .i64 0, .int .i64 0, .bool false]) (by simp [results, Tryz.results89, go_sem]) rfl ⟨rfl, rfl⟩

set_option maxHeartbeats 2000000 in
theorem codeRight_any (x y : Int) (w : World) : Calls Tryz.prog 124 #[.agg #[.int .i64 x, .int .i64 y]] w (Gives (.bool (Co.rightI (x, y))) w) := by
  have H : Co.rightI (x, y) = (decide (0 ≤ x) && decide (x < 18) && decide (Co.lo x ≤ y) && decide (y ≤ Co.hi x)) := rfl
  rw [H]
  clear H
  go_enter Tryz.func124, Tryz.ntmps124
  go_wp2_with (go_at_call 89; refine (bounds_any _ _).mono ?_; rintro e w1 ⟨rfl, rfl⟩)
  all_goals
    go_ret
    refine ⟨ret_bool (by grind), ?_⟩
    repeat (first | with_reducible exact Grew.refl _ | apply Grew.more | apply Grew.alloc | apply Grew.drew | apply Grew.drewN)

end Go.Proofs.YthlmmfljeblflaaGreatDoor

