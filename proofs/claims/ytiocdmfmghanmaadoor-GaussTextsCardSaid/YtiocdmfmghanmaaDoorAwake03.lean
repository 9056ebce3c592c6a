import Derived.Test.YtiocdmfmghanmaaDoorGaussB
import Derived.Test.YtiocdmfmghanmaaDoorLawKit
/-! The document's example of layer 3; equations of values and of texts. -/
namespace Go.Proofs.YtiocdmfmghanmaaDoor
set_option linter.unusedSimpArgs false
set_option linter.unusedVariables false
open Go.RowKit Ga

theorem vv_rows (w : World) (l : List Val) (n : Nat) (c : List Value) (ls cap : Nat) (h1 : ls = l.length) (h2 : l.length ≤ maxLen) (h3 : n = w.heap.size) (h4 : c = l.flatMap (fun a : Val => [Value.int .i64 a.1, Value.int .i64 a.2])) :
    ValsAt (w.alloc (.cells c.toArray 23)) (.slice (some ⟨n, 0, none⟩) ls cap) l := RowsAt.fresh h1 h2 (fun _ => rfl) h3 h4

theorem awake_is : prodL [(1, 2), (3, -1)] = (5, 5) := by decide

set_option maxHeartbeats 1000000 in
theorem awake03_any (w : World) : Calls Tryd.prog 9 #[] w (Gives (.bool true) w) := by
  have h := awake_is
  have H := Lib.hid h
  clear h
  go_enter Tryd.func9, Tryd.ntmps9
  go_wp2_with (go_at_call 37; refine (mul_any _ [(1, 2), (3, -1)] _ (vv_rows _ _ _ _ _ _ rfl (by decide) rfl rfl)).mono ?_; rintro e w1 ⟨rfl, R1, n1, rfl⟩; rw [H.out])
  go_ret
  refine ⟨rfl, ?_⟩
  repeat (first | exact Grew.refl _ | apply Grew.more | apply Grew.alloc | apply Grew.drew)

theorem run_eql_val (x y p q : Int) (b : Bool) (hb : b = (decide (x = p) && decide (y = q))) (w : World) : (binOp .eql 23 (.agg #[.int .i64 x, .int .i64 y]) (.agg #[.int .i64 p, .int .i64 q])).run Tryd.prog w = .ok (.bool b) w := by
  subst hb
  by_cases h1 : x = p <;> by_cases h2 : y = q <;> simp [go_sem, h1, h2, Tryd.underlying23, Tryd.underlying3]

theorem run_eql_str (x y : List UInt8) (b : Bool) (hb : b = decide (x = y)) (w : World) : (binOp .eql 9 (.string ⟨x.toArray⟩) (.string ⟨y.toArray⟩)).run Tryd.prog w = .ok (.bool b) w := by
  subst hb
  by_cases h : x = y
  · subst h; simp [go_sem]
  · simp [go_sem, h]
end Go.Proofs.YtiocdmfmghanmaaDoor
