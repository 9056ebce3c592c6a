import Derived.Test.YtiocdmfmghanmaaGreatDoorGaussText
import Derived.Test.YtiocdmfmghanmaaGreatDoorTextMath
/-! forebayref03.Text. -/
namespace Go.Proofs.YtiocdmfmghanmaaGreatDoor
set_option linter.unusedSimpArgs false
set_option linter.unusedVariables false
open Go.RowKit Ga
set_option maxRecDepth 100000

theorem textL_lt {x y : Int} (h : y < 0) : Tx.textL x y = Lib.itoa x ++ Lib.itoa y ++ [105] := by unfold Tx.textL; rw [if_pos h]; simp
theorem textL_ge {x y : Int} (h : ¬ y < 0) : Tx.textL x y = Lib.itoa x ++ [43] ++ Lib.itoa y ++ [105] := by unfold Tx.textL; rw [if_neg h]

end Go.Proofs.YtiocdmfmghanmaaGreatDoor
