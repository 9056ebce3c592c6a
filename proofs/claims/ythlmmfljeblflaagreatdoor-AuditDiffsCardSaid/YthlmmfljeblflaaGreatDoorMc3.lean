import Derived.Lib.Atoi
import Derived.Lib.ItoaNum
import Derived.Lib.Join
import Derived.Lib.IndexMore
import Derived.Lib.AtoiTie
import Derived.Lib.AtoiAllCases
import Derived.Lib.Fields
import Derived.Scope
import Derived.ScopeJumps
import Derived.Tactics
/-! Texts of numbers and of values: plain laws. -/
namespace Tx
set_option linter.unusedSimpArgs false
set_option linter.unusedVariables false
open Go.Lib

theorem dec_len (m k : Nat) (h : m < 10 ^ (k + 1)) : (decDigits m).length ≤ k + 1 := by
  induction k generalizing m with
  | zero => rw [decDigits, dif_pos (by omega)]; simp
  | succ k ih =>
    rw [decDigits]
    split
    · simp
    · have := ih (m / 10) (by rw [Nat.pow_succ] at h; omega)
      simp; omega
end Tx

/-! Programs as words: plain laws. -/
namespace Co
set_option linter.unusedSimpArgs false
set_option linter.unusedVariables false
open Go.Lib

abbrev Ins := Int × Int
def hasA (op : Int) : Bool := op == 1 || (op == 2 || (op == 4 || (op == 5 || (op == 15 || op == 16))))
def lo (op : Int) : Int := if op = 1 ∨ op = 2 then -524288 else if op = 15 ∨ op = 16 then 1 else 0
def hi (op : Int) : Int := if op = 1 ∨ op = 2 then 524287 else if op = 4 ∨ op = 5 then 1 else if op = 15 ∨ op = 16 then 24 else 0
def rightI (i : Ins) : Bool := decide (0 ≤ i.1) && decide (i.1 < 18) && decide (lo i.1 ≤ i.2) && decide (i.2 ≤ hi i.1)
def fitsI (l : List Ins) : Bool := decide (l.length ≤ 24) && l.all rightI
def namesL : List (List UInt8) := [[72, 65, 76, 84], [80, 85, 83, 72], [80, 85, 83, 72, 73], [73, 78], [76, 79, 65, 68], [83, 84, 79, 82, 69], [65, 68, 68], [83, 85, 66], [77, 85, 76], [67, 79, 78, 74], [84, 85, 82, 78], [68, 85, 80], [83, 87, 65, 80], [68, 82, 79, 80], [69, 77, 73, 84], [74, 90], [74, 77, 80], [76, 84]]
def nameOf (op : Int) : List UInt8 := namesL.getD op.toNat []
def word (i : Ins) : List UInt8 := nameOf i.1 ++ (if hasA i.1 then 32 :: itoa i.2 else [])
def sep : List UInt8 := [59, 32]
/-! ### a word has no semicolon; a name has no blank -/
/-! ### index and cut -/
theorem fits_parts {l : List Ins} (h : fitsI l = true) : l.length ≤ 24 ∧ ∀ i ∈ l, rightI i = true := by
  unfold fitsI at h
  simp only [Bool.and_eq_true, decide_eq_true_eq, List.all_eq_true] at h
  exact h
end Co

/-! A scope with one label that is jumped back to, and one that is jumped ahead to. -/
namespace Go
set_option linter.unusedSimpArgs false
set_option linter.unusedVariables false

section
variable {P : Program} {a : Act} {w : World} {Q : Exit → Act → World → Prop}
theorem wp_skip_seq {x : Code} (h : x.wp P Q a w) : (Code.seq .skip x).wp P Q a w := wp_seq (wp_skip h)
end
end Go
