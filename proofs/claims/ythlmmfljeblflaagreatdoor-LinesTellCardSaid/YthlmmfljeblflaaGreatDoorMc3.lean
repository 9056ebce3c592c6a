import Derived.Lib.Atoi
import Derived.Lib.ItoaNum
import Derived.Lib.Join
import Derived.Lib.IndexMore
import Derived.Lib.AtoiTie
import Derived.Lib.AtoiAllCases
import Derived.Lib.Fields
/-! Texts of numbers and of values: plain laws. -/
namespace Tx
set_option linter.unusedSimpArgs false
set_option linter.unusedVariables false
open Go.Lib

theorem dec_len (m k : Nat) (h : m < 10 ^ (k + 1)) : (decDigits m).length ≤ k + 1 := by
  induction k generalizing m with
  | zero => rw [decDigits, dif_pos (by omega)]; simp
  | succ k ih =>
    rw [decDigits]
    split
    · simp
    · have := ih (m / 10) (by rw [Nat.pow_succ] at h; omega)
      simp; omega
theorem itoa_len6 (n : Int) (h : -524288 ≤ n ∧ n < 524288) : (itoa n).length ≤ 7 := by
  unfold itoa
  split
  · have := dec_len n.natAbs 5 (by omega); simp; omega
  · have := dec_len n.toNat 5 (by omega); omega
end Tx

/-! Programs as words: plain laws. -/
namespace Co
set_option linter.unusedSimpArgs false
set_option linter.unusedVariables false
open Go.Lib

abbrev Ins := Int × Int
def hasA (op : Int) : Bool := op == 1 || (op == 2 || (op == 4 || (op == 5 || (op == 15 || op == 16))))
def lo (op : Int) : Int := if op = 1 ∨ op = 2 then -524288 else if op = 15 ∨ op = 16 then 1 else 0
def hi (op : Int) : Int := if op = 1 ∨ op = 2 then 524287 else if op = 4 ∨ op = 5 then 1 else if op = 15 ∨ op = 16 then 24 else 0
def rightI (i : Ins) : Bool := decide (0 ≤ i.1) && decide (i.1 < 18) && decide (lo i.1 ≤ i.2) && decide (i.2 ≤ hi i.1)
def fitsI (l : List Ins) : Bool := decide (l.length ≤ 24) && l.all rightI
def namesL : List (List UInt8) := [[72, 65, 76, 84], [80, 85, 83, 72], [80, 85, 83, 72, 73], [73, 78], [76, 79, 65, 68], [83, 84, 79, 82, 69], [65, 68, 68], [83, 85, 66], [77, 85, 76], [67, 79, 78, 74], [84, 85, 82, 78], [68, 85, 80], [83, 87, 65, 80], [68, 82, 79, 80], [69, 77, 73, 84], [74, 90], [74, 77, 80], [76, 84]]
def nameOf (op : Int) : List UInt8 := namesL.getD op.toNat []
def word (i : Ins) : List UInt8 := nameOf i.1 ++ (if hasA i.1 then 32 :: itoa i.2 else [])
def sep : List UInt8 := [59, 32]
def textI (l : List Ins) : List UInt8 := join (l.map word) sep
/-- code.Text -/
def textOut (l : List Ins) : List UInt8 := if fitsI l then textI l else []

def atoiVal (l : List UInt8) : Int := match atoiAll l with | .ok v => v | .range => atoiSat l | _ => 0
theorem atoiVal_range (l : List UInt8) : -9223372036854775808 ≤ atoiVal l ∧ atoiVal l ≤ 9223372036854775807 := by
  unfold atoiVal
  split
  · rename_i h; exact atoiAll_bounds h
  · exact atoiSat_bounds l
  · omega
def idxName (n : List UInt8) : Int := if n ∈ namesL then (namesL.idxOf n : Int) else -1
/-- one word, read -/
def insOf (w : List UInt8) : Ins := (idxName (cut w [32]).1, atoiVal (cut w [32]).2.1)
/-- the words, read: at most so many -/
def readI : Nat → List UInt8 → List Ins
  | 0, _ => []
  | n + 1, s => insOf (cut s sep).1 :: if (cut s sep).2.2 then readI n (cut s sep).2.1 else []
def instrs (s : List UInt8) : List Ins := if s = [] then [] else readI 25 s
/-- code.Parse -/
def parseI (s : List UInt8) : List Ins × Int := if textOut (instrs s) = s then (instrs s, 0) else ([], 4)

/-! ### a word has no semicolon; a name has no blank -/
theorem nameOf_mem {op : Int} (h0 : 0 ≤ op) (h1 : op < 18) : nameOf op ∈ namesL := by
  unfold nameOf
  have : op.toNat < namesL.length := by show op.toNat < 18; omega
  rw [List.getD_eq_getElem?_getD, List.getElem?_eq_getElem this]
  exact List.getElem_mem _
/-! ### index and cut -/
theorem right_parts {i : Ins} (h : rightI i = true) : 0 ≤ i.1 ∧ i.1 < 18 ∧ lo i.1 ≤ i.2 ∧ i.2 ≤ hi i.1 := by
  unfold rightI at h
  simp only [Bool.and_eq_true, decide_eq_true_eq] at h
  exact ⟨h.1.1.1, h.1.1.2, h.1.2, h.2⟩
theorem right_arg {i : Ins} (h : rightI i = true) : -524288 ≤ i.2 ∧ i.2 < 524288 := by
  obtain ⟨_, _, h2, h3⟩ := right_parts h
  unfold lo at h2; unfold hi at h3
  split at h2 <;> split at h3 <;> (try split at h2) <;> (try split at h3) <;> (try split at h3) <;> omega
theorem textI_cons (i : Ins) (l : List Ins) : textI (i :: l) = if l = [] then word i else word i ++ sep ++ textI l := by
  unfold textI join
  cases l with
  | nil => simp
  | cons j l => rw [if_neg (by simp)]; simp [List.intercalate]
theorem fits_parts {l : List Ins} (h : fitsI l = true) : l.length ≤ 24 ∧ ∀ i ∈ l, rightI i = true := by
  unfold fitsI at h
  simp only [Bool.and_eq_true, decide_eq_true_eq, List.all_eq_true] at h
  exact h
theorem word_len {i : Ins} (h : rightI i = true) : (word i).length ≤ 14 := by
  obtain ⟨h0, h1, _, _⟩ := right_parts h
  have hn : (nameOf i.1).length ≤ 5 := by
    have key : ∀ n ∈ namesL, n.length ≤ 5 := by decide
    exact key _ (nameOf_mem h0 h1)
  have hi := Tx.itoa_len6 i.2 (right_arg h)
  unfold word
  rw [List.length_append]
  split
  · simp only [List.length_cons]; omega
  · simp only [List.length_nil]; omega
theorem textI_len : ∀ (l : List Ins), (∀ i ∈ l, rightI i = true) → (textI l).length ≤ l.length * 16
  | [], _ => by simp [textI, join, List.intercalate]
  | i :: l, h => by
    have h1 := word_len (h i List.mem_cons_self)
    have h2 := textI_len l fun j hj => h j (List.mem_cons_of_mem _ hj)
    rw [textI_cons]
    have h3 : sep.length = 2 := rfl
    split
    · simp only [List.length_cons]; omega
    · simp only [List.length_append, List.length_cons, h3]; omega
end Co
