import Derived.Test.YtiocdmfmghanmaaGreatDoorRows
import Derived.Test.YtiocdmfmghanmaaGreatDoorWorld
import Derived.Lib.ItoaNum
import Derived.WalkKit
import Derived.WalkSpells
import Derived.Lib.Hide
import Derived.Outline
import Derived.LoopTactic
/-! Digits of a number, by the other text. -/
namespace Go.Proofs.YtiocdmfmghanmaaGreatDoor
set_option linter.unusedSimpArgs false
set_option linter.unusedVariables false
open Go.RowKit

abbrev str (l : List UInt8) : Value := .string ⟨l.toArray⟩
def digs : ByteArray := ⟨#[48, 49, 50, 51, 52, 53, 54, 55, 56, 57]⟩
theorem digs_at (k : Nat) (h : k < 10) : digs.extract k (k + 1) = ⟨[UInt8.ofNat (48 + k)].toArray⟩ := by
  match k, h with
  | 0, _ | 1, _ | 2, _ | 3, _ | 4, _ | 5, _ | 6, _ | 7, _ | 8, _ | 9, _ => decide +kernel

/-- the digits ahead of the last one -/
def hiD (m : Nat) : List UInt8 := if m < 10 then [] else Lib.decDigits (m / 10)
theorem dec_hi (m : Nat) : Lib.decDigits m = hiD m ++ [UInt8.ofNat (48 + m % 10)] := by
  unfold hiD
  rw [Lib.decDigits]
  by_cases h : m < 10
  · rw [dif_pos h, if_pos h, Nat.mod_eq_of_lt h]; rfl
  · rw [dif_neg h, if_neg h]
theorem dec_len (m : Nat) (h : m < 18446744073709551616) : (Lib.decDigits m).length ≤ 20 := by
  have key : ∀ (k m : Nat), m < 10 ^ (k + 1) → (Lib.decDigits m).length ≤ k + 1 := by
    intro k
    induction k with
    | zero => intro m hm; rw [Lib.decDigits, dif_pos (by omega)]; simp
    | succ k ih =>
      intro m hm
      rw [Lib.decDigits]
      split
      · simp
      · have := ih (m / 10) (by rw [Nat.pow_succ] at hm; omega)
        simp; omega
  exact key 19 m (by omega)
theorem itoa_len (n : Int) (h : -9223372036854775808 ≤ n ∧ n ≤ 9223372036854775807) : (Lib.itoa n).length ≤ 21 := by
  unfold Lib.itoa
  split
  · have := dec_len n.natAbs (by omega); simp; omega
  · have := dec_len n.toNat (by omega); omega

theorem str_cat (a b : List UInt8) : (⟨a.toArray⟩ ++ ⟨b.toArray⟩ : ByteArray) = ⟨(a ++ b).toArray⟩ := ByteArray.mk_append_mk a b


theorem tdiv_neg10 (m : Nat) : (-(m : Int)).tdiv 10 = -((m / 10 : Nat) : Int) := by rw [Int.neg_tdiv]; rfl
theorem tmod_neg10 (m : Nat) : (-(m : Int)).tmod 10 = -((m % 10 : Nat) : Int) := by rw [Int.neg_tmod]; rfl
theorem itoa_neg (m : Nat) (h : 0 < m) : Lib.itoa (-(m : Int)) = 45 :: Lib.decDigits m := by
  unfold Lib.itoa
  rw [if_pos (by omega)]
  simp

theorem digs_at' (k : Nat) (h : k < 10) : digs.extract k (1 + k) = ⟨[UInt8.ofNat (48 + k)].toArray⟩ := by rw [Nat.add_comm]; exact digs_at k h


end Go.Proofs.YtiocdmfmghanmaaGreatDoor
