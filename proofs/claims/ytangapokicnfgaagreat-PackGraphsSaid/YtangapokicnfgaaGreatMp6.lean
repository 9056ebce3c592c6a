import Derived.Lib.Atoi
import Derived.Lib.ItoaNum
import Derived.Test.YtangapokicnfgaaGreatMp5
import Derived.Test.YtangapokicnfgaaGreatShelf
import Derived.Lib.LaidTab
import Derived.Lib.ConvBytes
import Derived.WalkSmall
/-! Texts of numbers and of values: plain laws. -/
namespace Tx
set_option linter.unusedSimpArgs false
set_option linter.unusedVariables false
open Go.Lib

def isDig (b : UInt8) : Bool := decide (48 ≤ b.toNat) && decide (b.toNat ≤ 57)
def isPM (b : UInt8) : Bool := b == 43 || b == 45

theorem ofNat_toNat (k : Nat) (h : k < 256) : (UInt8.ofNat k).toNat = k := by simp [UInt8.toNat_ofNat']; omega
theorem dig_ofNat (k : Nat) (h : k < 10) : isDig (UInt8.ofNat (48 + k)) = true := by
  unfold isDig; rw [ofNat_toNat _ (by omega)]; simp; omega
theorem dec_dig (n : Nat) : ∀ b ∈ decDigits n, isDig b = true := by
  induction n using Nat.strongRecOn with
  | _ n ih =>
    intro b hb
    rw [decDigits] at hb
    split at hb
    · rw [List.mem_singleton] at hb; subst hb; exact dig_ofNat n (by omega)
    · rcases List.mem_append.1 hb with h | h
      · exact ih _ (by omega) b h
      · rw [List.mem_singleton] at h; subst h; exact dig_ofNat (n % 10) (Nat.mod_lt n (by decide))
theorem dec_ne (n : Nat) : decDigits n ≠ [] := by
  rw [decDigits]; split <;> simp
theorem not_pm_of_dig {b : UInt8} (h : isDig b = true) : isPM b = false := by
  unfold isDig at h; unfold isPM
  simp only [Bool.and_eq_true, decide_eq_true_eq] at h
  rw [Bool.or_eq_false_iff, beq_eq_false_iff_ne, beq_eq_false_iff_ne]
  constructor
  · rintro rfl; exact absurd h.1 (by decide)
  · rintro rfl; exact absurd h.1 (by decide)

/-- the last place where p holds -/
def lastIdx (p : UInt8 → Bool) : List UInt8 → Option Nat
  | [] => none
  | x :: l => match lastIdx p l with
    | some k => some (k + 1)
    | none => if p x then some 0 else none
theorem lastIdx_none {p : UInt8 → Bool} : ∀ (l : List UInt8), (∀ b ∈ l, p b = false) → lastIdx p l = none
  | [], _ => rfl
  | x :: l, h => by rw [lastIdx, lastIdx_none l fun b hb => h b (List.mem_cons_of_mem _ hb)]; simp [h x List.mem_cons_self]
theorem lastIdx_at {p : UInt8 → Bool} : ∀ (a : List UInt8) (x : UInt8) (b : List UInt8), p x = true → (∀ y ∈ b, p y = false) → lastIdx p (a ++ x :: b) = some a.length
  | [], x, b, hx, hb => by rw [List.nil_append, lastIdx, lastIdx_none b hb]; simp [hx]
  | y :: a, x, b, hx, hb => by rw [List.cons_append, lastIdx, lastIdx_at a x b hx hb]; rfl

/-- the text of two numbers -/
def textL (r i : Int) : List UInt8 := itoa r ++ (if i < 0 then [] else [43]) ++ itoa i ++ [105]
/-- what stands behind the real part, ahead of the i -/
def imL (i : Int) : List UInt8 := if i < 0 then itoa i else 43 :: itoa i
theorem textL_eq (r i : Int) : textL r i = itoa r ++ (imL i ++ [105]) := by
  unfold textL imL; split <;> simp
theorem imL_shape (i : Int) : ∃ x d, imL i = x :: d ∧ isPM x = true ∧ ∀ b ∈ d, isDig b = true := by
  unfold imL
  split
  · rename_i h
    refine ⟨45, decDigits i.natAbs, by unfold itoa; rw [if_pos h], by decide, dec_dig _⟩
  · rename_i h
    refine ⟨43, decDigits i.toNat, by unfold itoa; rw [if_neg h], by decide, dec_dig _⟩
theorem last_text (r i : Int) : lastIdx isPM (textL r i) = some (itoa r).length := by
  obtain ⟨x, d, h1, h2, h3⟩ := imL_shape i
  rw [textL_eq, h1, List.cons_append]
  refine lastIdx_at _ _ _ h2 ?_
  intro y hy
  rcases List.mem_append.1 hy with h | h
  · exact not_pm_of_dig (h3 y h)
  · simp at h; subst h; decide
theorem take_text (r i : Int) : (textL r i).take (itoa r).length = itoa r := by rw [textL_eq]; simp
theorem drop_text (r i : Int) : (textL r i).drop (itoa r).length = imL i ++ [105] := by rw [textL_eq]; simp

theorem decFrom_digits (acc : Nat) (l : List UInt8) (x : UInt8) (k : Nat) (hx : digitVal x = some k) : ∀ (m : Nat), decFrom acc l = some m → decFrom acc (l ++ [x]) = some (m * 10 + k) := by
  induction l generalizing acc with
  | nil => intro m h; simp [decFrom] at h ⊢; subst h; simp [hx]
  | cons y l ih =>
    intro m h
    rw [List.cons_append, decFrom]
    rw [decFrom] at h
    cases hy : digitVal y with
    | none => rw [hy] at h; simp at h
    | some d => rw [hy] at h; simp at h ⊢; exact ih _ m h

theorem digitVal_ofNat (k : Nat) (h : k < 10) : digitVal (UInt8.ofNat (48 + k)) = some k := by
  unfold digitVal; rw [ofNat_toNat _ (by omega), if_pos (by omega)]; congr 1; omega
theorem decFrom_dec (n : Nat) : decFrom 0 (decDigits n) = some n := by
  induction n using Nat.strongRecOn with
  | _ n ih =>
    rw [decDigits]
    split
    · rename_i h
      rw [decFrom, digitVal_ofNat n h]; simp [decFrom]
    · rw [decFrom_digits 0 _ _ (n % 10) (digitVal_ofNat _ (Nat.mod_lt _ (by decide))) (n / 10) (ih _ (by omega))]
      congr 1; omega
theorem decNat_dec (n : Nat) : decNat (decDigits n) = some n := by
  unfold decNat
  rw [decFrom_dec]
  have := dec_ne n
  cases h : decDigits n with
  | nil => exact absurd h this
  | cons => rfl

theorem atoi_itoa (n : Int) : atoi (itoa n) = some n := by
  unfold itoa
  split
  · rename_i h
    rw [atoi, if_pos (by decide), decNat_dec]; simp; omega
  · rename_i h
    cases hd : decDigits n.toNat with
    | nil => exact absurd hd (dec_ne _)
    | cons b r =>
      have hb : isDig b = true := dec_dig n.toNat b (by rw [hd]; exact List.mem_cons_self)
      have hp := not_pm_of_dig hb
      unfold isPM at hp
      rw [Bool.or_eq_false_iff] at hp
      rw [atoi]
      rw [hp.1, hp.2, ← hd, decNat_dec]
      simp; omega
theorem atoi_imL (i : Int) : atoi (imL i) = some i := by
  unfold imL
  split
  · exact atoi_itoa i
  · rename_i h
    unfold itoa; rw [if_neg h]
    rw [atoi, if_neg (by decide), if_pos (by decide), decNat_dec]; simp; omega

theorem textL_inj {r i r' i' : Int} (h : textL r i = textL r' i') : r = r' ∧ i = i' := by
  have h1 : some (itoa r).length = some (itoa r').length := by rw [← last_text r i, ← last_text r' i', h]
  have h2 := Option.some.inj h1
  constructor
  · have : itoa r = itoa r' := by rw [← take_text r i, ← take_text r' i', h, h2]
    have h3 : some r = some r' := by rw [← atoi_itoa r, ← atoi_itoa r', this]
    exact Option.some.inj h3
  · have : imL i ++ [105] = imL i' ++ [105] := by rw [← drop_text r i, ← drop_text r' i', h, h2]
    have h4 : imL i = imL i' := List.append_cancel_right this
    have h3 : some i = some i' := by rw [← atoi_imL i, ← atoi_imL i', h4]
    exact Option.some.inj h3

theorem dec_len (m k : Nat) (h : m < 10 ^ (k + 1)) : (decDigits m).length ≤ k + 1 := by
  induction k generalizing m with
  | zero => rw [decDigits, dif_pos (by omega)]; simp
  | succ k ih =>
    rw [decDigits]
    split
    · simp
    · have := ih (m / 10) (by rw [Nat.pow_succ] at h; omega)
      simp; omega
theorem itoa_len6 (n : Int) (h : -524288 ≤ n ∧ n < 524288) : (itoa n).length ≤ 7 := by
  unfold itoa
  split
  · have := dec_len n.natAbs 5 (by omega); simp; omega
  · have := dec_len n.toNat 5 (by omega); omega
theorem itoa_pos (n : Int) : 1 ≤ (itoa n).length := by
  have h1 := dec_ne n.natAbs
  have h2 := dec_ne n.toNat
  unfold itoa
  split
  · simp
  · exact List.length_pos_iff.2 h2
theorem itoa_ascii (n : Int) : ∀ b ∈ itoa n, b.toNat < 128 := by
  have key : ∀ b, isDig b = true → b.toNat < 128 := by
    intro b hb; unfold isDig at hb; simp only [Bool.and_eq_true, decide_eq_true_eq] at hb; omega
  intro b hb
  unfold itoa at hb
  split at hb
  · rcases List.mem_cons.1 hb with rfl | h
    · decide
    · exact key b (dec_dig _ b h)
  · exact key b (dec_dig _ b hb)
theorem textL_ascii (r i : Int) : ∀ b ∈ textL r i, b.toNat < 128 := by
  intro b hb
  unfold textL at hb
  simp only [List.mem_append] at hb
  rcases hb with ((h | h) | h) | h
  · exact itoa_ascii r b h
  · split at h
    · cases h
    · rw [List.mem_singleton] at h; subst h; decide
  · exact itoa_ascii i b h
  · rw [List.mem_singleton] at h; subst h; decide
end Tx

/-! Texts of values. -/
namespace Go.Proofs.YtangapokicnfgaaGreat
set_option linter.unusedSimpArgs false
set_option linter.unusedVariables false
open Go.RowKit Ga

theorem grew_grow (w : World) (k : Nat) (os : Array Obj) : Grew w (Sort.grow (w.drewN k) os) := ⟨os, w.drawn + k, rfl⟩
theorem grew_bytes (w : World) (t : TypeId) (x : ByteArray) : Grew w (Lib.bytesWorld w t x) := by
  apply Grew.ofBelow
  unfold Lib.bytesWorld
  exact below_freeze (((Below.refl _ _).drew).alloc (Nat.le_refl _) _) (p := ⟨w.heap.size, _, none⟩) (Nat.le_refl w.heap.size) _

/-- The table that strconv.Itoa reads. -/
def Pow (w : World) : Prop := Lib.TabIs Tryz.prog w "internal/strconv.uint64pow10" .u64 Lib.pow10Tab

theorem var_grew {n : String} {cs : Array Value} {w w' : World} (h : w.var? Tryz.prog n = some cs) (g : Grew w w') : w'.var? Tryz.prog n = some cs := by
  cases hg : Tryz.prog.globalNamed n with
  | none => unfold World.var? at h; simp [hg] at h
  | some i =>
    by_cases hi : i < w.heap.size
    · exact var?_below g.below hg hi h
    · unfold World.var? at h
      have : w.heap[i]? = none := Array.getElem?_eq_none (by omega)
      simp [hg, this] at h
theorem Pow.grew {w w' : World} (h : Pow w) (g : Grew w w') : Pow w' := var_grew h g

/-- A value's text. -/
def textV (a : Val) : List UInt8 := Lib.itoa (into a.1) ++ (if into a.2 < 0 then [] else [43]) ++ Lib.itoa (into a.2) ++ [105]
theorem textV_neg {a : Val} (h : into a.2 < 0) : textV a = Lib.itoa (into a.1) ++ [] ++ Lib.itoa (into a.2) ++ [105] := by unfold textV; rw [if_pos h]
theorem textV_pos {a : Val} (h : ¬ into a.2 < 0) : textV a = Lib.itoa (into a.1) ++ [43] ++ Lib.itoa (into a.2) ++ [105] := by unfold textV; rw [if_neg h]


end Go.Proofs.YtangapokicnfgaaGreat
