import Derived.Lib.Atoi
import Derived.Lib.ItoaNum
import Derived.Lib.Join
import Derived.Lib.IndexMore
import Derived.Lib.AtoiTie
import Derived.Lib.AtoiAllCases
import Derived.Lib.Fields
/-! Texts of numbers and of values: plain laws. -/
namespace Tx
set_option linter.unusedSimpArgs false
set_option linter.unusedVariables false
open Go.Lib

def isDig (b : UInt8) : Bool := decide (48 ≤ b.toNat) && decide (b.toNat ≤ 57)
def isPM (b : UInt8) : Bool := b == 43 || b == 45

theorem ofNat_toNat (k : Nat) (h : k < 256) : (UInt8.ofNat k).toNat = k := by simp [UInt8.toNat_ofNat']; omega
theorem dig_ofNat (k : Nat) (h : k < 10) : isDig (UInt8.ofNat (48 + k)) = true := by
  unfold isDig; rw [ofNat_toNat _ (by omega)]; simp; omega
theorem dec_dig (n : Nat) : ∀ b ∈ decDigits n, isDig b = true := by
  induction n using Nat.strongRecOn with
  | _ n ih =>
    intro b hb
    rw [decDigits] at hb
    split at hb
    · rw [List.mem_singleton] at hb; subst hb; exact dig_ofNat n (by omega)
    · rcases List.mem_append.1 hb with h | h
      · exact ih _ (by omega) b h
      · rw [List.mem_singleton] at h; subst h; exact dig_ofNat (n % 10) (Nat.mod_lt n (by decide))
theorem dec_ne (n : Nat) : decDigits n ≠ [] := by
  rw [decDigits]; split <;> simp
theorem not_pm_of_dig {b : UInt8} (h : isDig b = true) : isPM b = false := by
  unfold isDig at h; unfold isPM
  simp only [Bool.and_eq_true, decide_eq_true_eq] at h
  rw [Bool.or_eq_false_iff, beq_eq_false_iff_ne, beq_eq_false_iff_ne]
  constructor
  · rintro rfl; exact absurd h.1 (by decide)
  · rintro rfl; exact absurd h.1 (by decide)

/-- the last place where p holds -/
def lastIdx (p : UInt8 → Bool) : List UInt8 → Option Nat
  | [] => none
  | x :: l => match lastIdx p l with
    | some k => some (k + 1)
    | none => if p x then some 0 else none
theorem lastIdx_none {p : UInt8 → Bool} : ∀ (l : List UInt8), (∀ b ∈ l, p b = false) → lastIdx p l = none
  | [], _ => rfl
  | x :: l, h => by rw [lastIdx, lastIdx_none l fun b hb => h b (List.mem_cons_of_mem _ hb)]; simp [h x List.mem_cons_self]
theorem lastIdx_at {p : UInt8 → Bool} : ∀ (a : List UInt8) (x : UInt8) (b : List UInt8), p x = true → (∀ y ∈ b, p y = false) → lastIdx p (a ++ x :: b) = some a.length
  | [], x, b, hx, hb => by rw [List.nil_append, lastIdx, lastIdx_none b hb]; simp [hx]
  | y :: a, x, b, hx, hb => by rw [List.cons_append, lastIdx, lastIdx_at a x b hx hb]; rfl

/-- the text of two numbers -/
def textL (r i : Int) : List UInt8 := itoa r ++ (if i < 0 then [] else [43]) ++ itoa i ++ [105]
/-- what stands behind the real part, ahead of the i -/
def imL (i : Int) : List UInt8 := if i < 0 then itoa i else 43 :: itoa i
theorem textL_eq (r i : Int) : textL r i = itoa r ++ (imL i ++ [105]) := by
  unfold textL imL; split <;> simp
theorem imL_shape (i : Int) : ∃ x d, imL i = x :: d ∧ isPM x = true ∧ ∀ b ∈ d, isDig b = true := by
  unfold imL
  split
  · rename_i h
    refine ⟨45, decDigits i.natAbs, by unfold itoa; rw [if_pos h], by decide, dec_dig _⟩
  · rename_i h
    refine ⟨43, decDigits i.toNat, by unfold itoa; rw [if_neg h], by decide, dec_dig _⟩
theorem last_text (r i : Int) : lastIdx isPM (textL r i) = some (itoa r).length := by
  obtain ⟨x, d, h1, h2, h3⟩ := imL_shape i
  rw [textL_eq, h1, List.cons_append]
  refine lastIdx_at _ _ _ h2 ?_
  intro y hy
  rcases List.mem_append.1 hy with h | h
  · exact not_pm_of_dig (h3 y h)
  · simp at h; subst h; decide
theorem take_text (r i : Int) : (textL r i).take (itoa r).length = itoa r := by rw [textL_eq]; simp
theorem drop_text (r i : Int) : (textL r i).drop (itoa r).length = imL i ++ [105] := by rw [textL_eq]; simp

theorem decFrom_digits (acc : Nat) (l : List UInt8) (x : UInt8) (k : Nat) (hx : digitVal x = some k) : ∀ (m : Nat), decFrom acc l = some m → decFrom acc (l ++ [x]) = some (m * 10 + k) := by
  induction l generalizing acc with
  | nil => intro m h; simp [decFrom] at h ⊢; subst h; simp [hx]
  | cons y l ih =>
    intro m h
    rw [List.cons_append, decFrom]
    rw [decFrom] at h
    cases hy : digitVal y with
    | none => rw [hy] at h; simp at h
    | some d => rw [hy] at h; simp at h ⊢; exact ih _ m h

theorem digitVal_ofNat (k : Nat) (h : k < 10) : digitVal (UInt8.ofNat (48 + k)) = some k := by
  unfold digitVal; rw [ofNat_toNat _ (by omega), if_pos (by omega)]; congr 1; omega
theorem decFrom_dec (n : Nat) : decFrom 0 (decDigits n) = some n := by
  induction n using Nat.strongRecOn with
  | _ n ih =>
    rw [decDigits]
    split
    · rename_i h
      rw [decFrom, digitVal_ofNat n h]; simp [decFrom]
    · rw [decFrom_digits 0 _ _ (n % 10) (digitVal_ofNat _ (Nat.mod_lt _ (by decide))) (n / 10) (ih _ (by omega))]
      congr 1; omega
theorem decNat_dec (n : Nat) : decNat (decDigits n) = some n := by
  unfold decNat
  rw [decFrom_dec]
  have := dec_ne n
  cases h : decDigits n with
  | nil => exact absurd h this
  | cons => rfl

theorem atoi_itoa (n : Int) : atoi (itoa n) = some n := by
  unfold itoa
  split
  · rename_i h
    rw [atoi, if_pos (by decide), decNat_dec]; simp; omega
  · rename_i h
    cases hd : decDigits n.toNat with
    | nil => exact absurd hd (dec_ne _)
    | cons b r =>
      have hb : isDig b = true := dec_dig n.toNat b (by rw [hd]; exact List.mem_cons_self)
      have hp := not_pm_of_dig hb
      unfold isPM at hp
      rw [Bool.or_eq_false_iff] at hp
      rw [atoi]
      rw [hp.1, hp.2, ← hd, decNat_dec]
      simp; omega
theorem atoi_imL (i : Int) : atoi (imL i) = some i := by
  unfold imL
  split
  · exact atoi_itoa i
  · rename_i h
    unfold itoa; rw [if_neg h]
    rw [atoi, if_neg (by decide), if_pos (by decide), decNat_dec]; simp; omega

theorem textL_inj {r i r' i' : Int} (h : textL r i = textL r' i') : r = r' ∧ i = i' := by
  have h1 : some (itoa r).length = some (itoa r').length := by rw [← last_text r i, ← last_text r' i', h]
  have h2 := Option.some.inj h1
  constructor
  · have : itoa r = itoa r' := by rw [← take_text r i, ← take_text r' i', h, h2]
    have h3 : some r = some r' := by rw [← atoi_itoa r, ← atoi_itoa r', this]
    exact Option.some.inj h3
  · have : imL i ++ [105] = imL i' ++ [105] := by rw [← drop_text r i, ← drop_text r' i', h, h2]
    have h4 : imL i = imL i' := List.append_cancel_right this
    have h3 : some i = some i' := by rw [← atoi_imL i, ← atoi_imL i', h4]
    exact Option.some.inj h3

theorem dec_len (m k : Nat) (h : m < 10 ^ (k + 1)) : (decDigits m).length ≤ k + 1 := by
  induction k generalizing m with
  | zero => rw [decDigits, dif_pos (by omega)]; simp
  | succ k ih =>
    rw [decDigits]
    split
    · simp
    · have := ih (m / 10) (by rw [Nat.pow_succ] at h; omega)
      simp; omega
theorem itoa_len6 (n : Int) (h : -524288 ≤ n ∧ n < 524288) : (itoa n).length ≤ 7 := by
  unfold itoa
  split
  · have := dec_len n.natAbs 5 (by omega); simp; omega
  · have := dec_len n.toNat 5 (by omega); omega
theorem itoa_pos (n : Int) : 1 ≤ (itoa n).length := by
  have h1 := dec_ne n.natAbs
  have h2 := dec_ne n.toNat
  unfold itoa
  split
  · simp
  · exact List.length_pos_iff.2 h2
theorem itoa_ascii (n : Int) : ∀ b ∈ itoa n, b.toNat < 128 := by
  have key : ∀ b, isDig b = true → b.toNat < 128 := by
    intro b hb; unfold isDig at hb; simp only [Bool.and_eq_true, decide_eq_true_eq] at hb; omega
  intro b hb
  unfold itoa at hb
  split at hb
  · rcases List.mem_cons.1 hb with rfl | h
    · decide
    · exact key b (dec_dig _ b h)
  · exact key b (dec_dig _ b hb)
theorem textL_ascii (r i : Int) : ∀ b ∈ textL r i, b.toNat < 128 := by
  intro b hb
  unfold textL at hb
  simp only [List.mem_append] at hb
  rcases hb with ((h | h) | h) | h
  · exact itoa_ascii r b h
  · split at h
    · cases h
    · rw [List.mem_singleton] at h; subst h; decide
  · exact itoa_ascii i b h
  · rw [List.mem_singleton] at h; subst h; decide
end Tx

/-! Programs as words: plain laws. -/
namespace Co
set_option linter.unusedSimpArgs false
set_option linter.unusedVariables false
open Go.Lib

abbrev Ins := Int × Int
def hasA (op : Int) : Bool := op == 1 || (op == 2 || (op == 4 || (op == 5 || (op == 15 || op == 16))))
def lo (op : Int) : Int := if op = 1 ∨ op = 2 then -524288 else if op = 15 ∨ op = 16 then 1 else 0
def hi (op : Int) : Int := if op = 1 ∨ op = 2 then 524287 else if op = 4 ∨ op = 5 then 1 else if op = 15 ∨ op = 16 then 24 else 0
def rightI (i : Ins) : Bool := decide (0 ≤ i.1) && decide (i.1 < 18) && decide (lo i.1 ≤ i.2) && decide (i.2 ≤ hi i.1)
def fitsI (l : List Ins) : Bool := decide (l.length ≤ 24) && l.all rightI
def namesL : List (List UInt8) := [[72, 65, 76, 84], [80, 85, 83, 72], [80, 85, 83, 72, 73], [73, 78], [76, 79, 65, 68], [83, 84, 79, 82, 69], [65, 68, 68], [83, 85, 66], [77, 85, 76], [67, 79, 78, 74], [84, 85, 82, 78], [68, 85, 80], [83, 87, 65, 80], [68, 82, 79, 80], [69, 77, 73, 84], [74, 90], [74, 77, 80], [76, 84]]
def nameOf (op : Int) : List UInt8 := namesL.getD op.toNat []
def word (i : Ins) : List UInt8 := nameOf i.1 ++ (if hasA i.1 then 32 :: itoa i.2 else [])
def sep : List UInt8 := [59, 32]
def textI (l : List Ins) : List UInt8 := join (l.map word) sep
/-- code.Text -/
def textOut (l : List Ins) : List UInt8 := if fitsI l then textI l else []

def atoiVal (l : List UInt8) : Int := match atoiAll l with | .ok v => v | .range => atoiSat l | _ => 0
theorem atoiVal_range (l : List UInt8) : -9223372036854775808 ≤ atoiVal l ∧ atoiVal l ≤ 9223372036854775807 := by
  unfold atoiVal
  split
  · rename_i h; exact atoiAll_bounds h
  · exact atoiSat_bounds l
  · omega
def idxName (n : List UInt8) : Int := if n ∈ namesL then (namesL.idxOf n : Int) else -1
/-- one word, read -/
def insOf (w : List UInt8) : Ins := (idxName (cut w [32]).1, atoiVal (cut w [32]).2.1)
/-- the words, read: at most so many -/
def readI : Nat → List UInt8 → List Ins
  | 0, _ => []
  | n + 1, s => insOf (cut s sep).1 :: if (cut s sep).2.2 then readI n (cut s sep).2.1 else []
def instrs (s : List UInt8) : List Ins := if s = [] then [] else readI 25 s
/-- code.Parse -/
def parseI (s : List UInt8) : List Ins × Int := if textOut (instrs s) = s then (instrs s, 0) else ([], 4)

/-! ### a word has no semicolon; a name has no blank -/
theorem names_clean : ∀ n ∈ namesL, ∀ b ∈ n, b ≠ 59 ∧ b ≠ 32 := by decide
theorem nameOf_mem {op : Int} (h0 : 0 ≤ op) (h1 : op < 18) : nameOf op ∈ namesL := by
  unfold nameOf
  have : op.toNat < namesL.length := by show op.toNat < 18; omega
  rw [List.getD_eq_getElem?_getD, List.getElem?_eq_getElem this]
  exact List.getElem_mem _
theorem itoa_clean (n : Int) : ∀ b ∈ itoa n, b ≠ 59 ∧ b ≠ 32 := by
  have key : ∀ b, Tx.isDig b = true → b ≠ 59 ∧ b ≠ 32 := by
    intro b hb; unfold Tx.isDig at hb; simp only [Bool.and_eq_true, decide_eq_true_eq] at hb
    constructor
    · rintro rfl; exact absurd hb.2 (by decide)
    · rintro rfl; exact absurd hb.1 (by decide)
  intro b hb
  unfold itoa at hb
  split at hb
  · rcases List.mem_cons.1 hb with rfl | h
    · decide
    · exact key b (Tx.dec_dig _ b h)
  · exact key b (Tx.dec_dig _ b hb)
theorem word_clean {i : Ins} (h0 : 0 ≤ i.1) (h1 : i.1 < 18) : ∀ b ∈ word i, b ≠ 59 := by
  intro b hb
  unfold word at hb
  rcases List.mem_append.1 hb with h | h
  · exact (names_clean _ (nameOf_mem h0 h1) b h).1
  · split at h
    · rcases List.mem_cons.1 h with rfl | h
      · decide
      · exact (itoa_clean _ b h).1
    · cases h

/-! ### index and cut -/
theorem index_clean (x : UInt8) (r : List UInt8) : ∀ (l : List UInt8), (∀ b ∈ l, b ≠ x) → index l (x :: r) = -1
  | [], _ => rfl
  | b :: l, h => by
    have hb : b ≠ x := h b List.mem_cons_self
    have ih := index_clean x r l fun c hc => h c (List.mem_cons_of_mem _ hc)
    have hp : (x :: r).isPrefixOf (b :: l) = false := by
      simp only [List.isPrefixOf]
      have : (x == b) = false := by rw [beq_eq_false_iff_ne]; exact fun e => hb e.symm
      rw [this]; rfl
    rw [index, hp, ih]; rfl
theorem index_first (x : UInt8) (r : List UInt8) (t : List UInt8) : ∀ (l : List UInt8), (∀ b ∈ l, b ≠ x) → index (l ++ (x :: r) ++ t) (x :: r) = l.length
  | [], _ => by
    have hp : (x :: r).isPrefixOf ([] ++ (x :: r) ++ t) = true := by
      rw [List.isPrefixOf_iff_prefix]; simp
    show index (x :: (r ++ t)) (x :: r) = 0
    have hp' : (x :: r).isPrefixOf (x :: (r ++ t)) = true := by simp
    rw [index, hp']; rfl
  | b :: l, h => by
    have hb : b ≠ x := h b List.mem_cons_self
    have ih := index_first x r t l fun c hc => h c (List.mem_cons_of_mem _ hc)
    have hp : (x :: r).isPrefixOf (b :: (l ++ (x :: r) ++ t)) = false := by
      simp only [List.isPrefixOf]
      have : (x == b) = false := by rw [beq_eq_false_iff_ne]; exact fun e => hb e.symm
      rw [this]; rfl
    show index (b :: (l ++ (x :: r) ++ t)) (x :: r) = _
    rw [index, hp, ih]
    have hn : ((l.length : Int) == -1) = false := by rw [beq_eq_false_iff_ne]; omega
    rw [hn]; simp
theorem cut_clean (x : UInt8) (r l : List UInt8) (h : ∀ b ∈ l, b ≠ x) : cut l (x :: r) = (l, [], false) := by
  unfold cut
  rw [index_clean x r l h, if_neg (by decide)]
theorem cut_first (x : UInt8) (r l t : List UInt8) (h : ∀ b ∈ l, b ≠ x) : cut (l ++ (x :: r) ++ t) (x :: r) = (l, t, true) := by
  unfold cut
  rw [index_first x r t l h, if_pos (by omega), Int.toNat_natCast]
  congr 1
  · rw [List.append_assoc, List.take_left]
  · congr 1
    rw [show l.length + (x :: r).length = (l ++ (x :: r)).length by simp, List.drop_left]

theorem idx_name {op : Int} (h0 : 0 ≤ op) (h1 : op < 18) : idxName (nameOf op) = op := by
  have key : ∀ n : Nat, n < 18 → idxName (nameOf (n : Int)) = n := by decide +kernel
  obtain ⟨n, rfl⟩ : ∃ n : Nat, op = n := ⟨op.toNat, by omega⟩
  exact key n (by omega)

theorem atoiVal_itoa {n : Int} (h : -524288 ≤ n ∧ n < 524288) : atoiVal (itoa n) = n := by
  have h7 := Tx.itoa_len6 n h
  unfold atoiVal
  rw [atoiAll_short _ (by omega), Tx.atoi_itoa]
  rfl
theorem atoiVal_nil : atoiVal [] = 0 := rfl

theorem right_parts {i : Ins} (h : rightI i = true) : 0 ≤ i.1 ∧ i.1 < 18 ∧ lo i.1 ≤ i.2 ∧ i.2 ≤ hi i.1 := by
  unfold rightI at h
  simp only [Bool.and_eq_true, decide_eq_true_eq] at h
  exact ⟨h.1.1.1, h.1.1.2, h.1.2, h.2⟩
theorem right_arg {i : Ins} (h : rightI i = true) : -524288 ≤ i.2 ∧ i.2 < 524288 := by
  obtain ⟨_, _, h2, h3⟩ := right_parts h
  unfold lo at h2; unfold hi at h3
  split at h2 <;> split at h3 <;> (try split at h2) <;> (try split at h3) <;> (try split at h3) <;> omega
theorem right_zero {i : Ins} (h : rightI i = true) (hn : hasA i.1 = false) : i.2 = 0 := by
  obtain ⟨_, _, h2, h3⟩ := right_parts h
  unfold hasA at hn
  simp only [Bool.or_eq_false_iff, beq_eq_false_iff_ne] at hn
  obtain ⟨n1, n2, n4, n5, n15, n16⟩ := hn
  unfold lo at h2; unfold hi at h3
  rw [if_neg (by omega), if_neg (by omega)] at h2
  rw [if_neg (by omega), if_neg (by omega), if_neg (by omega)] at h3
  omega

theorem insOf_word {i : Ins} (h : rightI i = true) : insOf (word i) = i := by
  obtain ⟨h0, h1, _, _⟩ := right_parts h
  have hc : ∀ b ∈ nameOf i.1, b ≠ 32 := fun b hb => (names_clean _ (nameOf_mem h0 h1) b hb).2
  unfold insOf word
  cases ha : hasA i.1 with
  | true =>
    have : cut (nameOf i.1 ++ (if true = true then 32 :: itoa i.2 else [])) [32] = (nameOf i.1, itoa i.2, true) := by
      rw [if_pos rfl]
      have := cut_first 32 [] (nameOf i.1) (itoa i.2) hc
      rw [List.append_assoc] at this
      exact this
    rw [this, idx_name h0 h1, atoiVal_itoa (right_arg h)]
  | false =>
    have : cut (nameOf i.1 ++ (if false = true then 32 :: itoa i.2 else [])) [32] = (nameOf i.1, [], false) := by
      rw [if_neg (by decide), List.append_nil]
      exact cut_clean 32 [] _ hc
    rw [this, idx_name h0 h1]
    show (i.1, atoiVal []) = i
    rw [atoiVal_nil, ← right_zero h ha]

theorem textI_cons (i : Ins) (l : List Ins) : textI (i :: l) = if l = [] then word i else word i ++ sep ++ textI l := by
  unfold textI join
  cases l with
  | nil => simp
  | cons j l => rw [if_neg (by simp)]; simp [List.intercalate]
theorem readI_text : ∀ (l : List Ins) (n : Nat), l ≠ [] → l.length ≤ n → (∀ i ∈ l, rightI i = true) → readI n (textI l) = l
  | [], _, h, _, _ => absurd rfl h
  | i :: l, 0, _, h, _ => by simp at h
  | i :: l, n + 1, _, hn, hr => by
    have hri := hr i List.mem_cons_self
    obtain ⟨h0, h1, _, _⟩ := right_parts hri
    have hcl := word_clean h0 h1
    rw [textI_cons]
    by_cases hl : l = []
    · subst hl
      rw [if_pos rfl, readI]
      have : cut (word i) sep = (word i, [], false) := cut_clean 59 [32] _ hcl
      rw [this]
      simp [insOf_word hri]
    · rw [if_neg hl, readI]
      have : cut (word i ++ sep ++ textI l) sep = (word i, textI l, true) := cut_first 59 [32] _ _ hcl
      rw [this]
      simp only [if_true]
      rw [insOf_word hri, readI_text l n hl (by simpa using hn) fun j hj => hr j (List.mem_cons_of_mem _ hj)]
theorem word_ne {i : Ins} (h0 : 0 ≤ i.1) (h1 : i.1 < 18) : word i ≠ [] := by
  have key : ∀ n ∈ namesL, n ≠ [] := by decide
  intro e
  unfold word at e
  exact key _ (nameOf_mem h0 h1) (List.append_eq_nil_iff.1 e).1
theorem textI_ne {l : List Ins} (hl : l ≠ []) (hr : ∀ i ∈ l, rightI i = true) : textI l ≠ [] := by
  cases l with
  | nil => exact absurd rfl hl
  | cons i l =>
    obtain ⟨h0, h1, _, _⟩ := right_parts (hr i List.mem_cons_self)
    rw [textI_cons]
    split
    · exact word_ne h0 h1
    · intro e
      exact word_ne h0 h1 (List.append_eq_nil_iff.1 (List.append_eq_nil_iff.1 e).1).1
theorem fits_parts {l : List Ins} (h : fitsI l = true) : l.length ≤ 24 ∧ ∀ i ∈ l, rightI i = true := by
  unfold fitsI at h
  simp only [Bool.and_eq_true, decide_eq_true_eq, List.all_eq_true] at h
  exact h
theorem parse_text {l : List Ins} (h : fitsI l = true) : parseI (textI l) = (l, 0) := by
  obtain ⟨h1, h2⟩ := fits_parts h
  have hi : instrs (textI l) = l := by
    unfold instrs
    by_cases hl : l = []
    · subst hl; rfl
    · rw [if_neg (textI_ne hl h2)]
      exact readI_text l 25 hl (by omega) h2
  unfold parseI
  rw [hi]
  unfold textOut
  rw [if_pos h, if_pos rfl]
theorem word_len {i : Ins} (h : rightI i = true) : (word i).length ≤ 14 := by
  obtain ⟨h0, h1, _, _⟩ := right_parts h
  have hn : (nameOf i.1).length ≤ 5 := by
    have key : ∀ n ∈ namesL, n.length ≤ 5 := by decide
    exact key _ (nameOf_mem h0 h1)
  have hi := Tx.itoa_len6 i.2 (right_arg h)
  unfold word
  rw [List.length_append]
  split
  · simp only [List.length_cons]; omega
  · simp only [List.length_nil]; omega
theorem textI_len : ∀ (l : List Ins), (∀ i ∈ l, rightI i = true) → (textI l).length ≤ l.length * 16
  | [], _ => by simp [textI, join, List.intercalate]
  | i :: l, h => by
    have h1 := word_len (h i List.mem_cons_self)
    have h2 := textI_len l fun j hj => h j (List.mem_cons_of_mem _ hj)
    rw [textI_cons]
    have h3 : sep.length = 2 := rfl
    split
    · simp only [List.length_cons]; omega
    · simp only [List.length_append, List.length_cons, h3]; omega
theorem textI_snoc (l : List Ins) (i : Ins) : textI (l ++ [i]) = if l = [] then word i else textI l ++ sep ++ word i := by
  induction l with
  | nil => rw [if_pos rfl, List.nil_append, textI_cons, if_pos rfl]
  | cons j l ih =>
    rw [if_neg (List.cons_ne_nil j l), List.cons_append, textI_cons, if_neg (by simp), ih]
    by_cases hl : l = []
    · subst hl
      rw [if_pos rfl, textI_cons, if_pos rfl]
    · rw [if_neg hl, textI_cons j l, if_neg hl]
      simp only [List.append_assoc]
end Co
