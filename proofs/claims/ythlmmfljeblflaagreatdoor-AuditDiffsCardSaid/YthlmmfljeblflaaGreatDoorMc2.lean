import Derived.WalkKit
import Derived.Lib.SlicesCompact
/-! Plain laws of values: pairs of whole numbers, taken into the range. No program in sight. -/
namespace Ga
set_option linter.unusedSimpArgs false
set_option linter.unusedVariables false

/-- into the range -/
def into (n : Int) : Int :=
  if n.tmod 1048576 < 0 then (if n.tmod 1048576 + 1048576 ≥ 524288 then n.tmod 1048576 else n.tmod 1048576 + 1048576)
  else if n.tmod 1048576 ≥ 524288 then n.tmod 1048576 - 1048576 else n.tmod 1048576

theorem tmod_lt (n : Int) : n.tmod 1048576 < 1048576 := Int.tmod_lt_of_pos _ (by decide)
theorem lt_tmod (n : Int) : -1048576 < n.tmod 1048576 := Int.lt_tmod_of_pos _ (by decide)

theorem into_range (n : Int) : -524288 ≤ into n ∧ into n < 524288 := by
  have h1 := tmod_lt n
  have h2 := lt_tmod n
  unfold into
  split <;> split <;> omega

theorem into_eq (n : Int) : into n = (n + 524288) % 1048576 - 524288 := by
  have h1 := tmod_lt n
  have h2 := lt_tmod n
  have h3 := Int.mul_tdiv_add_tmod n 1048576
  unfold into
  split <;> split <;> omega

theorem into_id {n : Int} (h : -524288 ≤ n ∧ n < 524288) : into n = n := by rw [into_eq]; omega
theorem into_mod (n : Int) : into n % 1048576 = n % 1048576 := by rw [into_eq]; omega
/-- the other text's way -/
theorem into_ref (n : Int) : (if (if n.tmod 1048576 < -524288 then n.tmod 1048576 + 1048576 else n.tmod 1048576) ≥ 524288 then (if n.tmod 1048576 < -524288 then n.tmod 1048576 + 1048576 else n.tmod 1048576) - 1048576 else (if n.tmod 1048576 < -524288 then n.tmod 1048576 + 1048576 else n.tmod 1048576)) = into n := by
  have h1 := tmod_lt n
  have h2 := lt_tmod n
  have h3 := Int.mul_tdiv_add_tmod n 1048576
  rw [into_eq]
  split <;> split <;> omega

abbrev Val := Int × Int
def ofV (a : Val) : Val := (into a.1, into a.2)
def rightV (a : Val) : Bool := decide (a.1 = into a.1) && decide (a.2 = into a.2)
def addV (a b : Val) : Val := (into (into a.1 + into b.1), into (into a.2 + into b.2))
def subV (a b : Val) : Val := (into (into a.1 - into b.1), into (into a.2 - into b.2))
def mulV (a b : Val) : Val := (into (into a.1 * into b.1 - into a.2 * into b.2), into (into a.1 * into b.2 + into a.2 * into b.1))
def conjV (a : Val) : Val := (into (into a.1), into (-into a.2))
def turnV (a : Val) : Val := (into (into a.1 * 0 - into a.2 * 1), into (into a.1 * 1 + into a.2 * 0))
def zeroV (a : Val) : Bool := decide (into a.1 = 0) && decide (into a.2 = 0)
def lessV (a b : Val) : Bool := decide (into a.1 < into b.1)
/-- equal modulo 2^20 in both parts -/
def Eqv (a b : Val) : Prop := a.1 % 1048576 = b.1 % 1048576 ∧ a.2 % 1048576 = b.2 % 1048576
theorem Eqv.of (a : Val) : Eqv (ofV a) a := ⟨into_mod _, into_mod _⟩

end Ga

/-! Numbers as four bytes: plain laws. -/
namespace Oc
set_option linter.unusedSimpArgs false
set_option linter.unusedVariables false

/-- a number's bytes -/
def be (n : Int) : List UInt8 := [UInt8.ofNat (n % 4294967296 / 16777216).toNat, UInt8.ofNat (n % 4294967296 / 65536 % 256).toNat, UInt8.ofNat (n % 4294967296 / 256 % 256).toNat, UInt8.ofNat (n % 4294967296 % 256).toNat]
def bes (l : List Int) : List UInt8 := l.flatMap be
/-- the number with which bytes begin -/
def raw : List UInt8 → Int
  | a :: b :: c :: d :: _ => ((a.toNat * 256 + b.toNat) * 256 + c.toNat) * 256 + d.toNat
  | _ => 0
def num (l : List UInt8) : Int := if 2147483648 ≤ raw l then raw l - 4294967296 else raw l

theorem be_len (n : Int) : (be n).length = 4 := rfl
theorem bes_len : ∀ (l : List Int), (bes l).length = l.length * 4
  | [] => rfl
  | n :: l => by unfold bes; rw [List.flatMap_cons, List.length_append, be_len]; have := bes_len l; unfold bes at this; rw [this]; simp; omega
/-- as the loop of four rounds reckons it -/
def part (l : List UInt8) (k : Nat) : Int := (l.take k).foldl (fun u c => u * 256 + (c.toNat : Int)) 0
end Oc

/-! AuditDiffs: ids put in place one by one are the sorted ids without what stands twice. -/
namespace Go.Proofs.YthlmmfljeblflaaGreatDoor
set_option linter.unusedSimpArgs false
set_option linter.unusedVariables false

def insR : List Int → Int → List Int
  | [], x => [x]
  | y :: l, x => if y < x then y :: insR l x else if y = x then y :: l else x :: y :: l
theorem insR_has : ∀ (l : List Int) (x : Int) (k : Nat), (∀ j (hj : j < l.length), j < k → l[j] < x) → l[k]? = some x → insR l x = l
  | [], x, k, _, h => by simp at h
  | y :: l, x, 0, _, h => by
    simp at h
    subst h
    unfold insR
    rw [if_neg (by omega), if_pos rfl]
  | y :: l, x, k + 1, h1, h => by
    have h0 : y < x := h1 0 (by simp) (by omega)
    unfold insR
    rw [if_pos h0, insR_has l x k (fun j hj hjk => h1 (j + 1) (by simpa using hj) (by omega)) (by simpa using h)]
theorem insR_put : ∀ (l : List Int) (x : Int) (k : Nat), k ≤ l.length → (∀ j (hj : j < l.length), j < k → l[j] < x) → (∀ hk : k < l.length, x < l[k]) → insR l x = l.take k ++ x :: l.drop k
  | [], x, k, hk, _, _ => by
    have : k = 0 := by simpa using hk
    subst this
    rfl
  | y :: l, x, 0, _, _, h => by
    have h0 : x < y := h (by simp)
    unfold insR
    rw [if_neg (by omega), if_neg (by omega)]
    rfl
  | y :: l, x, k + 1, hk, h1, h2 => by
    have h0 : y < x := h1 0 (by simp) (by omega)
    unfold insR
    rw [if_pos h0, insR_put l x k (by simpa using hk) (fun j hj hjk => h1 (j + 1) (by simpa using hj) (by omega)) (fun hk => h2 (by simpa using hk))]
    rfl
theorem insR_mem : ∀ (l : List Int) (x y : Int), y ∈ insR l x ↔ y = x ∨ y ∈ l
  | [], x, y => by simp [insR]
  | z :: l, x, y => by
    unfold insR
    split
    · rw [List.mem_cons, insR_mem l x y, List.mem_cons]
      constructor
      · rintro (h | h | h) <;> simp [h]
      · rintro (h | h | h) <;> simp [h]
    · split
      · rename_i h
        subst h
        simp
      · simp
theorem insR_sorted : ∀ (l : List Int) (x : Int), l.Pairwise (· < ·) → (insR l x).Pairwise (· < ·)
  | [], x, _ => by simp [insR]
  | z :: l, x, h => by
    obtain ⟨h1, h2⟩ := List.pairwise_cons.1 h
    unfold insR
    split
    · refine List.pairwise_cons.2 ⟨fun a ha => ?_, insR_sorted l x h2⟩
      rcases (insR_mem l x a).1 ha with rfl | ha
      · assumption
      · exact h1 a ha
    · split
      · exact h
      · refine List.pairwise_cons.2 ⟨fun a ha => ?_, h⟩
        rcases List.mem_cons.1 ha with rfl | ha
        · omega
        · have := h1 a ha
          omega
theorem insR_len (l : List Int) (x : Int) : (insR l x).length ≤ l.length + 1 := by
  induction l with
  | nil => simp [insR]
  | cons y l ih =>
    unfold insR
    split
    · simp; omega
    · split <;> simp
def insL (l : List Int) : List Int := l.foldl insR []
theorem insL_succ {l : List Int} {k : Nat} (hk : k < l.length) : insL (l.take (k + 1)) = insR (insL (l.take k)) l[k] := by
  unfold insL
  rw [List.take_succ_eq_append_getElem hk, List.foldl_append]
  rfl
theorem insFold : ∀ (l r : List Int), r.Pairwise (· < ·) → (l.foldl insR r).Pairwise (· < ·) ∧ (∀ y, y ∈ l.foldl insR r ↔ y ∈ l ∨ y ∈ r) ∧ (l.foldl insR r).length ≤ l.length + r.length
  | [], r, h => ⟨h, by simp, by simp⟩
  | x :: l, r, h => by
    obtain ⟨h1, h2, h3⟩ := insFold l (insR r x) (insR_sorted r x h)
    have h4 := insR_len r x
    refine ⟨h1, fun y => ?_, by simp; omega⟩
    rw [List.foldl_cons, h2, insR_mem, List.mem_cons]
    constructor
    · rintro (h | h | h) <;> simp [h]
    · rintro ((h | h) | h) <;> simp [h]
theorem insL_len (l : List Int) : (insL l).length ≤ l.length := by
  have := (insFold l [] List.Pairwise.nil).2.2
  simpa [insL] using this
theorem sorted_one : ∀ (l1 l2 : List Int), l1.Pairwise (· < ·) → l2.Pairwise (· < ·) → (∀ y, y ∈ l1 ↔ y ∈ l2) → l1 = l2
  | [], [], _, _, _ => rfl
  | [], y :: l, _, _, h => absurd ((h y).2 (by simp)) (by simp)
  | y :: l, [], _, _, h => absurd ((h y).1 (by simp)) (by simp)
  | x :: l1, y :: l2, s1, s2, h => by
    obtain ⟨a1, a2⟩ := List.pairwise_cons.1 s1
    obtain ⟨b1, b2⟩ := List.pairwise_cons.1 s2
    have e : x = y := by
      rcases List.mem_cons.1 ((h x).1 (by simp)) with e | e
      · exact e
      · rcases List.mem_cons.1 ((h y).2 (by simp)) with e2 | e2
        · exact e2.symm
        · have := a1 y e2
          have := b1 x e
          omega
    subst e
    rw [sorted_one l1 l2 a2 b2 fun y => ?_]
    have := h y
    simp only [List.mem_cons] at this
    constructor
    · intro hy
      rcases this.1 (.inr hy) with e | e
      · subst e
        exact absurd (a1 _ hy) (by omega)
      · exact e
    · intro hy
      rcases this.2 (.inr hy) with e | e
      · subst e
        exact absurd (b1 _ hy) (by omega)
      · exact e
theorem compact_has (zs : List Int) (x : Int) : x ∈ Lib.compact zs ↔ x ∈ zs := by
  constructor
  · intro hx
    unfold Lib.compact Lib.compactUpTo at hx
    obtain ⟨j, hj, rfl⟩ := List.mem_map.1 hx
    have hl : j < zs.length := List.mem_range.1 (List.mem_filter.1 hj).1
    have e : zs.toArray[j]! = zs[j] := by simp [getElem!_pos, hl]
    rw [e]
    exact List.getElem_mem hl
  · intro hx
    obtain ⟨j, hj, rfl⟩ := List.mem_iff_getElem.1 hx
    clear hx
    induction j with
    | zero =>
      refine List.mem_map.2 ⟨0, List.mem_filter.2 ⟨List.mem_range.2 hj, Lib.keeps_lt_one _ 0 (by omega)⟩, ?_⟩
      simp [getElem!_pos, hj]
    | succ j ih =>
      have e1 : zs.toArray[j + 1]! = zs[j + 1] := by simp [getElem!_pos, hj]
      have e0 : zs.toArray[j]! = zs[j] := by simp [getElem!_pos, (by omega : j < zs.length)]
      by_cases he : zs[j + 1] = zs[j]
      · rw [he]
        exact ih (by omega)
      · refine List.mem_map.2 ⟨j + 1, List.mem_filter.2 ⟨List.mem_range.2 hj, Lib.keeps_pos ?_⟩, e1⟩
        rw [e1, show j + 1 - 1 = j from rfl, e0]
        exact he
theorem compact_lt (zs : List Int) (hs : zs.Pairwise (· ≤ ·)) : (Lib.compact zs).Pairwise (· < ·) := by
  unfold Lib.compact Lib.compactUpTo
  rw [List.pairwise_map]
  refine List.Pairwise.imp_of_mem (R := (· < ·)) (fun {i j} hi hj hij => ?_) (List.Pairwise.filter _ List.pairwise_lt_range)
  obtain ⟨hi, -⟩ := List.mem_filter.1 hi
  obtain ⟨hj, hk⟩ := List.mem_filter.1 hj
  have hi := List.mem_range.1 hi
  have hj := List.mem_range.1 hj
  have e (a : Nat) (ha : a < zs.length) : zs.toArray[a]! = zs[a] := by simp [getElem!_pos, ha]
  unfold Lib.keeps at hk
  have hk := of_decide_eq_true hk
  rw [e j hj, e (j - 1) (by omega)] at hk
  rw [e i hi, e j hj]
  have hle (a b : Nat) (ha : a < zs.length) (hb : b < zs.length) (hab : a ≤ b) : zs[a] ≤ zs[b] := by
    rcases Nat.lt_or_ge a b with h | h
    · exact List.pairwise_iff_getElem.1 hs a b ha hb h
    · obtain rfl : a = b := by omega
      exact Int.le_refl _
  have h1 := hle i (j - 1) hi (by omega) (by omega)
  have h2 := hle (j - 1) j (by omega) hj (by omega)
  rcases hk with hk | hk
  · omega
  · omega
/-- put in place one by one, or sorted and compacted: the same -/
theorem insL_eq {l s : List Int} (hp : s.Perm l) (hs : s.Pairwise (· ≤ ·)) : insL l = Lib.compact s := by
  obtain ⟨h1, h2, -⟩ := insFold l [] List.Pairwise.nil
  refine sorted_one _ _ h1 (compact_lt s hs) fun y => ?_
  rw [compact_has, hp.mem_iff]
  have := h2 y
  simpa [insL] using this
end Go.Proofs.YthlmmfljeblflaaGreatDoor
