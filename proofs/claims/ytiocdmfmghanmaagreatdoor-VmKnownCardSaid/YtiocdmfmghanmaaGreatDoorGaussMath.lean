/-! Plain laws of values: pairs of whole numbers, taken into the range. No program in sight. -/
namespace Ga
set_option linter.unusedSimpArgs false
set_option linter.unusedVariables false

/-- into the range -/
def into (n : Int) : Int :=
  if n.tmod 1048576 < 0 then (if n.tmod 1048576 + 1048576 ≥ 524288 then n.tmod 1048576 else n.tmod 1048576 + 1048576)
  else if n.tmod 1048576 ≥ 524288 then n.tmod 1048576 - 1048576 else n.tmod 1048576

theorem tmod_lt (n : Int) : n.tmod 1048576 < 1048576 := Int.tmod_lt_of_pos _ (by decide)
theorem lt_tmod (n : Int) : -1048576 < n.tmod 1048576 := Int.lt_tmod_of_pos _ (by decide)

theorem into_range (n : Int) : -524288 ≤ into n ∧ into n < 524288 := by
  have h1 := tmod_lt n
  have h2 := lt_tmod n
  unfold into
  split <;> split <;> omega

theorem into_eq (n : Int) : into n = (n + 524288) % 1048576 - 524288 := by
  have h1 := tmod_lt n
  have h2 := lt_tmod n
  have h3 := Int.mul_tdiv_add_tmod n 1048576
  unfold into
  split <;> split <;> omega

theorem into_id {n : Int} (h : -524288 ≤ n ∧ n < 524288) : into n = n := by rw [into_eq]; omega
theorem into_into (n : Int) : into (into n) = into n := into_id (into_range n)
theorem into_mod (n : Int) : into n % 1048576 = n % 1048576 := by rw [into_eq]; omega
theorem into_congr {a b : Int} (h : a % 1048576 = b % 1048576) : into a = into b := by rw [into_eq, into_eq]; omega

/-- the other text's way -/
theorem into_ref (n : Int) : (if (if n.tmod 1048576 < -524288 then n.tmod 1048576 + 1048576 else n.tmod 1048576) ≥ 524288 then (if n.tmod 1048576 < -524288 then n.tmod 1048576 + 1048576 else n.tmod 1048576) - 1048576 else (if n.tmod 1048576 < -524288 then n.tmod 1048576 + 1048576 else n.tmod 1048576)) = into n := by
  have h1 := tmod_lt n
  have h2 := lt_tmod n
  have h3 := Int.mul_tdiv_add_tmod n 1048576
  rw [into_eq]
  split <;> split <;> omega

abbrev Val := Int × Int
def ofV (a : Val) : Val := (into a.1, into a.2)
def rightV (a : Val) : Bool := decide (a.1 = into a.1) && decide (a.2 = into a.2)
def addV (a b : Val) : Val := (into (into a.1 + into b.1), into (into a.2 + into b.2))
def subV (a b : Val) : Val := (into (into a.1 - into b.1), into (into a.2 - into b.2))
def mulV (a b : Val) : Val := (into (into a.1 * into b.1 - into a.2 * into b.2), into (into a.1 * into b.2 + into a.2 * into b.1))
def conjV (a : Val) : Val := (into (into a.1), into (-into a.2))
def turnV (a : Val) : Val := (into (into a.1 * 0 - into a.2 * 1), into (into a.1 * 1 + into a.2 * 0))
def zeroV (a : Val) : Bool := decide (into a.1 = 0) && decide (into a.2 = 0)
def lessV (a b : Val) : Bool := decide (into a.1 < into b.1)
def sumL (l : List Val) : Val := l.foldl addV (0, 0)
def prodL (l : List Val) : Val := l.foldl mulV (1, 0)

theorem ofV_eq (a : Val) : ofV a = (into a.1, into a.2) := rfl
theorem rightV_iff (a : Val) : rightV a = true ↔ ofV a = a := by
  obtain ⟨x, y⟩ := a
  simp only [rightV, ofV, Bool.and_eq_true, decide_eq_true_eq, Prod.mk.injEq]
  constructor <;> rintro ⟨h1, h2⟩ <;> exact ⟨h1.symm, h2.symm⟩

/-- equal modulo 2^20 in both parts -/
def Eqv (a b : Val) : Prop := a.1 % 1048576 = b.1 % 1048576 ∧ a.2 % 1048576 = b.2 % 1048576
theorem ofV_congr {a b : Val} (h : Eqv a b) : ofV a = ofV b := by
  unfold ofV; rw [into_congr h.1, into_congr h.2]

theorem mod_add {a a' b b' : Int} (h : a % 1048576 = a' % 1048576) (k : b % 1048576 = b' % 1048576) : (a + b) % 1048576 = (a' + b') % 1048576 := by omega
theorem mod_sub {a a' b b' : Int} (h : a % 1048576 = a' % 1048576) (k : b % 1048576 = b' % 1048576) : (a - b) % 1048576 = (a' - b') % 1048576 := by omega
theorem mod_mul {a a' b b' : Int} (h : a % 1048576 = a' % 1048576) (k : b % 1048576 = b' % 1048576) : (a * b) % 1048576 = (a' * b') % 1048576 := by
  rw [Int.mul_emod, h, k, ← Int.mul_emod]

/-- the exact reckoning -/
def addX (a b : Val) : Val := (a.1 + b.1, a.2 + b.2)
def subX (a b : Val) : Val := (a.1 - b.1, a.2 - b.2)
def mulX (a b : Val) : Val := (a.1 * b.1 - a.2 * b.2, a.1 * b.2 + a.2 * b.1)

theorem ofV_mod1 (a : Val) : (ofV a).1 % 1048576 = a.1 % 1048576 := into_mod _
theorem ofV_mod2 (a : Val) : (ofV a).2 % 1048576 = a.2 % 1048576 := into_mod _

theorem addV_of (a b a' b' : Val) (h : Eqv a a') (k : Eqv b b') : addV a b = ofV (addX a' b') := by
  unfold addV ofV addX
  rw [into_congr (mod_add ((into_mod a.1).trans h.1) ((into_mod b.1).trans k.1)), into_congr (mod_add ((into_mod a.2).trans h.2) ((into_mod b.2).trans k.2))]
theorem subV_of (a b a' b' : Val) (h : Eqv a a') (k : Eqv b b') : subV a b = ofV (subX a' b') := by
  unfold subV ofV subX
  rw [into_congr (mod_sub ((into_mod a.1).trans h.1) ((into_mod b.1).trans k.1)), into_congr (mod_sub ((into_mod a.2).trans h.2) ((into_mod b.2).trans k.2))]
theorem mulV_of (a b a' b' : Val) (h : Eqv a a') (k : Eqv b b') : mulV a b = ofV (mulX a' b') := by
  unfold mulV ofV mulX
  have h1 := (into_mod a.1).trans h.1
  have h2 := (into_mod a.2).trans h.2
  have k1 := (into_mod b.1).trans k.1
  have k2 := (into_mod b.2).trans k.2
  rw [into_congr (mod_sub (mod_mul h1 k1) (mod_mul h2 k2)), into_congr (mod_add (mod_mul h1 k2) (mod_mul h2 k1))]
theorem Eqv.rfl' (a : Val) : Eqv a a := ⟨rfl, rfl⟩
theorem Eqv.of (a : Val) : Eqv (ofV a) a := ⟨into_mod _, into_mod _⟩

theorem sumL_two (a b : Val) : sumL [a, b] = ofV (addX a b) := by
  have h0 : addV (0, 0) a = ofV a := by rw [addV_of _ _ _ _ (Eqv.rfl' _) (Eqv.rfl' _)]; simp [addX]
  show addV (addV (0, 0) a) b = _
  rw [h0, addV_of _ _ _ _ (Eqv.of a) (Eqv.rfl' b)]
theorem mul_one_left (a : Val) : mulV (1, 0) a = ofV a := by rw [mulV_of _ _ _ _ (Eqv.rfl' _) (Eqv.rfl' _)]; simp [mulX]
theorem prodL_two (a b : Val) : prodL [a, b] = ofV (mulX a b) := by
  show mulV (mulV (1, 0) a) b = _
  rw [mul_one_left, mulV_of _ _ _ _ (Eqv.of a) (Eqv.rfl' b)]
theorem prodL_three (a b c : Val) : prodL [a, b, c] = ofV (mulX (mulX a b) c) := by
  show mulV (prodL [a, b]) c = _
  rw [prodL_two, mulV_of _ _ _ _ (Eqv.of _) (Eqv.rfl' c)]

theorem mulX_comm (a b : Val) : mulX a b = mulX b a := by
  simp only [mulX, Prod.mk.injEq]
  exact ⟨by rw [Int.mul_comm a.1, Int.mul_comm a.2], by rw [Int.mul_comm a.1, Int.mul_comm a.2, Int.add_comm]⟩
theorem mulX_assoc (a b c : Val) : mulX (mulX a b) c = mulX a (mulX b c) := by
  simp only [mulX, Prod.mk.injEq, Int.sub_mul, Int.mul_sub, Int.add_mul, Int.mul_add, Int.mul_assoc]
  constructor <;> omega
theorem mulX_add (a b c : Val) : mulX a (addX b c) = addX (mulX a b) (mulX a c) := by
  simp only [mulX, addX, Prod.mk.injEq, Int.mul_add]
  constructor <;> omega

theorem law_dist (a b c : Val) : prodL [a, sumL [b, c]] = sumL [prodL [a, b], prodL [a, c]] := by
  rw [sumL_two, prodL_two, prodL_two, prodL_two, sumL_two]
  have h1 : Eqv (mulX a (ofV (addX b c))) (mulX a (addX b c)) :=
    ⟨mod_sub (mod_mul rfl (into_mod _)) (mod_mul rfl (into_mod _)), mod_add (mod_mul rfl (into_mod _)) (mod_mul rfl (into_mod _))⟩
  have h2 : Eqv (addX (ofV (mulX a b)) (ofV (mulX a c))) (addX (mulX a b) (mulX a c)) :=
    ⟨mod_add (into_mod _) (into_mod _), mod_add (into_mod _) (into_mod _)⟩
  rw [ofV_congr h1, ofV_congr h2, mulX_add]
theorem law_rev (a b c : Val) : prodL [a, b, c] = prodL [c, b, a] := by
  rw [prodL_three, prodL_three, mulX_comm (mulX c b) a, mulX_comm c b, ← mulX_assoc]
theorem law_comm (a b : Val) : prodL [a, b] = prodL [b, a] := by
  rw [prodL_two, prodL_two, mulX_comm]
theorem law_back (a b : Val) : sumL [subV a b, b] = ofV a := by
  rw [sumL_two, subV_of _ _ _ _ (Eqv.rfl' a) (Eqv.rfl' b)]
  have h : Eqv (addX (ofV (subX a b)) b) a := by
    refine ⟨(mod_add (into_mod _) rfl).trans ?_, (mod_add (into_mod _) rfl).trans ?_⟩ <;> simp only [subX] <;> congr 1 <;> omega
  exact ofV_congr h
theorem turnV_eq (a : Val) : turnV a = ofV (-a.2, a.1) := by
  unfold turnV ofV
  have h1 : into (into a.1 * 0 - into a.2 * 1) = into (-a.2) := by
    apply into_congr; have := into_mod a.2; omega
  have h2 : into (into a.1 * 1 + into a.2 * 0) = into a.1 := by
    apply into_congr; have := into_mod a.1; omega
  rw [h1, h2]
theorem turn2 (a : Val) : turnV (turnV a) = ofV (-a.1, -a.2) := by
  rw [turnV_eq, turnV_eq]
  apply ofV_congr
  have h1 := into_mod a.1
  have h2 := into_mod (-a.2)
  constructor
  · show (-into a.1) % 1048576 = (-a.1) % 1048576; omega
  · exact h2
theorem law_turn (a : Val) : turnV (turnV (turnV (turnV a))) = ofV a := by
  rw [turn2, turn2]
  apply ofV_congr
  have h1 := into_mod (-a.1)
  have h2 := into_mod (-a.2)
  constructor
  · show (-into (-a.1)) % 1048576 = a.1 % 1048576; omega
  · show (-into (-a.2)) % 1048576 = a.2 % 1048576; omega
theorem law_real (a : Val) : (prodL [a, conjV a]).2 = 0 := by
  rw [prodL_two]
  show into (a.1 * into (-into a.2) + a.2 * into (into a.1)) = 0
  have h : into (a.1 * into (-into a.2) + a.2 * into (into a.1)) = into 0 := by
    apply into_congr
    have h1 : (into (-into a.2)) % 1048576 = (-a.2) % 1048576 := by have := into_mod (-into a.2); have := into_mod a.2; omega
    rw [mod_add (mod_mul (rfl : a.1 % 1048576 = a.1 % 1048576) h1) (mod_mul (rfl : a.2 % 1048576 = a.2 % 1048576) ((into_mod _).trans (into_mod a.1)))]
    congr 1
    rw [Int.mul_neg, Int.mul_comm a.1]; omega
  rw [h]; decide
theorem right_ofV (a : Val) : rightV (ofV a) = true := by
  unfold rightV ofV; simp only [into_into, decide_true, Bool.and_self]
theorem law_right (a b : Val) : rightV (prodL [a, b]) = true := by rw [prodL_two]; exact right_ofV _
end Ga
