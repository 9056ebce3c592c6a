import Derived.Test.YtangapokicnfgaaGreatRows
import Derived.Test.YtangapokicnfgaaGreatMq2
import Derived.WalkKit
import Derived.WalkSpells
import Derived.StillTactics
import Derived.Laws.Pointers
import Derived.Laws.ComplexArith
import Derived.Deep.RegionHeld3
import Derived.Deep.QuietTactic
import Derived.BigQuiet
import Derived.Below
import Derived.Lib.Hide
import Derived.Outline
import Derived.LoopTactic
import Derived.Lib.Atoi
import Derived.Lib.ItoaNum
/-! Plain laws of values: pairs of whole numbers, taken into the range. No program in sight. -/
namespace Ga
set_option linter.unusedSimpArgs false
set_option linter.unusedVariables false

/-- into the range -/
def into (n : Int) : Int :=
  if n.tmod 1048576 < 0 then (if n.tmod 1048576 + 1048576 ≥ 524288 then n.tmod 1048576 else n.tmod 1048576 + 1048576)
  else if n.tmod 1048576 ≥ 524288 then n.tmod 1048576 - 1048576 else n.tmod 1048576

theorem tmod_lt (n : Int) : n.tmod 1048576 < 1048576 := Int.tmod_lt_of_pos _ (by decide)
theorem lt_tmod (n : Int) : -1048576 < n.tmod 1048576 := Int.lt_tmod_of_pos _ (by decide)

theorem into_range (n : Int) : -524288 ≤ into n ∧ into n < 524288 := by
  have h1 := tmod_lt n
  have h2 := lt_tmod n
  unfold into
  split <;> split <;> omega

theorem into_eq (n : Int) : into n = (n + 524288) % 1048576 - 524288 := by
  have h1 := tmod_lt n
  have h2 := lt_tmod n
  have h3 := Int.mul_tdiv_add_tmod n 1048576
  unfold into
  split <;> split <;> omega

theorem into_id {n : Int} (h : -524288 ≤ n ∧ n < 524288) : into n = n := by rw [into_eq]; omega
theorem into_into (n : Int) : into (into n) = into n := into_id (into_range n)
theorem into_mod (n : Int) : into n % 1048576 = n % 1048576 := by rw [into_eq]; omega
theorem into_congr {a b : Int} (h : a % 1048576 = b % 1048576) : into a = into b := by rw [into_eq, into_eq]; omega

/-- the other text's way -/
theorem into_ref (n : Int) : (if (if n.tmod 1048576 < -524288 then n.tmod 1048576 + 1048576 else n.tmod 1048576) ≥ 524288 then (if n.tmod 1048576 < -524288 then n.tmod 1048576 + 1048576 else n.tmod 1048576) - 1048576 else (if n.tmod 1048576 < -524288 then n.tmod 1048576 + 1048576 else n.tmod 1048576)) = into n := by
  have h1 := tmod_lt n
  have h2 := lt_tmod n
  have h3 := Int.mul_tdiv_add_tmod n 1048576
  rw [into_eq]
  split <;> split <;> omega

abbrev Val := Int × Int
def ofV (a : Val) : Val := (into a.1, into a.2)
def rightV (a : Val) : Bool := decide (a.1 = into a.1) && decide (a.2 = into a.2)
def addV (a b : Val) : Val := (into (into a.1 + into b.1), into (into a.2 + into b.2))
def subV (a b : Val) : Val := (into (into a.1 - into b.1), into (into a.2 - into b.2))
def mulV (a b : Val) : Val := (into (into a.1 * into b.1 - into a.2 * into b.2), into (into a.1 * into b.2 + into a.2 * into b.1))
def conjV (a : Val) : Val := (into (into a.1), into (-into a.2))
def turnV (a : Val) : Val := (into (into a.1 * 0 - into a.2 * 1), into (into a.1 * 1 + into a.2 * 0))
def zeroV (a : Val) : Bool := decide (into a.1 = 0) && decide (into a.2 = 0)
def lessV (a b : Val) : Bool := decide (into a.1 < into b.1)
def sumL (l : List Val) : Val := l.foldl addV (0, 0)
def prodL (l : List Val) : Val := l.foldl mulV (1, 0)

theorem ofV_eq (a : Val) : ofV a = (into a.1, into a.2) := rfl
theorem rightV_iff (a : Val) : rightV a = true ↔ ofV a = a := by
  obtain ⟨x, y⟩ := a
  simp only [rightV, ofV, Bool.and_eq_true, decide_eq_true_eq, Prod.mk.injEq]
  constructor <;> rintro ⟨h1, h2⟩ <;> exact ⟨h1.symm, h2.symm⟩

/-- equal modulo 2^20 in both parts -/
def Eqv (a b : Val) : Prop := a.1 % 1048576 = b.1 % 1048576 ∧ a.2 % 1048576 = b.2 % 1048576
theorem ofV_congr {a b : Val} (h : Eqv a b) : ofV a = ofV b := by
  unfold ofV; rw [into_congr h.1, into_congr h.2]

theorem mod_add {a a' b b' : Int} (h : a % 1048576 = a' % 1048576) (k : b % 1048576 = b' % 1048576) : (a + b) % 1048576 = (a' + b') % 1048576 := by omega
theorem mod_sub {a a' b b' : Int} (h : a % 1048576 = a' % 1048576) (k : b % 1048576 = b' % 1048576) : (a - b) % 1048576 = (a' - b') % 1048576 := by omega
theorem mod_mul {a a' b b' : Int} (h : a % 1048576 = a' % 1048576) (k : b % 1048576 = b' % 1048576) : (a * b) % 1048576 = (a' * b') % 1048576 := by
  rw [Int.mul_emod, h, k, ← Int.mul_emod]

/-- the exact reckoning -/
def addX (a b : Val) : Val := (a.1 + b.1, a.2 + b.2)
def subX (a b : Val) : Val := (a.1 - b.1, a.2 - b.2)
def mulX (a b : Val) : Val := (a.1 * b.1 - a.2 * b.2, a.1 * b.2 + a.2 * b.1)

theorem ofV_mod1 (a : Val) : (ofV a).1 % 1048576 = a.1 % 1048576 := into_mod _
theorem ofV_mod2 (a : Val) : (ofV a).2 % 1048576 = a.2 % 1048576 := into_mod _

theorem addV_of (a b a' b' : Val) (h : Eqv a a') (k : Eqv b b') : addV a b = ofV (addX a' b') := by
  unfold addV ofV addX
  rw [into_congr (mod_add ((into_mod a.1).trans h.1) ((into_mod b.1).trans k.1)), into_congr (mod_add ((into_mod a.2).trans h.2) ((into_mod b.2).trans k.2))]
theorem subV_of (a b a' b' : Val) (h : Eqv a a') (k : Eqv b b') : subV a b = ofV (subX a' b') := by
  unfold subV ofV subX
  rw [into_congr (mod_sub ((into_mod a.1).trans h.1) ((into_mod b.1).trans k.1)), into_congr (mod_sub ((into_mod a.2).trans h.2) ((into_mod b.2).trans k.2))]
theorem mulV_of (a b a' b' : Val) (h : Eqv a a') (k : Eqv b b') : mulV a b = ofV (mulX a' b') := by
  unfold mulV ofV mulX
  have h1 := (into_mod a.1).trans h.1
  have h2 := (into_mod a.2).trans h.2
  have k1 := (into_mod b.1).trans k.1
  have k2 := (into_mod b.2).trans k.2
  rw [into_congr (mod_sub (mod_mul h1 k1) (mod_mul h2 k2)), into_congr (mod_add (mod_mul h1 k2) (mod_mul h2 k1))]
theorem Eqv.rfl' (a : Val) : Eqv a a := ⟨rfl, rfl⟩
theorem Eqv.of (a : Val) : Eqv (ofV a) a := ⟨into_mod _, into_mod _⟩

theorem sumL_two (a b : Val) : sumL [a, b] = ofV (addX a b) := by
  have h0 : addV (0, 0) a = ofV a := by rw [addV_of _ _ _ _ (Eqv.rfl' _) (Eqv.rfl' _)]; simp [addX]
  show addV (addV (0, 0) a) b = _
  rw [h0, addV_of _ _ _ _ (Eqv.of a) (Eqv.rfl' b)]
theorem mul_one_left (a : Val) : mulV (1, 0) a = ofV a := by rw [mulV_of _ _ _ _ (Eqv.rfl' _) (Eqv.rfl' _)]; simp [mulX]
theorem prodL_two (a b : Val) : prodL [a, b] = ofV (mulX a b) := by
  show mulV (mulV (1, 0) a) b = _
  rw [mul_one_left, mulV_of _ _ _ _ (Eqv.of a) (Eqv.rfl' b)]
theorem prodL_three (a b c : Val) : prodL [a, b, c] = ofV (mulX (mulX a b) c) := by
  show mulV (prodL [a, b]) c = _
  rw [prodL_two, mulV_of _ _ _ _ (Eqv.of _) (Eqv.rfl' c)]

theorem mulX_comm (a b : Val) : mulX a b = mulX b a := by
  simp only [mulX, Prod.mk.injEq]
  exact ⟨by rw [Int.mul_comm a.1, Int.mul_comm a.2], by rw [Int.mul_comm a.1, Int.mul_comm a.2, Int.add_comm]⟩
theorem mulX_assoc (a b c : Val) : mulX (mulX a b) c = mulX a (mulX b c) := by
  simp only [mulX, Prod.mk.injEq, Int.sub_mul, Int.mul_sub, Int.add_mul, Int.mul_add, Int.mul_assoc]
  constructor <;> omega
theorem mulX_add (a b c : Val) : mulX a (addX b c) = addX (mulX a b) (mulX a c) := by
  simp only [mulX, addX, Prod.mk.injEq, Int.mul_add]
  constructor <;> omega

theorem law_dist (a b c : Val) : prodL [a, sumL [b, c]] = sumL [prodL [a, b], prodL [a, c]] := by
  rw [sumL_two, prodL_two, prodL_two, prodL_two, sumL_two]
  have h1 : Eqv (mulX a (ofV (addX b c))) (mulX a (addX b c)) :=
    ⟨mod_sub (mod_mul rfl (into_mod _)) (mod_mul rfl (into_mod _)), mod_add (mod_mul rfl (into_mod _)) (mod_mul rfl (into_mod _))⟩
  have h2 : Eqv (addX (ofV (mulX a b)) (ofV (mulX a c))) (addX (mulX a b) (mulX a c)) :=
    ⟨mod_add (into_mod _) (into_mod _), mod_add (into_mod _) (into_mod _)⟩
  rw [ofV_congr h1, ofV_congr h2, mulX_add]
theorem law_rev (a b c : Val) : prodL [a, b, c] = prodL [c, b, a] := by
  rw [prodL_three, prodL_three, mulX_comm (mulX c b) a, mulX_comm c b, ← mulX_assoc]
theorem law_comm (a b : Val) : prodL [a, b] = prodL [b, a] := by
  rw [prodL_two, prodL_two, mulX_comm]
theorem law_back (a b : Val) : sumL [subV a b, b] = ofV a := by
  rw [sumL_two, subV_of _ _ _ _ (Eqv.rfl' a) (Eqv.rfl' b)]
  have h : Eqv (addX (ofV (subX a b)) b) a := by
    refine ⟨(mod_add (into_mod _) rfl).trans ?_, (mod_add (into_mod _) rfl).trans ?_⟩ <;> simp only [subX] <;> congr 1 <;> omega
  exact ofV_congr h
theorem turnV_eq (a : Val) : turnV a = ofV (-a.2, a.1) := by
  unfold turnV ofV
  have h1 : into (into a.1 * 0 - into a.2 * 1) = into (-a.2) := by
    apply into_congr; have := into_mod a.2; omega
  have h2 : into (into a.1 * 1 + into a.2 * 0) = into a.1 := by
    apply into_congr; have := into_mod a.1; omega
  rw [h1, h2]
theorem turn2 (a : Val) : turnV (turnV a) = ofV (-a.1, -a.2) := by
  rw [turnV_eq, turnV_eq]
  apply ofV_congr
  have h1 := into_mod a.1
  have h2 := into_mod (-a.2)
  constructor
  · show (-into a.1) % 1048576 = (-a.1) % 1048576; omega
  · exact h2
theorem law_turn (a : Val) : turnV (turnV (turnV (turnV a))) = ofV a := by
  rw [turn2, turn2]
  apply ofV_congr
  have h1 := into_mod (-a.1)
  have h2 := into_mod (-a.2)
  constructor
  · show (-into (-a.1)) % 1048576 = a.1 % 1048576; omega
  · show (-into (-a.2)) % 1048576 = a.2 % 1048576; omega
theorem law_real (a : Val) : (prodL [a, conjV a]).2 = 0 := by
  rw [prodL_two]
  show into (a.1 * into (-into a.2) + a.2 * into (into a.1)) = 0
  have h : into (a.1 * into (-into a.2) + a.2 * into (into a.1)) = into 0 := by
    apply into_congr
    have h1 : (into (-into a.2)) % 1048576 = (-a.2) % 1048576 := by have := into_mod (-into a.2); have := into_mod a.2; omega
    rw [mod_add (mod_mul (rfl : a.1 % 1048576 = a.1 % 1048576) h1) (mod_mul (rfl : a.2 % 1048576 = a.2 % 1048576) ((into_mod _).trans (into_mod a.1)))]
    congr 1
    rw [Int.mul_neg, Int.mul_comm a.1]; omega
  rw [h]; decide
theorem right_ofV (a : Val) : rightV (ofV a) = true := by
  unfold rightV ofV; simp only [into_into, decide_true, Bool.and_self]
theorem law_right (a b : Val) : rightV (prodL [a, b]) = true := by rw [prodL_two]; exact right_ofV _
end Ga

/-! The contracts of package gauss, and of the other text of it. -/
namespace Go.Proofs.YtangapokicnfgaaGreat
set_option linter.unusedSimpArgs false
set_option linter.unusedVariables false
open Go.RowKit Ga

/-- The call returns v; there are new blocks, nothing else has turned. -/
def Gives (v : Value) (w : World) (e : Ending) (w' : World) : Prop := e = .returned v ∧ Grew w w'
abbrev vv (a : Ga.Val) : Value := .agg #[.int .i64 a.1, .int .i64 a.2]
def encVal (a : Ga.Val) : List Value := [.int .i64 a.1, .int .i64 a.2]
abbrev ValsAt (w : World) (v : Value) (l : List Ga.Val) : Prop := RowsAt 2 (fun a : Ga.Val => [.int .i64 a.1, .int .i64 a.2]) w v l

theorem Tryz.mixed : Tryz.prog.follows .mixedOrders = true := by kernel_rfl

theorem field_re (a : Ga.Val) (w : World) : (Instr.field 94 (vv a) 0).run Tryz.prog w = .ok (.int .i64 a.1) w := by kernel_rfl

theorem field_im (a : Ga.Val) (w : World) : (Instr.field 94 (vv a) 1).run Tryz.prog w = .ok (.int .i64 a.2) w := by kernel_rfl

theorem into_any (n : Int) (w : World) : Calls Tryz.prog 135 #[.int .i64 n] w fun e w' => e = .returned (.int .i64 (into n)) ∧ w = w' := by
  have h1 := tmod_lt n
  have h2 := lt_tmod n
  unfold into
  by_cases c1 : n.tmod 1048576 < 0
  · by_cases c2 : n.tmod 1048576 + 1048576 ≥ 524288
    all_goals
      go_enter Tryz.func135, Tryz.ntmps135
      go_wp2
      go_ret
      refine ⟨?_, rfl⟩
      simp [c1, c2]
  · by_cases c2 : n.tmod 1048576 ≥ 524288
    all_goals
      go_enter Tryz.func135, Tryz.ntmps135
      go_wp2
      go_ret
      refine ⟨?_, rfl⟩
      simp [c1, c2]

theorem refInto_any (n : Int) (w : World) : Calls Tryz.prog 134 #[.int .i64 n] w fun e w' => e = .returned (.int .i64 (into n)) ∧ w = w' := by
  have h1 := tmod_lt n
  have h2 := lt_tmod n
  have h3 := into_ref n
  by_cases c1 : n.tmod 1048576 < -524288
  · rw [if_pos c1] at h3
    by_cases c2 : n.tmod 1048576 + 1048576 ≥ 524288
    · omega
    · rw [if_neg c2] at h3
      rw [← h3]
      go_enter Tryz.func134, Tryz.ntmps134
      clear h3
      go_wp2
      go_ret
      exact ⟨rfl, rfl⟩
  · rw [if_neg c1] at h3
    by_cases c2 : n.tmod 1048576 ≥ 524288
    · rw [if_pos c2] at h3
      rw [← h3]
      go_enter Tryz.func134, Tryz.ntmps134
      clear h3
      go_wp2
      go_ret
      exact ⟨rfl, rfl⟩
    · rw [if_neg c2] at h3
      rw [← h3]
      go_enter Tryz.func134, Tryz.ntmps134
      clear h3
      go_wp2
      go_ret
      exact ⟨rfl, rfl⟩

theorem of_any (x y : Int) (w : World) : Calls Tryz.prog 120 #[.int .i64 x, .int .i64 y] w (Gives (.agg #[.int .i64 (into x), .int .i64 (into y)]) w) := by
  go_enter Tryz.func120, Tryz.ntmps120
  go_wp2_with (go_at_call 135; refine (into_any _ _).mono ?_; rintro e w' ⟨rfl, rfl⟩)
  refine bodyPost_ret (v := .agg #[.int .i64 (into x), .int .i64 (into y)]) (by simp [results, Tryz.results120, go_sem]) rfl ⟨rfl, ?_⟩
  exact (Grew.refl _).alloc _

theorem refOf_any (x y : Int) (w : World) : Calls Tryz.prog 119 #[.int .i64 x, .int .i64 y] w (Gives (.agg #[.int .i64 (into x), .int .i64 (into y)]) w) := by
  go_enter Tryz.func119, Tryz.ntmps119
  go_wp2_with (go_at_call 134; refine (refInto_any _ _).mono ?_; rintro e w' ⟨rfl, rfl⟩)
  refine bodyPost_ret (v := .agg #[.int .i64 (into x), .int .i64 (into y)]) (by simp [results, Tryz.results119, go_sem]) rfl ⟨rfl, ?_⟩
  exact (Grew.refl _).alloc _

def fl (z : Int) : Nat := floatOfInt .f64 z
theorem fl_rep (z : Int) (h : z.natAbs < 2 ^ 53) : Fl.Rep (fl z) z := Fl.Rep.ofInt z h




/-- Between -2^19 and 2^19. -/
abbrev In (x : Int) : Prop := -524288 ≤ x ∧ x < 524288
theorem mul_bound (x y : Int) (hx : In x) (hy : In y) : -274877906944 ≤ x * y ∧ x * y ≤ 274877906944 := by
  have h := Int.natAbs_mul x y
  have h3 : x.natAbs * y.natAbs ≤ 524288 * 524288 := Nat.mul_le_mul (by omega) (by omega)
  omega




theorem foldTo_succ {f : Val → Val → Val} {z : Val} (l : List Val) (k : Nat) (h : k < l.length) : (l.take (k + 1)).foldl f z = f ((l.take k).foldl f z) l[k] := by
  rw [List.take_succ_eq_append_getElem h, List.foldl_append]; rfl



end Go.Proofs.YtangapokicnfgaaGreat

/-! Texts of numbers and of values: plain laws. -/
namespace Tx
set_option linter.unusedSimpArgs false
set_option linter.unusedVariables false
open Go.Lib

def isDig (b : UInt8) : Bool := decide (48 ≤ b.toNat) && decide (b.toNat ≤ 57)
def isPM (b : UInt8) : Bool := b == 43 || b == 45

theorem ofNat_toNat (k : Nat) (h : k < 256) : (UInt8.ofNat k).toNat = k := by simp [UInt8.toNat_ofNat']; omega
theorem dig_ofNat (k : Nat) (h : k < 10) : isDig (UInt8.ofNat (48 + k)) = true := by
  unfold isDig; rw [ofNat_toNat _ (by omega)]; simp; omega
theorem dec_dig (n : Nat) : ∀ b ∈ decDigits n, isDig b = true := by
  induction n using Nat.strongRecOn with
  | _ n ih =>
    intro b hb
    rw [decDigits] at hb
    split at hb
    · rw [List.mem_singleton] at hb; subst hb; exact dig_ofNat n (by omega)
    · rcases List.mem_append.1 hb with h | h
      · exact ih _ (by omega) b h
      · rw [List.mem_singleton] at h; subst h; exact dig_ofNat (n % 10) (Nat.mod_lt n (by decide))
theorem dec_ne (n : Nat) : decDigits n ≠ [] := by
  rw [decDigits]; split <;> simp
theorem not_pm_of_dig {b : UInt8} (h : isDig b = true) : isPM b = false := by
  unfold isDig at h; unfold isPM
  simp only [Bool.and_eq_true, decide_eq_true_eq] at h
  rw [Bool.or_eq_false_iff, beq_eq_false_iff_ne, beq_eq_false_iff_ne]
  constructor
  · rintro rfl; exact absurd h.1 (by decide)
  · rintro rfl; exact absurd h.1 (by decide)

/-- the last place where p holds -/
def lastIdx (p : UInt8 → Bool) : List UInt8 → Option Nat
  | [] => none
  | x :: l => match lastIdx p l with
    | some k => some (k + 1)
    | none => if p x then some 0 else none
theorem lastIdx_none {p : UInt8 → Bool} : ∀ (l : List UInt8), (∀ b ∈ l, p b = false) → lastIdx p l = none
  | [], _ => rfl
  | x :: l, h => by rw [lastIdx, lastIdx_none l fun b hb => h b (List.mem_cons_of_mem _ hb)]; simp [h x List.mem_cons_self]
theorem lastIdx_at {p : UInt8 → Bool} : ∀ (a : List UInt8) (x : UInt8) (b : List UInt8), p x = true → (∀ y ∈ b, p y = false) → lastIdx p (a ++ x :: b) = some a.length
  | [], x, b, hx, hb => by rw [List.nil_append, lastIdx, lastIdx_none b hb]; simp [hx]
  | y :: a, x, b, hx, hb => by rw [List.cons_append, lastIdx, lastIdx_at a x b hx hb]; rfl

/-- the text of two numbers -/
def textL (r i : Int) : List UInt8 := itoa r ++ (if i < 0 then [] else [43]) ++ itoa i ++ [105]
/-- what stands behind the real part, ahead of the i -/
def imL (i : Int) : List UInt8 := if i < 0 then itoa i else 43 :: itoa i
theorem textL_eq (r i : Int) : textL r i = itoa r ++ (imL i ++ [105]) := by
  unfold textL imL; split <;> simp
theorem imL_shape (i : Int) : ∃ x d, imL i = x :: d ∧ isPM x = true ∧ ∀ b ∈ d, isDig b = true := by
  unfold imL
  split
  · rename_i h
    refine ⟨45, decDigits i.natAbs, by unfold itoa; rw [if_pos h], by decide, dec_dig _⟩
  · rename_i h
    refine ⟨43, decDigits i.toNat, by unfold itoa; rw [if_neg h], by decide, dec_dig _⟩
theorem last_text (r i : Int) : lastIdx isPM (textL r i) = some (itoa r).length := by
  obtain ⟨x, d, h1, h2, h3⟩ := imL_shape i
  rw [textL_eq, h1, List.cons_append]
  refine lastIdx_at _ _ _ h2 ?_
  intro y hy
  rcases List.mem_append.1 hy with h | h
  · exact not_pm_of_dig (h3 y h)
  · simp at h; subst h; decide
theorem take_text (r i : Int) : (textL r i).take (itoa r).length = itoa r := by rw [textL_eq]; simp
theorem drop_text (r i : Int) : (textL r i).drop (itoa r).length = imL i ++ [105] := by rw [textL_eq]; simp

theorem decFrom_digits (acc : Nat) (l : List UInt8) (x : UInt8) (k : Nat) (hx : digitVal x = some k) : ∀ (m : Nat), decFrom acc l = some m → decFrom acc (l ++ [x]) = some (m * 10 + k) := by
  induction l generalizing acc with
  | nil => intro m h; simp [decFrom] at h ⊢; subst h; simp [hx]
  | cons y l ih =>
    intro m h
    rw [List.cons_append, decFrom]
    rw [decFrom] at h
    cases hy : digitVal y with
    | none => rw [hy] at h; simp at h
    | some d => rw [hy] at h; simp at h ⊢; exact ih _ m h

theorem digitVal_ofNat (k : Nat) (h : k < 10) : digitVal (UInt8.ofNat (48 + k)) = some k := by
  unfold digitVal; rw [ofNat_toNat _ (by omega), if_pos (by omega)]; congr 1; omega
theorem decFrom_dec (n : Nat) : decFrom 0 (decDigits n) = some n := by
  induction n using Nat.strongRecOn with
  | _ n ih =>
    rw [decDigits]
    split
    · rename_i h
      rw [decFrom, digitVal_ofNat n h]; simp [decFrom]
    · rw [decFrom_digits 0 _ _ (n % 10) (digitVal_ofNat _ (Nat.mod_lt _ (by decide))) (n / 10) (ih _ (by omega))]
      congr 1; omega
theorem decNat_dec (n : Nat) : decNat (decDigits n) = some n := by
  unfold decNat
  rw [decFrom_dec]
  have := dec_ne n
  cases h : decDigits n with
  | nil => exact absurd h this
  | cons => rfl

theorem atoi_itoa (n : Int) : atoi (itoa n) = some n := by
  unfold itoa
  split
  · rename_i h
    rw [atoi, if_pos (by decide), decNat_dec]; simp; omega
  · rename_i h
    cases hd : decDigits n.toNat with
    | nil => exact absurd hd (dec_ne _)
    | cons b r =>
      have hb : isDig b = true := dec_dig n.toNat b (by rw [hd]; exact List.mem_cons_self)
      have hp := not_pm_of_dig hb
      unfold isPM at hp
      rw [Bool.or_eq_false_iff] at hp
      rw [atoi]
      rw [hp.1, hp.2, ← hd, decNat_dec]
      simp; omega
theorem atoi_imL (i : Int) : atoi (imL i) = some i := by
  unfold imL
  split
  · exact atoi_itoa i
  · rename_i h
    unfold itoa; rw [if_neg h]
    rw [atoi, if_neg (by decide), if_pos (by decide), decNat_dec]; simp; omega

theorem textL_inj {r i r' i' : Int} (h : textL r i = textL r' i') : r = r' ∧ i = i' := by
  have h1 : some (itoa r).length = some (itoa r').length := by rw [← last_text r i, ← last_text r' i', h]
  have h2 := Option.some.inj h1
  constructor
  · have : itoa r = itoa r' := by rw [← take_text r i, ← take_text r' i', h, h2]
    have h3 : some r = some r' := by rw [← atoi_itoa r, ← atoi_itoa r', this]
    exact Option.some.inj h3
  · have : imL i ++ [105] = imL i' ++ [105] := by rw [← drop_text r i, ← drop_text r' i', h, h2]
    have h4 : imL i = imL i' := List.append_cancel_right this
    have h3 : some i = some i' := by rw [← atoi_imL i, ← atoi_imL i', h4]
    exact Option.some.inj h3

theorem dec_len (m k : Nat) (h : m < 10 ^ (k + 1)) : (decDigits m).length ≤ k + 1 := by
  induction k generalizing m with
  | zero => rw [decDigits, dif_pos (by omega)]; simp
  | succ k ih =>
    rw [decDigits]
    split
    · simp
    · have := ih (m / 10) (by rw [Nat.pow_succ] at h; omega)
      simp; omega
theorem itoa_len6 (n : Int) (h : -524288 ≤ n ∧ n < 524288) : (itoa n).length ≤ 7 := by
  unfold itoa
  split
  · have := dec_len n.natAbs 5 (by omega); simp; omega
  · have := dec_len n.toNat 5 (by omega); omega
theorem itoa_pos (n : Int) : 1 ≤ (itoa n).length := by
  have h1 := dec_ne n.natAbs
  have h2 := dec_ne n.toNat
  unfold itoa
  split
  · simp
  · exact List.length_pos_iff.2 h2
theorem itoa_ascii (n : Int) : ∀ b ∈ itoa n, b.toNat < 128 := by
  have key : ∀ b, isDig b = true → b.toNat < 128 := by
    intro b hb; unfold isDig at hb; simp only [Bool.and_eq_true, decide_eq_true_eq] at hb; omega
  intro b hb
  unfold itoa at hb
  split at hb
  · rcases List.mem_cons.1 hb with rfl | h
    · decide
    · exact key b (dec_dig _ b h)
  · exact key b (dec_dig _ b hb)
theorem textL_ascii (r i : Int) : ∀ b ∈ textL r i, b.toNat < 128 := by
  intro b hb
  unfold textL at hb
  simp only [List.mem_append] at hb
  rcases hb with ((h | h) | h) | h
  · exact itoa_ascii r b h
  · split at h
    · cases h
    · rw [List.mem_singleton] at h; subst h; decide
  · exact itoa_ascii i b h
  · rw [List.mem_singleton] at h; subst h; decide
end Tx
