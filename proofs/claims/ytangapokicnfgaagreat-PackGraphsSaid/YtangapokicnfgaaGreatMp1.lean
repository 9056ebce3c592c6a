import Derived.WalkKit
import Derived.WalkSpells
import Derived.Below
import Derived.Deep.Draws
/-! Plain laws of values: pairs of whole numbers, taken into the range. No program in sight. -/
namespace Ga
set_option linter.unusedSimpArgs false
set_option linter.unusedVariables false

/-- into the range -/
def into (n : Int) : Int :=
  if n.tmod 1048576 < 0 then (if n.tmod 1048576 + 1048576 ≥ 524288 then n.tmod 1048576 else n.tmod 1048576 + 1048576)
  else if n.tmod 1048576 ≥ 524288 then n.tmod 1048576 - 1048576 else n.tmod 1048576

theorem tmod_lt (n : Int) : n.tmod 1048576 < 1048576 := Int.tmod_lt_of_pos _ (by decide)
theorem lt_tmod (n : Int) : -1048576 < n.tmod 1048576 := Int.lt_tmod_of_pos _ (by decide)

theorem into_range (n : Int) : -524288 ≤ into n ∧ into n < 524288 := by
  have h1 := tmod_lt n
  have h2 := lt_tmod n
  unfold into
  split <;> split <;> omega

theorem into_eq (n : Int) : into n = (n + 524288) % 1048576 - 524288 := by
  have h1 := tmod_lt n
  have h2 := lt_tmod n
  have h3 := Int.mul_tdiv_add_tmod n 1048576
  unfold into
  split <;> split <;> omega

theorem into_id {n : Int} (h : -524288 ≤ n ∧ n < 524288) : into n = n := by rw [into_eq]; omega
theorem into_into (n : Int) : into (into n) = into n := into_id (into_range n)
theorem into_mod (n : Int) : into n % 1048576 = n % 1048576 := by rw [into_eq]; omega
theorem into_congr {a b : Int} (h : a % 1048576 = b % 1048576) : into a = into b := by rw [into_eq, into_eq]; omega

/-- the other text's way -/
theorem into_ref (n : Int) : (if (if n.tmod 1048576 < -524288 then n.tmod 1048576 + 1048576 else n.tmod 1048576) ≥ 524288 then (if n.tmod 1048576 < -524288 then n.tmod 1048576 + 1048576 else n.tmod 1048576) - 1048576 else (if n.tmod 1048576 < -524288 then n.tmod 1048576 + 1048576 else n.tmod 1048576)) = into n := by
  have h1 := tmod_lt n
  have h2 := lt_tmod n
  have h3 := Int.mul_tdiv_add_tmod n 1048576
  rw [into_eq]
  split <;> split <;> omega

abbrev Val := Int × Int
def ofV (a : Val) : Val := (into a.1, into a.2)
def rightV (a : Val) : Bool := decide (a.1 = into a.1) && decide (a.2 = into a.2)
def addV (a b : Val) : Val := (into (into a.1 + into b.1), into (into a.2 + into b.2))
def subV (a b : Val) : Val := (into (into a.1 - into b.1), into (into a.2 - into b.2))
def mulV (a b : Val) : Val := (into (into a.1 * into b.1 - into a.2 * into b.2), into (into a.1 * into b.2 + into a.2 * into b.1))
def conjV (a : Val) : Val := (into (into a.1), into (-into a.2))
def turnV (a : Val) : Val := (into (into a.1 * 0 - into a.2 * 1), into (into a.1 * 1 + into a.2 * 0))
def zeroV (a : Val) : Bool := decide (into a.1 = 0) && decide (into a.2 = 0)
def lessV (a b : Val) : Bool := decide (into a.1 < into b.1)
def sumL (l : List Val) : Val := l.foldl addV (0, 0)
def prodL (l : List Val) : Val := l.foldl mulV (1, 0)

theorem ofV_eq (a : Val) : ofV a = (into a.1, into a.2) := rfl
theorem rightV_iff (a : Val) : rightV a = true ↔ ofV a = a := by
  obtain ⟨x, y⟩ := a
  simp only [rightV, ofV, Bool.and_eq_true, decide_eq_true_eq, Prod.mk.injEq]
  constructor <;> rintro ⟨h1, h2⟩ <;> exact ⟨h1.symm, h2.symm⟩

/-- equal modulo 2^20 in both parts -/
def Eqv (a b : Val) : Prop := a.1 % 1048576 = b.1 % 1048576 ∧ a.2 % 1048576 = b.2 % 1048576
theorem ofV_congr {a b : Val} (h : Eqv a b) : ofV a = ofV b := by
  unfold ofV; rw [into_congr h.1, into_congr h.2]

theorem mod_add {a a' b b' : Int} (h : a % 1048576 = a' % 1048576) (k : b % 1048576 = b' % 1048576) : (a + b) % 1048576 = (a' + b') % 1048576 := by omega
theorem mod_sub {a a' b b' : Int} (h : a % 1048576 = a' % 1048576) (k : b % 1048576 = b' % 1048576) : (a - b) % 1048576 = (a' - b') % 1048576 := by omega
theorem mod_mul {a a' b b' : Int} (h : a % 1048576 = a' % 1048576) (k : b % 1048576 = b' % 1048576) : (a * b) % 1048576 = (a' * b') % 1048576 := by
  rw [Int.mul_emod, h, k, ← Int.mul_emod]

/-- the exact reckoning -/
def addX (a b : Val) : Val := (a.1 + b.1, a.2 + b.2)
def subX (a b : Val) : Val := (a.1 - b.1, a.2 - b.2)
def mulX (a b : Val) : Val := (a.1 * b.1 - a.2 * b.2, a.1 * b.2 + a.2 * b.1)

theorem ofV_mod1 (a : Val) : (ofV a).1 % 1048576 = a.1 % 1048576 := into_mod _
theorem ofV_mod2 (a : Val) : (ofV a).2 % 1048576 = a.2 % 1048576 := into_mod _

theorem addV_of (a b a' b' : Val) (h : Eqv a a') (k : Eqv b b') : addV a b = ofV (addX a' b') := by
  unfold addV ofV addX
  rw [into_congr (mod_add ((into_mod a.1).trans h.1) ((into_mod b.1).trans k.1)), into_congr (mod_add ((into_mod a.2).trans h.2) ((into_mod b.2).trans k.2))]
theorem subV_of (a b a' b' : Val) (h : Eqv a a') (k : Eqv b b') : subV a b = ofV (subX a' b') := by
  unfold subV ofV subX
  rw [into_congr (mod_sub ((into_mod a.1).trans h.1) ((into_mod b.1).trans k.1)), into_congr (mod_sub ((into_mod a.2).trans h.2) ((into_mod b.2).trans k.2))]
theorem mulV_of (a b a' b' : Val) (h : Eqv a a') (k : Eqv b b') : mulV a b = ofV (mulX a' b') := by
  unfold mulV ofV mulX
  have h1 := (into_mod a.1).trans h.1
  have h2 := (into_mod a.2).trans h.2
  have k1 := (into_mod b.1).trans k.1
  have k2 := (into_mod b.2).trans k.2
  rw [into_congr (mod_sub (mod_mul h1 k1) (mod_mul h2 k2)), into_congr (mod_add (mod_mul h1 k2) (mod_mul h2 k1))]
theorem Eqv.rfl' (a : Val) : Eqv a a := ⟨rfl, rfl⟩
theorem Eqv.of (a : Val) : Eqv (ofV a) a := ⟨into_mod _, into_mod _⟩

theorem sumL_two (a b : Val) : sumL [a, b] = ofV (addX a b) := by
  have h0 : addV (0, 0) a = ofV a := by rw [addV_of _ _ _ _ (Eqv.rfl' _) (Eqv.rfl' _)]; simp [addX]
  show addV (addV (0, 0) a) b = _
  rw [h0, addV_of _ _ _ _ (Eqv.of a) (Eqv.rfl' b)]
theorem mul_one_left (a : Val) : mulV (1, 0) a = ofV a := by rw [mulV_of _ _ _ _ (Eqv.rfl' _) (Eqv.rfl' _)]; simp [mulX]
theorem prodL_two (a b : Val) : prodL [a, b] = ofV (mulX a b) := by
  show mulV (mulV (1, 0) a) b = _
  rw [mul_one_left, mulV_of _ _ _ _ (Eqv.of a) (Eqv.rfl' b)]
theorem prodL_three (a b c : Val) : prodL [a, b, c] = ofV (mulX (mulX a b) c) := by
  show mulV (prodL [a, b]) c = _
  rw [prodL_two, mulV_of _ _ _ _ (Eqv.of _) (Eqv.rfl' c)]

theorem mulX_comm (a b : Val) : mulX a b = mulX b a := by
  simp only [mulX, Prod.mk.injEq]
  exact ⟨by rw [Int.mul_comm a.1, Int.mul_comm a.2], by rw [Int.mul_comm a.1, Int.mul_comm a.2, Int.add_comm]⟩
theorem mulX_assoc (a b c : Val) : mulX (mulX a b) c = mulX a (mulX b c) := by
  simp only [mulX, Prod.mk.injEq, Int.sub_mul, Int.mul_sub, Int.add_mul, Int.mul_add, Int.mul_assoc]
  constructor <;> omega
theorem mulX_add (a b c : Val) : mulX a (addX b c) = addX (mulX a b) (mulX a c) := by
  simp only [mulX, addX, Prod.mk.injEq, Int.mul_add]
  constructor <;> omega

theorem law_dist (a b c : Val) : prodL [a, sumL [b, c]] = sumL [prodL [a, b], prodL [a, c]] := by
  rw [sumL_two, prodL_two, prodL_two, prodL_two, sumL_two]
  have h1 : Eqv (mulX a (ofV (addX b c))) (mulX a (addX b c)) :=
    ⟨mod_sub (mod_mul rfl (into_mod _)) (mod_mul rfl (into_mod _)), mod_add (mod_mul rfl (into_mod _)) (mod_mul rfl (into_mod _))⟩
  have h2 : Eqv (addX (ofV (mulX a b)) (ofV (mulX a c))) (addX (mulX a b) (mulX a c)) :=
    ⟨mod_add (into_mod _) (into_mod _), mod_add (into_mod _) (into_mod _)⟩
  rw [ofV_congr h1, ofV_congr h2, mulX_add]
theorem law_rev (a b c : Val) : prodL [a, b, c] = prodL [c, b, a] := by
  rw [prodL_three, prodL_three, mulX_comm (mulX c b) a, mulX_comm c b, ← mulX_assoc]
theorem law_comm (a b : Val) : prodL [a, b] = prodL [b, a] := by
  rw [prodL_two, prodL_two, mulX_comm]
theorem law_back (a b : Val) : sumL [subV a b, b] = ofV a := by
  rw [sumL_two, subV_of _ _ _ _ (Eqv.rfl' a) (Eqv.rfl' b)]
  have h : Eqv (addX (ofV (subX a b)) b) a := by
    refine ⟨(mod_add (into_mod _) rfl).trans ?_, (mod_add (into_mod _) rfl).trans ?_⟩ <;> simp only [subX] <;> congr 1 <;> omega
  exact ofV_congr h
theorem turnV_eq (a : Val) : turnV a = ofV (-a.2, a.1) := by
  unfold turnV ofV
  have h1 : into (into a.1 * 0 - into a.2 * 1) = into (-a.2) := by
    apply into_congr; have := into_mod a.2; omega
  have h2 : into (into a.1 * 1 + into a.2 * 0) = into a.1 := by
    apply into_congr; have := into_mod a.1; omega
  rw [h1, h2]
theorem turn2 (a : Val) : turnV (turnV a) = ofV (-a.1, -a.2) := by
  rw [turnV_eq, turnV_eq]
  apply ofV_congr
  have h1 := into_mod a.1
  have h2 := into_mod (-a.2)
  constructor
  · show (-into a.1) % 1048576 = (-a.1) % 1048576; omega
  · exact h2
theorem law_turn (a : Val) : turnV (turnV (turnV (turnV a))) = ofV a := by
  rw [turn2, turn2]
  apply ofV_congr
  have h1 := into_mod (-a.1)
  have h2 := into_mod (-a.2)
  constructor
  · show (-into (-a.1)) % 1048576 = a.1 % 1048576; omega
  · show (-into (-a.2)) % 1048576 = a.2 % 1048576; omega
theorem law_real (a : Val) : (prodL [a, conjV a]).2 = 0 := by
  rw [prodL_two]
  show into (a.1 * into (-into a.2) + a.2 * into (into a.1)) = 0
  have h : into (a.1 * into (-into a.2) + a.2 * into (into a.1)) = into 0 := by
    apply into_congr
    have h1 : (into (-into a.2)) % 1048576 = (-a.2) % 1048576 := by have := into_mod (-into a.2); have := into_mod a.2; omega
    rw [mod_add (mod_mul (rfl : a.1 % 1048576 = a.1 % 1048576) h1) (mod_mul (rfl : a.2 % 1048576 = a.2 % 1048576) ((into_mod _).trans (into_mod a.1)))]
    congr 1
    rw [Int.mul_neg, Int.mul_comm a.1]; omega
  rw [h]; decide
theorem right_ofV (a : Val) : rightV (ofV a) = true := by
  unfold rightV ofV; simp only [into_into, decide_true, Bool.and_self]
theorem law_right (a b : Val) : rightV (prodL [a, b]) = true := by rw [prodL_two]; exact right_ofV _
end Ga

namespace Go
set_option linter.unusedSimpArgs false
set_option linter.unusedVariables false
open Go.RowKit

/-- w with further blocks behind those it has, and with so many answers drawn. -/
def World.more (w : World) (R : Array Obj) (n : Nat) : World := { w with heap := w.heap ++ R, drawn := n }

section
variable {w : World}
@[go_sem] theorem World.more_size (R : Array Obj) (n : Nat) : (w.more R n).heap.size = w.heap.size + R.size := by simp [World.more]
@[go_sem] theorem World.drew_more (R : Array Obj) (n : Nat) : (w.more R n).drew = w.more R (n + 1) := rfl
@[go_sem] theorem World.more_drew (R : Array Obj) (n : Nat) : w.drew.more R n = w.more R n := rfl
theorem World.more_more (R R' : Array Obj) (n n' : Nat) : (w.more R n).more R' n' = w.more (R ++ R') n' := by simp [World.more]
theorem World.more_alloc (R : Array Obj) (n : Nat) (o : Obj) : (w.more R n).alloc o = w.more (R.push o) n := by
  show World.mk _ _ _ _ _ = World.mk _ _ _ _ _
  congr 1
  exact (Array.append_push).symm
theorem World.alloc_more (o : Obj) : w.alloc o = w.more #[o] w.drawn := by
  show World.mk _ _ _ _ _ = World.mk _ _ _ _ _
  congr 1
theorem World.self_more : w = w.more #[] w.drawn := by
  show w = World.mk _ _ _ _ _
  rw [Array.append_empty]
theorem World.drew_as_more : w.drew = w.more #[] (w.drawn + 1) := by
  show World.mk _ _ _ _ _ = World.mk _ _ _ _ _
  rw [Array.append_empty]
theorem World.more_drawn (R : Array Obj) (n : Nat) : (w.more R n).drawn = n := rfl

theorem World.heap_more (R : Array Obj) (n b : Nat) (h : b < w.heap.size) : (w.more R n).heap[b]? = w.heap[b]? := by
  simp [World.more, Array.getElem?_append, h]
theorem World.cell?_more_past (R : Array Obj) (n b i : Nat) (h : b < w.heap.size) : (w.more R n).cell? ⟨b, i, none⟩ = w.cell? ⟨b, i, none⟩ := by
  unfold World.cell?; simp only [World.heap_more R n b h]
theorem World.frozen?_more_past (R : Array Obj) (n b i : Nat) (h : b < w.heap.size) : (w.more R n).frozen? ⟨b, i, none⟩ = w.frozen? ⟨b, i, none⟩ := by
  unfold World.frozen?; simp only [World.heap_more R n b h]
theorem World.setCell_more_past (R : Array Obj) (n b i : Nat) (v : Value) (h : b < w.heap.size) : (w.more R n).setCell ⟨b, i, none⟩ v = (w.setCell ⟨b, i, none⟩ v).more R n := by
  unfold World.setCell World.more
  congr 1
  apply Array.ext_getElem?
  intro k
  simp only [Array.getElem?_modify, Array.getElem?_append, Array.size_modify]
  by_cases hk : k < w.heap.size
  · simp [hk]
  · have : b ≠ k := by omega
    simp [hk, this]
theorem World.shape?_more_past (R : Array Obj) (n b : Nat) (h : b < w.heap.size) : (w.more R n).shape? b = w.shape? b := by
  unfold World.shape?; simp only [World.heap_more R n b h]

theorem Below.ofMore (R : Array Obj) (n : Nat) : Below w.heap.size w (w.more R n) :=
  ⟨rfl, rfl, rfl, by simp [World.more], fun k hk => World.heap_more R n k hk⟩
theorem Below.toMore {w' : World} (h : Below w.heap.size w w') : ∃ R n, w' = w.more R n := by
  refine ⟨w'.heap.extract w.heap.size w'.heap.size, w'.drawn, ?_⟩
  obtain ⟨h1, h2, h3, h4, h5⟩ := h
  cases w'; cases w
  simp only [World.more] at *
  subst h1 h2 h3
  congr 1
  apply Array.ext_getElem?
  intro k
  simp only [Array.getElem?_append, Array.getElem?_extract]
  split
  · rename_i hk; exact h5 k hk
  · rename_i hk
    split
    · congr 1; omega
    · rename_i h6; rw [Array.getElem?_eq_none]; omega
end

/-- w' is w with new blocks, no other. -/
def Grew (w w' : World) : Prop := ∃ R n, w' = w.more R n
theorem Grew.refl (w : World) : Grew w w := ⟨_, _, World.self_more⟩
theorem Grew.alloc {w w' : World} (h : Grew w w') (o : Obj) : Grew w (w'.alloc o) := by obtain ⟨R, n, rfl⟩ := h; exact ⟨_, _, World.more_alloc R n o⟩
theorem Grew.more {w w' : World} (h : Grew w w') (R : Array Obj) (n : Nat) : Grew w (w'.more R n) := by obtain ⟨R', n', rfl⟩ := h; exact ⟨_, _, World.more_more R' R n' n⟩
theorem Grew.drew {w w' : World} (h : Grew w w') : Grew w w'.drew := by obtain ⟨R', n', rfl⟩ := h; exact ⟨_, _, World.drew_more R' n'⟩
theorem Grew.drewN {w w' : World} (h : Grew w w') (n : Nat) : Grew w (w'.drewN n) := by obtain ⟨R', n', rfl⟩ := h; exact ⟨R', n' + n, rfl⟩
theorem Grew.trans {a b c : World} (h : Grew a b) (k : Grew b c) : Grew a c := by obtain ⟨R, n, rfl⟩ := k; exact h.more R n
theorem Grew.below {w w' : World} (h : Grew w w') : Below w.heap.size w w' := by obtain ⟨R, n, rfl⟩ := h; exact Below.ofMore R n

theorem Grew.ofBelow {w w' : World} (h : Below w.heap.size w w') : Grew w w' := Below.toMore h
theorem below_freeze {B : Nat} {a w : World} (h : Below B a w) {p : Addr} (hp : B ≤ p.block) (n : Nat) : Below B a (w.freeze p n) := by
  unfold World.freeze
  split
  · exact h
  · refine h.trans ⟨rfl, rfl, rfl, by simp, fun k hk => ?_⟩
    simp only [Array.getElem?_modify]
    rw [if_neg (by omega)]

/-- b is a block of W. (Rewritten without conditions: so that one side condition of a rule is paid at one depth.) -/
def Pre (b : Nat) (W : World) : Prop := b < W.heap.size
def PreIn (b : Nat) (s : Nat) (R : Array Obj) : Prop := s ≤ b ∧ b < s + R.size
theorem Pre.mk {b : Nat} {W : World} (h : b < W.heap.size) : Pre b W := h
theorem Pre.ofCell {b o : Nat} {W : World} {v : Value} (h : W.cell? ⟨b, o, none⟩ = some v) : Pre b W := World.block_lt_of_cell? W ⟨b, o, none⟩ h
@[go_sem] theorem Pre.alloc_iff (b : Nat) (W : World) (o : Obj) : Pre b (W.alloc o) = (b = W.heap.size ∨ Pre b W) := by
  unfold Pre; rw [World.size_alloc]; apply propext; omega
@[go_sem] theorem Pre.setCell_iff (b : Nat) (W : World) (a : Addr) (v : Value) : Pre b (W.setCell a v) = Pre b W := by
  unfold Pre; rw [World.size_setCell]
@[go_sem] theorem Pre.drew_iff (b : Nat) (W : World) : Pre b W.drew = Pre b W := rfl
@[go_sem] theorem Pre.more_iff (b : Nat) (W : World) (R : Array Obj) (n : Nat) : Pre b (W.more R n) = (Pre b W ∨ PreIn b W.heap.size R) := by
  unfold Pre PreIn; rw [World.more_size]; apply propext; omega

section
variable {w : World}
@[go_sem] theorem World.cell?_alloc_pre (o : Obj) (b i : Nat) (h : Pre b w) : (w.alloc o).cell? ⟨b, i, none⟩ = w.cell? ⟨b, i, none⟩ := World.cell?_alloc_past o b i h
@[go_sem] theorem World.frozen?_alloc_pre (o : Obj) (b i : Nat) (h : Pre b w) : (w.alloc o).frozen? ⟨b, i, none⟩ = w.frozen? ⟨b, i, none⟩ := World.frozen?_alloc_past o b i h
@[go_sem] theorem World.setCell_alloc_pre (o : Obj) (b i : Nat) (v : Value) (h : Pre b w) : (w.alloc o).setCell ⟨b, i, none⟩ v = (w.setCell ⟨b, i, none⟩ v).alloc o := World.setCell_alloc_past o b i v h
@[go_sem] theorem World.cell?_more_pre (R : Array Obj) (n b i : Nat) (h : Pre b w) : (w.more R n).cell? ⟨b, i, none⟩ = w.cell? ⟨b, i, none⟩ := World.cell?_more_past R n b i h
@[go_sem] theorem World.frozen?_more_pre (R : Array Obj) (n b i : Nat) (h : Pre b w) : (w.more R n).frozen? ⟨b, i, none⟩ = w.frozen? ⟨b, i, none⟩ := World.frozen?_more_past R n b i h
@[go_sem] theorem World.setCell_more_pre (R : Array Obj) (n b i : Nat) (v : Value) (h : Pre b w) : (w.more R n).setCell ⟨b, i, none⟩ v = (w.setCell ⟨b, i, none⟩ v).more R n := World.setCell_more_past R n b i v h
end

/-! Blocks that lie among the further ones: what they hold hangs on those alone. -/
/-- The block b of the further ones, s being the number of those ahead of them. -/
def inCell (s : Nat) (R : Array Obj) (b o : Nat) : Option Value := match R[b - s]? with | some (.cells c _ _) => c[o]? | _ => none
def inFrozen (s : Nat) (R : Array Obj) (b o : Nat) : Bool := match R[b - s]? with | some (.cells _ _ (lo, hi)) => lo ≤ o && o < hi | _ => false
def inSet (s : Nat) (R : Array Obj) (b o : Nat) (v : Value) : Array Obj := R.modify (b - s) fun | .cells c e f => .cells (c.setIfInBounds o v) e f | x => x

theorem heap_more_in (w : World) (R : Array Obj) (n b : Nat) (h : w.heap.size ≤ b) : (w.more R n).heap[b]? = R[b - w.heap.size]? := by
  simp only [World.more]
  rw [Array.getElem?_append_right h]
section
variable {w : World}
@[go_sem] theorem World.cell?_more_in (R : Array Obj) (n b i : Nat) (h : PreIn b w.heap.size R) : (w.more R n).cell? ⟨b, i, none⟩ = inCell w.heap.size R b i := by
  unfold World.cell? inCell
  simp only [heap_more_in w R n b h.1]
  rfl
@[go_sem] theorem World.frozen?_more_in (R : Array Obj) (n b i : Nat) (h : PreIn b w.heap.size R) : (w.more R n).frozen? ⟨b, i, none⟩ = inFrozen w.heap.size R b i := by
  unfold World.frozen? inFrozen
  simp only [heap_more_in w R n b h.1]
  rfl
@[go_sem] theorem World.setCell_more_in (R : Array Obj) (n b i : Nat) (v : Value) (h : PreIn b w.heap.size R) : (w.more R n).setCell ⟨b, i, none⟩ v = w.more (inSet w.heap.size R b i v) n := by
  unfold World.setCell World.more inSet
  congr 1
  apply Array.ext_getElem?
  intro k
  simp only [Array.getElem?_modify, Array.getElem?_append]
  obtain ⟨h1, h2⟩ := h
  by_cases hk : k < w.heap.size
  · have : b ≠ k := by omega
    simp [hk, this]
  · by_cases hb : b = k
    · subst hb
      simp only [hk, if_false, if_true]
      cases R[b - w.heap.size]? with
      | none => rfl
      | some o => cases o <;> rfl
    · have : b - w.heap.size ≠ k - w.heap.size := by omega
      simp [hk, hb, this]
end
@[go_sem] theorem PreIn.set_iff (b s : Nat) (R : Array Obj) (b' o : Nat) (v : Value) : PreIn b s (inSet s R b' o v) = PreIn b s R := by
  unfold PreIn inSet; rw [Array.size_modify]
@[go_sem] theorem inCell_inSet_same (s : Nat) (R : Array Obj) (b o : Nat) (v : Value) (h : (inCell s R b o).isSome = true) : inCell s (inSet s R b o v) b o = some v := by
  unfold inCell inSet at *
  rw [Array.getElem?_modify, if_pos rfl]
  cases hr : R[b - s]? with
  | none => rw [hr] at h; simp at h
  | some x =>
    rw [hr] at h
    cases x <;> simp at h ⊢
    rename_i c e f
    simp [h]
@[go_sem] theorem inCell_inSet_off (s : Nat) (R : Array Obj) (b o o' : Nat) (v : Value) (h : o ≠ o') : inCell s (inSet s R b o v) b o' = inCell s R b o' := by
  unfold inCell inSet
  rw [Array.getElem?_modify, if_pos rfl]
  cases R[b - s]? with
  | none => rfl
  | some x => cases x <;> simp [h]
@[go_sem] theorem inCell_inSet_blk (s : Nat) (R : Array Obj) (b b' o o' : Nat) (v : Value) (h : b ≠ b') (h1 : PreIn b s R) (h2 : PreIn b' s R) : inCell s (inSet s R b o v) b' o' = inCell s R b' o' := by
  obtain ⟨h3, _⟩ := h1
  obtain ⟨h4, _⟩ := h2
  unfold inCell inSet
  rw [Array.getElem?_modify, if_neg (by omega)]
@[go_sem] theorem inFrozen_inSet (s : Nat) (R : Array Obj) (b b' o o' : Nat) (v : Value) : inFrozen s (inSet s R b o v) b' o' = inFrozen s R b' o' := by
  unfold inFrozen inSet
  rw [Array.getElem?_modify]
  by_cases h : b - s = b' - s
  · rw [if_pos h]
    cases R[b' - s]? with
    | none => rfl
    | some x => cases x <;> rfl
  · rw [if_neg h]
/-- What is known of a block among the further ones. -/
theorem in_of_heap {W : World} {R : Array Obj} {n b : Nat} {c : Array Value} {t : TypeId} (h : (W.more R n).heap[b]? = some (.cells c t)) (hs : W.heap.size ≤ b) :
    PreIn b W.heap.size R ∧ (∀ o, inCell W.heap.size R b o = c[o]?) ∧ (∀ o, inFrozen W.heap.size R b o = false) := by
  rw [heap_more_in W R n b hs] at h
  have hlt := (Array.getElem?_eq_some_iff.1 h).1
  refine ⟨⟨hs, by omega⟩, fun o => ?_, fun o => ?_⟩
  · unfold inCell; rw [h]
  · unfold inFrozen; rw [h]; simp

/-- Two new blocks of two cells each, filled: what the further blocks then hold, under a name. -/
theorem two_filled (s : Nat) (R : Array Obj) (b c : Nat) (x y p q : Value) (hb : PreIn b s R) (hc : PreIn c s R) (hne : b ≠ c) (b0 : (inCell s R b 0).isSome = true) (b1 : (inCell s R b 1).isSome = true) (c0 : (inCell s R c 0).isSome = true) (c1 : (inCell s R c 1).isSome = true) :
    ∃ R', inSet s (inSet s (inSet s (inSet s R b 0 x) b 1 y) c 0 p) c 1 q = R' ∧ PreIn b s R' ∧ PreIn c s R' ∧ inCell s R' b 0 = some x ∧ inCell s R' b 1 = some y ∧ inCell s R' c 0 = some p ∧ inCell s R' c 1 = some q := by
  have hne' : c ≠ b := fun e => hne e.symm
  refine ⟨_, rfl, by simpa [PreIn.set_iff] using hb, by simpa [PreIn.set_iff] using hc, ?_, ?_, ?_, ?_⟩
  · rw [inCell_inSet_blk _ _ _ _ _ _ _ hne' (by simpa [PreIn.set_iff] using hc) (by simpa [PreIn.set_iff] using hb), inCell_inSet_blk _ _ _ _ _ _ _ hne' (by simpa [PreIn.set_iff] using hc) (by simpa [PreIn.set_iff] using hb), inCell_inSet_off _ _ _ _ _ _ (by decide), inCell_inSet_same _ _ _ _ _ b0]
  · rw [inCell_inSet_blk _ _ _ _ _ _ _ hne' (by simpa [PreIn.set_iff] using hc) (by simpa [PreIn.set_iff] using hb), inCell_inSet_blk _ _ _ _ _ _ _ hne' (by simpa [PreIn.set_iff] using hc) (by simpa [PreIn.set_iff] using hb), inCell_inSet_same _ _ _ _ _ (by rw [inCell_inSet_off _ _ _ _ _ _ (by decide)]; exact b1)]
  · rw [inCell_inSet_off _ _ _ _ _ _ (by decide), inCell_inSet_same _ _ _ _ _ (by rw [inCell_inSet_blk _ _ _ _ _ _ _ hne (by simpa [PreIn.set_iff] using hb) (by simpa [PreIn.set_iff] using hc), inCell_inSet_blk _ _ _ _ _ _ _ hne (by simpa [PreIn.set_iff] using hb) (by simpa [PreIn.set_iff] using hc)]; exact c0)]
  · rw [inCell_inSet_same _ _ _ _ _ (by rw [inCell_inSet_off _ _ _ _ _ _ (by decide), inCell_inSet_blk _ _ _ _ _ _ _ hne (by simpa [PreIn.set_iff] using hb) (by simpa [PreIn.set_iff] using hc), inCell_inSet_blk _ _ _ _ _ _ _ hne (by simpa [PreIn.set_iff] using hb) (by simpa [PreIn.set_iff] using hc)]; exact c1)]
theorem heap_new_at (w : World) (o : Obj) (n : Nat) (h : n = w.heap.size) : (w.alloc o).heap[n]? = some o := by
  subst h
  show (w.heap.push o)[w.heap.size]? = some o
  simp
end Go
