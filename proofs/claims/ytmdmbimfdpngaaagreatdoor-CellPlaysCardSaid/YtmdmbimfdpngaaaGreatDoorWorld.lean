import Derived.WalkKit
import Derived.WalkSpells
import Derived.Below
import Derived.Deep.Draws
namespace Go
set_option linter.unusedSimpArgs false
set_option linter.unusedVariables false
open Go.RowKit

/-- w with further blocks behind those it has, and with so many answers drawn. -/
def World.more (w : World) (R : Array Obj) (n : Nat) : World := { w with heap := w.heap ++ R, drawn := n }

section
variable {w : World}
@[go_sem] theorem World.more_size (R : Array Obj) (n : Nat) : (w.more R n).heap.size = w.heap.size + R.size := by simp [World.more]
@[go_sem] theorem World.drew_more (R : Array Obj) (n : Nat) : (w.more R n).drew = w.more R (n + 1) := rfl
@[go_sem] theorem World.more_drew (R : Array Obj) (n : Nat) : w.drew.more R n = w.more R n := rfl
theorem World.more_more (R R' : Array Obj) (n n' : Nat) : (w.more R n).more R' n' = w.more (R ++ R') n' := by simp [World.more]
theorem World.more_alloc (R : Array Obj) (n : Nat) (o : Obj) : (w.more R n).alloc o = w.more (R.push o) n := by
  show World.mk _ _ _ _ _ = World.mk _ _ _ _ _
  congr 1
  exact (Array.append_push).symm
theorem World.alloc_more (o : Obj) : w.alloc o = w.more #[o] w.drawn := by
  show World.mk _ _ _ _ _ = World.mk _ _ _ _ _
  congr 1
theorem World.self_more : w = w.more #[] w.drawn := by
  show w = World.mk _ _ _ _ _
  rw [Array.append_empty]
theorem World.drew_as_more : w.drew = w.more #[] (w.drawn + 1) := by
  show World.mk _ _ _ _ _ = World.mk _ _ _ _ _
  rw [Array.append_empty]
theorem World.more_drawn (R : Array Obj) (n : Nat) : (w.more R n).drawn = n := rfl

theorem World.heap_more (R : Array Obj) (n b : Nat) (h : b < w.heap.size) : (w.more R n).heap[b]? = w.heap[b]? := by
  simp [World.more, Array.getElem?_append, h]
theorem World.cell?_more_past (R : Array Obj) (n b i : Nat) (h : b < w.heap.size) : (w.more R n).cell? ⟨b, i, none⟩ = w.cell? ⟨b, i, none⟩ := by
  unfold World.cell?; simp only [World.heap_more R n b h]
theorem World.frozen?_more_past (R : Array Obj) (n b i : Nat) (h : b < w.heap.size) : (w.more R n).frozen? ⟨b, i, none⟩ = w.frozen? ⟨b, i, none⟩ := by
  unfold World.frozen?; simp only [World.heap_more R n b h]
theorem World.setCell_more_past (R : Array Obj) (n b i : Nat) (v : Value) (h : b < w.heap.size) : (w.more R n).setCell ⟨b, i, none⟩ v = (w.setCell ⟨b, i, none⟩ v).more R n := by
  unfold World.setCell World.more
  congr 1
  apply Array.ext_getElem?
  intro k
  simp only [Array.getElem?_modify, Array.getElem?_append, Array.size_modify]
  by_cases hk : k < w.heap.size
  · simp [hk]
  · have : b ≠ k := by omega
    simp [hk, this]
theorem World.shape?_more_past (R : Array Obj) (n b : Nat) (h : b < w.heap.size) : (w.more R n).shape? b = w.shape? b := by
  unfold World.shape?; simp only [World.heap_more R n b h]

theorem Below.ofMore (R : Array Obj) (n : Nat) : Below w.heap.size w (w.more R n) :=
  ⟨rfl, rfl, rfl, by simp [World.more], fun k hk => World.heap_more R n k hk⟩
theorem Below.toMore {w' : World} (h : Below w.heap.size w w') : ∃ R n, w' = w.more R n := by
  refine ⟨w'.heap.extract w.heap.size w'.heap.size, w'.drawn, ?_⟩
  obtain ⟨h1, h2, h3, h4, h5⟩ := h
  cases w'; cases w
  simp only [World.more] at *
  subst h1 h2 h3
  congr 1
  apply Array.ext_getElem?
  intro k
  simp only [Array.getElem?_append, Array.getElem?_extract]
  split
  · rename_i hk; exact h5 k hk
  · rename_i hk
    split
    · congr 1; omega
    · rename_i h6; rw [Array.getElem?_eq_none]; omega
end

/-- w' is w with new blocks, no other. -/
def Grew (w w' : World) : Prop := ∃ R n, w' = w.more R n
theorem Grew.refl (w : World) : Grew w w := ⟨_, _, World.self_more⟩
theorem Grew.alloc {w w' : World} (h : Grew w w') (o : Obj) : Grew w (w'.alloc o) := by obtain ⟨R, n, rfl⟩ := h; exact ⟨_, _, World.more_alloc R n o⟩
theorem Grew.more {w w' : World} (h : Grew w w') (R : Array Obj) (n : Nat) : Grew w (w'.more R n) := by obtain ⟨R', n', rfl⟩ := h; exact ⟨_, _, World.more_more R' R n' n⟩
theorem Grew.drew {w w' : World} (h : Grew w w') : Grew w w'.drew := by obtain ⟨R', n', rfl⟩ := h; exact ⟨_, _, World.drew_more R' n'⟩
theorem Grew.drewN {w w' : World} (h : Grew w w') (n : Nat) : Grew w (w'.drewN n) := by obtain ⟨R', n', rfl⟩ := h; exact ⟨R', n' + n, rfl⟩
theorem Grew.trans {a b c : World} (h : Grew a b) (k : Grew b c) : Grew a c := by obtain ⟨R, n, rfl⟩ := k; exact h.more R n
theorem Grew.below {w w' : World} (h : Grew w w') : Below w.heap.size w w' := by obtain ⟨R, n, rfl⟩ := h; exact Below.ofMore R n

theorem Grew.ofBelow {w w' : World} (h : Below w.heap.size w w') : Grew w w' := Below.toMore h
theorem below_freeze {B : Nat} {a w : World} (h : Below B a w) {p : Addr} (hp : B ≤ p.block) (n : Nat) : Below B a (w.freeze p n) := by
  unfold World.freeze
  split
  · exact h
  · refine h.trans ⟨rfl, rfl, rfl, by simp, fun k hk => ?_⟩
    simp only [Array.getElem?_modify]
    rw [if_neg (by omega)]

/-- b is a block of W. (Rewritten without conditions: so that one side condition of a rule is paid at one depth.) -/
def Pre (b : Nat) (W : World) : Prop := b < W.heap.size
def PreIn (b : Nat) (s : Nat) (R : Array Obj) : Prop := s ≤ b ∧ b < s + R.size
theorem Pre.mk {b : Nat} {W : World} (h : b < W.heap.size) : Pre b W := h
theorem Pre.ofCell {b o : Nat} {W : World} {v : Value} (h : W.cell? ⟨b, o, none⟩ = some v) : Pre b W := World.block_lt_of_cell? W ⟨b, o, none⟩ h
@[go_sem] theorem Pre.alloc_iff (b : Nat) (W : World) (o : Obj) : Pre b (W.alloc o) = (b = W.heap.size ∨ Pre b W) := by
  unfold Pre; rw [World.size_alloc]; apply propext; omega
@[go_sem] theorem Pre.setCell_iff (b : Nat) (W : World) (a : Addr) (v : Value) : Pre b (W.setCell a v) = Pre b W := by
  unfold Pre; rw [World.size_setCell]
@[go_sem] theorem Pre.drew_iff (b : Nat) (W : World) : Pre b W.drew = Pre b W := rfl
@[go_sem] theorem Pre.more_iff (b : Nat) (W : World) (R : Array Obj) (n : Nat) : Pre b (W.more R n) = (Pre b W ∨ PreIn b W.heap.size R) := by
  unfold Pre PreIn; rw [World.more_size]; apply propext; omega

section
variable {w : World}
@[go_sem] theorem World.cell?_alloc_pre (o : Obj) (b i : Nat) (h : Pre b w) : (w.alloc o).cell? ⟨b, i, none⟩ = w.cell? ⟨b, i, none⟩ := World.cell?_alloc_past o b i h
@[go_sem] theorem World.frozen?_alloc_pre (o : Obj) (b i : Nat) (h : Pre b w) : (w.alloc o).frozen? ⟨b, i, none⟩ = w.frozen? ⟨b, i, none⟩ := World.frozen?_alloc_past o b i h
@[go_sem] theorem World.setCell_alloc_pre (o : Obj) (b i : Nat) (v : Value) (h : Pre b w) : (w.alloc o).setCell ⟨b, i, none⟩ v = (w.setCell ⟨b, i, none⟩ v).alloc o := World.setCell_alloc_past o b i v h
@[go_sem] theorem World.cell?_more_pre (R : Array Obj) (n b i : Nat) (h : Pre b w) : (w.more R n).cell? ⟨b, i, none⟩ = w.cell? ⟨b, i, none⟩ := World.cell?_more_past R n b i h
@[go_sem] theorem World.frozen?_more_pre (R : Array Obj) (n b i : Nat) (h : Pre b w) : (w.more R n).frozen? ⟨b, i, none⟩ = w.frozen? ⟨b, i, none⟩ := World.frozen?_more_past R n b i h
@[go_sem] theorem World.setCell_more_pre (R : Array Obj) (n b i : Nat) (v : Value) (h : Pre b w) : (w.more R n).setCell ⟨b, i, none⟩ v = (w.setCell ⟨b, i, none⟩ v).more R n := World.setCell_more_past R n b i v h
end

/-! Blocks that lie among the further ones: what they hold hangs on those alone. -/
/-- The block b of the further ones, s being the number of those ahead of them. -/
def inCell (s : Nat) (R : Array Obj) (b o : Nat) : Option Value := match R[b - s]? with | some (.cells c _ _) => c[o]? | _ => none
def inFrozen (s : Nat) (R : Array Obj) (b o : Nat) : Bool := match R[b - s]? with | some (.cells _ _ (lo, hi)) => lo ≤ o && o < hi | _ => false
def inSet (s : Nat) (R : Array Obj) (b o : Nat) (v : Value) : Array Obj := R.modify (b - s) fun | .cells c e f => .cells (c.setIfInBounds o v) e f | x => x

theorem heap_more_in (w : World) (R : Array Obj) (n b : Nat) (h : w.heap.size ≤ b) : (w.more R n).heap[b]? = R[b - w.heap.size]? := by
  simp only [World.more]
  rw [Array.getElem?_append_right h]
section
variable {w : World}
@[go_sem] theorem World.cell?_more_in (R : Array Obj) (n b i : Nat) (h : PreIn b w.heap.size R) : (w.more R n).cell? ⟨b, i, none⟩ = inCell w.heap.size R b i := by
  unfold World.cell? inCell
  simp only [heap_more_in w R n b h.1]
  rfl
@[go_sem] theorem World.frozen?_more_in (R : Array Obj) (n b i : Nat) (h : PreIn b w.heap.size R) : (w.more R n).frozen? ⟨b, i, none⟩ = inFrozen w.heap.size R b i := by
  unfold World.frozen? inFrozen
  simp only [heap_more_in w R n b h.1]
  rfl
@[go_sem] theorem World.setCell_more_in (R : Array Obj) (n b i : Nat) (v : Value) (h : PreIn b w.heap.size R) : (w.more R n).setCell ⟨b, i, none⟩ v = w.more (inSet w.heap.size R b i v) n := by
  unfold World.setCell World.more inSet
  congr 1
  apply Array.ext_getElem?
  intro k
  simp only [Array.getElem?_modify, Array.getElem?_append]
  obtain ⟨h1, h2⟩ := h
  by_cases hk : k < w.heap.size
  · have : b ≠ k := by omega
    simp [hk, this]
  · by_cases hb : b = k
    · subst hb
      simp only [hk, if_false, if_true]
      cases R[b - w.heap.size]? with
      | none => rfl
      | some o => cases o <;> rfl
    · have : b - w.heap.size ≠ k - w.heap.size := by omega
      simp [hk, hb, this]
end
@[go_sem] theorem PreIn.set_iff (b s : Nat) (R : Array Obj) (b' o : Nat) (v : Value) : PreIn b s (inSet s R b' o v) = PreIn b s R := by
  unfold PreIn inSet; rw [Array.size_modify]
@[go_sem] theorem inCell_inSet_same (s : Nat) (R : Array Obj) (b o : Nat) (v : Value) (h : (inCell s R b o).isSome = true) : inCell s (inSet s R b o v) b o = some v := by
  unfold inCell inSet at *
  rw [Array.getElem?_modify, if_pos rfl]
  cases hr : R[b - s]? with
  | none => rw [hr] at h; simp at h
  | some x =>
    rw [hr] at h
    cases x <;> simp at h ⊢
    rename_i c e f
    simp [h]
@[go_sem] theorem inCell_inSet_off (s : Nat) (R : Array Obj) (b o o' : Nat) (v : Value) (h : o ≠ o') : inCell s (inSet s R b o v) b o' = inCell s R b o' := by
  unfold inCell inSet
  rw [Array.getElem?_modify, if_pos rfl]
  cases R[b - s]? with
  | none => rfl
  | some x => cases x <;> simp [h]
@[go_sem] theorem inCell_inSet_blk (s : Nat) (R : Array Obj) (b b' o o' : Nat) (v : Value) (h : b ≠ b') (h1 : PreIn b s R) (h2 : PreIn b' s R) : inCell s (inSet s R b o v) b' o' = inCell s R b' o' := by
  obtain ⟨h3, _⟩ := h1
  obtain ⟨h4, _⟩ := h2
  unfold inCell inSet
  rw [Array.getElem?_modify, if_neg (by omega)]
@[go_sem] theorem inFrozen_inSet (s : Nat) (R : Array Obj) (b b' o o' : Nat) (v : Value) : inFrozen s (inSet s R b o v) b' o' = inFrozen s R b' o' := by
  unfold inFrozen inSet
  rw [Array.getElem?_modify]
  by_cases h : b - s = b' - s
  · rw [if_pos h]
    cases R[b' - s]? with
    | none => rfl
    | some x => cases x <;> rfl
  · rw [if_neg h]
/-- What is known of a block among the further ones. -/
theorem in_of_heap {W : World} {R : Array Obj} {n b : Nat} {c : Array Value} {t : TypeId} (h : (W.more R n).heap[b]? = some (.cells c t)) (hs : W.heap.size ≤ b) :
    PreIn b W.heap.size R ∧ (∀ o, inCell W.heap.size R b o = c[o]?) ∧ (∀ o, inFrozen W.heap.size R b o = false) := by
  rw [heap_more_in W R n b hs] at h
  have hlt := (Array.getElem?_eq_some_iff.1 h).1
  refine ⟨⟨hs, by omega⟩, fun o => ?_, fun o => ?_⟩
  · unfold inCell; rw [h]
  · unfold inFrozen; rw [h]; simp

/-- Two new blocks of two cells each, filled: what the further blocks then hold, under a name. -/
theorem two_filled (s : Nat) (R : Array Obj) (b c : Nat) (x y p q : Value) (hb : PreIn b s R) (hc : PreIn c s R) (hne : b ≠ c) (b0 : (inCell s R b 0).isSome = true) (b1 : (inCell s R b 1).isSome = true) (c0 : (inCell s R c 0).isSome = true) (c1 : (inCell s R c 1).isSome = true) :
    ∃ R', inSet s (inSet s (inSet s (inSet s R b 0 x) b 1 y) c 0 p) c 1 q = R' ∧ PreIn b s R' ∧ PreIn c s R' ∧ inCell s R' b 0 = some x ∧ inCell s R' b 1 = some y ∧ inCell s R' c 0 = some p ∧ inCell s R' c 1 = some q := by
  have hne' : c ≠ b := fun e => hne e.symm
  refine ⟨_, rfl, by simpa [PreIn.set_iff] using hb, by simpa [PreIn.set_iff] using hc, ?_, ?_, ?_, ?_⟩
  · rw [inCell_inSet_blk _ _ _ _ _ _ _ hne' (by simpa [PreIn.set_iff] using hc) (by simpa [PreIn.set_iff] using hb), inCell_inSet_blk _ _ _ _ _ _ _ hne' (by simpa [PreIn.set_iff] using hc) (by simpa [PreIn.set_iff] using hb), inCell_inSet_off _ _ _ _ _ _ (by decide), inCell_inSet_same _ _ _ _ _ b0]
  · rw [inCell_inSet_blk _ _ _ _ _ _ _ hne' (by simpa [PreIn.set_iff] using hc) (by simpa [PreIn.set_iff] using hb), inCell_inSet_blk _ _ _ _ _ _ _ hne' (by simpa [PreIn.set_iff] using hc) (by simpa [PreIn.set_iff] using hb), inCell_inSet_same _ _ _ _ _ (by rw [inCell_inSet_off _ _ _ _ _ _ (by decide)]; exact b1)]
  · rw [inCell_inSet_off _ _ _ _ _ _ (by decide), inCell_inSet_same _ _ _ _ _ (by rw [inCell_inSet_blk _ _ _ _ _ _ _ hne (by simpa [PreIn.set_iff] using hb) (by simpa [PreIn.set_iff] using hc), inCell_inSet_blk _ _ _ _ _ _ _ hne (by simpa [PreIn.set_iff] using hb) (by simpa [PreIn.set_iff] using hc)]; exact c0)]
  · rw [inCell_inSet_same _ _ _ _ _ (by rw [inCell_inSet_off _ _ _ _ _ _ (by decide), inCell_inSet_blk _ _ _ _ _ _ _ hne (by simpa [PreIn.set_iff] using hb) (by simpa [PreIn.set_iff] using hc), inCell_inSet_blk _ _ _ _ _ _ _ hne (by simpa [PreIn.set_iff] using hb) (by simpa [PreIn.set_iff] using hc)]; exact c1)]
theorem heap_new_at (w : World) (o : Obj) (n : Nat) (h : n = w.heap.size) : (w.alloc o).heap[n]? = some o := by
  subst h
  show (w.heap.push o)[w.heap.size]? = some o
  simp
end Go
