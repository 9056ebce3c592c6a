import Derived.WalkKit
import Derived.WalkSpells
import Derived.Below
namespace Go
open Go.RowKit

/-- w with further blocks behind those it has, and with so many answers drawn. -/
def World.more (w : World) (R : Array Obj) (n : Nat) : World := { w with heap := w.heap ++ R, drawn := n }

section
variable {w : World}
@[go_sem] theorem World.more_size (R : Array Obj) (n : Nat) : (w.more R n).heap.size = w.heap.size + R.size := by simp [World.more]
@[go_sem] theorem World.drew_more (R : Array Obj) (n : Nat) : (w.more R n).drew = w.more R (n + 1) := rfl
@[go_sem] theorem World.more_drew (R : Array Obj) (n : Nat) : w.drew.more R n = w.more R n := rfl
theorem World.more_more (R R' : Array Obj) (n n' : Nat) : (w.more R n).more R' n' = w.more (R ++ R') n' := by simp [World.more]
theorem World.more_alloc (R : Array Obj) (n : Nat) (o : Obj) : (w.more R n).alloc o = w.more (R.push o) n := by
  show World.mk _ _ _ _ _ = World.mk _ _ _ _ _
  congr 1
  exact (Array.append_push).symm
theorem World.alloc_more (o : Obj) : w.alloc o = w.more #[o] w.drawn := by
  show World.mk _ _ _ _ _ = World.mk _ _ _ _ _
  congr 1
theorem World.self_more : w = w.more #[] w.drawn := by
  show w = World.mk _ _ _ _ _
  rw [Array.append_empty]
theorem World.drew_as_more : w.drew = w.more #[] (w.drawn + 1) := by
  show World.mk _ _ _ _ _ = World.mk _ _ _ _ _
  rw [Array.append_empty]
theorem World.more_drawn (R : Array Obj) (n : Nat) : (w.more R n).drawn = n := rfl

theorem World.heap_more (R : Array Obj) (n b : Nat) (h : b < w.heap.size) : (w.more R n).heap[b]? = w.heap[b]? := by
  simp [World.more, Array.getElem?_append, h]
theorem World.cell?_more_past (R : Array Obj) (n b i : Nat) (h : b < w.heap.size) : (w.more R n).cell? ⟨b, i, none⟩ = w.cell? ⟨b, i, none⟩ := by
  unfold World.cell?; simp only [World.heap_more R n b h]
theorem World.frozen?_more_past (R : Array Obj) (n b i : Nat) (h : b < w.heap.size) : (w.more R n).frozen? ⟨b, i, none⟩ = w.frozen? ⟨b, i, none⟩ := by
  unfold World.frozen?; simp only [World.heap_more R n b h]
theorem World.setCell_more_past (R : Array Obj) (n b i : Nat) (v : Value) (h : b < w.heap.size) : (w.more R n).setCell ⟨b, i, none⟩ v = (w.setCell ⟨b, i, none⟩ v).more R n := by
  unfold World.setCell World.more
  congr 1
  apply Array.ext_getElem?
  intro k
  simp only [Array.getElem?_modify, Array.getElem?_append, Array.size_modify]
  by_cases hk : k < w.heap.size
  · simp [hk]
  · have : b ≠ k := by omega
    simp [hk, this]
theorem World.shape?_more_past (R : Array Obj) (n b : Nat) (h : b < w.heap.size) : (w.more R n).shape? b = w.shape? b := by
  unfold World.shape?; simp only [World.heap_more R n b h]

theorem Below.ofMore (R : Array Obj) (n : Nat) : Below w.heap.size w (w.more R n) :=
  ⟨rfl, rfl, rfl, by simp [World.more], fun k hk => World.heap_more R n k hk⟩
theorem Below.toMore {w' : World} (h : Below w.heap.size w w') : ∃ R n, w' = w.more R n := by
  refine ⟨w'.heap.extract w.heap.size w'.heap.size, w'.drawn, ?_⟩
  obtain ⟨h1, h2, h3, h4, h5⟩ := h
  cases w'; cases w
  simp only [World.more] at *
  subst h1 h2 h3
  congr 1
  apply Array.ext_getElem?
  intro k
  simp only [Array.getElem?_append, Array.getElem?_extract]
  split
  · rename_i hk; exact h5 k hk
  · rename_i hk
    split
    · congr 1; omega
    · rename_i h6; rw [Array.getElem?_eq_none]; omega
end

/-- w' is w with new blocks, no other. -/
def Grew (w w' : World) : Prop := ∃ R n, w' = w.more R n
theorem Grew.refl (w : World) : Grew w w := ⟨_, _, World.self_more⟩
theorem Grew.alloc {w w' : World} (h : Grew w w') (o : Obj) : Grew w (w'.alloc o) := by obtain ⟨R, n, rfl⟩ := h; exact ⟨_, _, World.more_alloc R n o⟩
theorem Grew.more {w w' : World} (h : Grew w w') (R : Array Obj) (n : Nat) : Grew w (w'.more R n) := by obtain ⟨R', n', rfl⟩ := h; exact ⟨_, _, World.more_more R' R n' n⟩
theorem Grew.drew {w w' : World} (h : Grew w w') : Grew w w'.drew := by obtain ⟨R', n', rfl⟩ := h; exact ⟨_, _, World.drew_more R' n'⟩
theorem Grew.trans {a b c : World} (h : Grew a b) (k : Grew b c) : Grew a c := by obtain ⟨R, n, rfl⟩ := k; exact h.more R n
theorem Grew.below {w w' : World} (h : Grew w w') : Below w.heap.size w w' := by obtain ⟨R, n, rfl⟩ := h; exact Below.ofMore R n

/-- b is a block of W. (Rewritten without conditions: so that one side condition of a rule is paid at one depth.) -/
def Pre (b : Nat) (W : World) : Prop := b < W.heap.size
def PreIn (b : Nat) (W : World) (R : Array Obj) : Prop := W.heap.size ≤ b ∧ b < W.heap.size + R.size
theorem Pre.mk {b : Nat} {W : World} (h : b < W.heap.size) : Pre b W := h
theorem Pre.ofCell {b o : Nat} {W : World} {v : Value} (h : W.cell? ⟨b, o, none⟩ = some v) : Pre b W := World.block_lt_of_cell? W ⟨b, o, none⟩ h
@[go_sem] theorem Pre.alloc_iff (b : Nat) (W : World) (o : Obj) : Pre b (W.alloc o) = (b = W.heap.size ∨ Pre b W) := by
  unfold Pre; rw [World.size_alloc]; apply propext; omega
@[go_sem] theorem Pre.setCell_iff (b : Nat) (W : World) (a : Addr) (v : Value) : Pre b (W.setCell a v) = Pre b W := by
  unfold Pre; rw [World.size_setCell]
@[go_sem] theorem Pre.drew_iff (b : Nat) (W : World) : Pre b W.drew = Pre b W := rfl
@[go_sem] theorem Pre.more_iff (b : Nat) (W : World) (R : Array Obj) (n : Nat) : Pre b (W.more R n) = (Pre b W ∨ PreIn b W R) := by
  unfold Pre PreIn; rw [World.more_size]; apply propext; omega

section
variable {w : World}
@[go_sem] theorem World.cell?_alloc_pre (o : Obj) (b i : Nat) (h : Pre b w) : (w.alloc o).cell? ⟨b, i, none⟩ = w.cell? ⟨b, i, none⟩ := World.cell?_alloc_past o b i h
@[go_sem] theorem World.frozen?_alloc_pre (o : Obj) (b i : Nat) (h : Pre b w) : (w.alloc o).frozen? ⟨b, i, none⟩ = w.frozen? ⟨b, i, none⟩ := World.frozen?_alloc_past o b i h
@[go_sem] theorem World.setCell_alloc_pre (o : Obj) (b i : Nat) (v : Value) (h : Pre b w) : (w.alloc o).setCell ⟨b, i, none⟩ v = (w.setCell ⟨b, i, none⟩ v).alloc o := World.setCell_alloc_past o b i v h
@[go_sem] theorem World.cell?_more_pre (R : Array Obj) (n b i : Nat) (h : Pre b w) : (w.more R n).cell? ⟨b, i, none⟩ = w.cell? ⟨b, i, none⟩ := World.cell?_more_past R n b i h
@[go_sem] theorem World.frozen?_more_pre (R : Array Obj) (n b i : Nat) (h : Pre b w) : (w.more R n).frozen? ⟨b, i, none⟩ = w.frozen? ⟨b, i, none⟩ := World.frozen?_more_past R n b i h
@[go_sem] theorem World.setCell_more_pre (R : Array Obj) (n b i : Nat) (v : Value) (h : Pre b w) : (w.more R n).setCell ⟨b, i, none⟩ v = (w.setCell ⟨b, i, none⟩ v).more R n := World.setCell_more_past R n b i v h
end

end Go
