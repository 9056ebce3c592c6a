import Derived.Test.YtmdmbimfdpngaaaGreatDoorMc8
import Derived.Test.YtmdmbimfdpngaaaGreatDoorMc6
import Derived.Test.YtmdmbimfdpngaaaGreatDoorRows
import Derived.Test.YtmdmbimfdpngaaaGreatDoorMc1
import Derived.Lib.ItoaNum
import Derived.WalkKit
import Derived.WalkSpells
import Derived.Lib.Hide
import Derived.Outline
import Derived.LoopTactic
/-! What is kept, as a list of entries: a table made of a list keeps just that list if it stands by places and has nothing empty: plain laws. -/
namespace Tab
open Ga
set_option linter.unusedSimpArgs false
set_option linter.unusedVariables false

structure En where
  node : Int
  key : Int
  c0 : Val
  c1 : Val
def num (e : En) : Int := e.node * 64 + e.key
def nz (e : En) : Bool := !(e.c0 == (0, 0) && e.c1 == (0, 0))
/-- something is kept, or nothing any more -/
def setT (m : List En) (x : En) : List En := if nz x then x :: m.filter (fun y => num y != num x) else m.filter (fun y => num y != num x)
def newT (l : List En) : List En := l.foldl setT []
theorem num_inj {a b : En} (ha : 0 ≤ a.key ∧ a.key < 64) (hb : 0 ≤ b.key ∧ b.key < 64) (h : num a = num b) : a.node = b.node ∧ a.key = b.key := by
  unfold num at h
  omega
/-- what holds of a table -/
structure Ok (l m : List En) : Prop where
  un : m.Pairwise fun a b => num a ≠ num b
  sub : ∀ x ∈ m, x ∈ l
  nz : ∀ x ∈ m, nz x = true
theorem Ok.set {l m : List En} (h : Ok l m) (x : En) : Ok (l ++ [x]) (setT m x) := by
  have hf : ∀ y ∈ m.filter (fun y => num y != num x), y ∈ m ∧ num y ≠ num x := fun y hy => by
    obtain ⟨h1, h2⟩ := List.mem_filter.1 hy
    exact ⟨h1, by simpa using h2⟩
  unfold setT
  split
  · rename_i hn
    refine ⟨List.pairwise_cons.2 ⟨fun y hy => fun e => (hf y hy).2 e.symm, h.un.filter _⟩, fun y hy => ?_, fun y hy => ?_⟩
    · rcases List.mem_cons.1 hy with rfl | h1
      · exact List.mem_append_right _ (List.mem_singleton.2 rfl)
      · exact List.mem_append_left _ (h.sub y (hf y h1).1)
    · rcases List.mem_cons.1 hy with rfl | h1
      · exact hn
      · exact h.nz y (hf y h1).1
  · exact ⟨h.un.filter _, fun y hy => List.mem_append_left _ (h.sub y (hf y hy).1), fun y hy => h.nz y (hf y hy).1⟩
theorem newT_snoc (l : List En) (x : En) : newT (l ++ [x]) = setT (newT l) x := by
  unfold newT
  rw [List.foldl_append]
  rfl
theorem newT_ok (l : List En) : Ok l (newT l) := by
  suffices h : ∀ (r : List En), Ok r.reverse (newT r.reverse) by
    have := h l.reverse
    rwa [List.reverse_reverse] at this
  intro r
  induction r with
  | nil => exact ⟨List.Pairwise.nil, fun x hx => (by cases hx), fun x hx => (by cases hx)⟩
  | cons x r ih =>
    rw [List.reverse_cons, newT_snoc]
    exact ih.set x
/-- what stands by places, and has nothing empty, is kept as it is -/
theorem newT_rev (l : List En) (hs : l.Pairwise fun a b => num a < num b) (hn : ∀ x ∈ l, nz x = true) : newT l = l.reverse := by
  suffices h : ∀ (r : List En), (r.reverse.Pairwise fun a b => num a < num b) → (∀ x ∈ r, nz x = true) → newT r.reverse = r by
    have := h l.reverse (by rwa [List.reverse_reverse]) fun x hx => hn x (List.mem_reverse.1 hx)
    rwa [List.reverse_reverse] at this
  intro r
  induction r with
  | nil => intro _ _; rfl
  | cons x r ih =>
    intro hs hn
    rw [List.reverse_cons] at hs ⊢
    obtain ⟨h1, _, h3⟩ := List.pairwise_append.1 hs
    rw [newT_snoc, ih h1 fun y hy => hn y (List.mem_cons_of_mem _ hy)]
    unfold setT
    rw [if_pos (hn x (List.mem_cons_self ..))]
    congr 1
    refine List.filter_eq_self.2 fun y hy => ?_
    have := h3 y (List.mem_reverse.2 hy) x (List.mem_singleton.2 rfl)
    have : num y ≠ num x := by omega
    simpa using this
end Tab

/-! All blocks but one stay. -/
namespace Go.Proofs.YtmdmbimfdpngaaaGreatDoor
set_option linter.unusedSimpArgs false
set_option linter.unusedVariables false
open Go.RowKit
set_option maxRecDepth 100000

/-- No block but B is another. -/
def Keep (B : Nat) (w w' : World) : Prop := w.heap.size ≤ w'.heap.size ∧ ∀ q, q < w.heap.size → q ≠ B → w'.heap[q]? = w.heap[q]?
theorem Keep.ofGrew {B : Nat} {w w' : World} (g : Grew w w') : Keep B w w' := ⟨g.below.size, fun q hq _ => g.below.block q hq⟩
theorem Keep.trans {B : Nat} {a b c : World} (h : Keep B a b) (k : Keep B b c) : Keep B a c :=
  ⟨Nat.le_trans h.1 k.1, fun q hq hn => (k.2 q (Nat.lt_of_lt_of_le hq h.1) hn).trans (h.2 q hq hn)⟩
theorem Keep.set {w : World} {B : Nat} (v : Value) : Keep B w (w.setCell ⟨B, 0, none⟩ v) :=
  ⟨by simp [World.size_setCell], fun q _ hn => set_other (fun e => hn e.symm)⟩
theorem Keep.own {α : Type} {base B : Nat} {e : TypeId} {k : Nat} {enc : α → List Value} {w w' : World} {v : Value} {l : List α} (h : Keep B w w') (ho : OwnAt base e k enc w v l) (hne : v.ownBlock ≠ some B) : OwnAt base e k enc w' v l :=
  OwnAt.same ho fun b hb => h.2 b (by have := (World.ownsRow.lt ho b hb).2; exact this) (fun e => hne (by rw [hb, e]))
end Go.Proofs.YtmdmbimfdpngaaaGreatDoor

/-! Digits of a number, by the other text. -/
namespace Go.Proofs.YtmdmbimfdpngaaaGreatDoor
set_option linter.unusedSimpArgs false
set_option linter.unusedVariables false
open Go.RowKit

abbrev str (l : List UInt8) : Value := .string ⟨l.toArray⟩
theorem dec_len (m : Nat) (h : m < 18446744073709551616) : (Lib.decDigits m).length ≤ 20 := by
  have key : ∀ (k m : Nat), m < 10 ^ (k + 1) → (Lib.decDigits m).length ≤ k + 1 := by
    intro k
    induction k with
    | zero => intro m hm; rw [Lib.decDigits, dif_pos (by omega)]; simp
    | succ k ih =>
      intro m hm
      rw [Lib.decDigits]
      split
      · simp
      · have := ih (m / 10) (by rw [Nat.pow_succ] at hm; omega)
        simp; omega
  exact key 19 m (by omega)
theorem str_cat (a b : List UInt8) : (⟨a.toArray⟩ ++ ⟨b.toArray⟩ : ByteArray) = ⟨(a ++ b).toArray⟩ := ByteArray.mk_append_mk a b

end Go.Proofs.YtmdmbimfdpngaaaGreatDoor
