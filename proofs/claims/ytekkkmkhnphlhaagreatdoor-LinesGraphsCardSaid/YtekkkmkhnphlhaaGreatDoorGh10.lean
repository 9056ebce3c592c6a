import Derived.Test.YtekkkmkhnphlhaaGreatDoorGh3
import Derived.Test.YtekkkmkhnphlhaaGreatDoorGh4
import Derived.Test.YtekkkmkhnphlhaaGreatDoorGh0
import Derived.Test.YtekkkmkhnphlhaaGreatDoorGh6
import Derived.Scope
import Derived.Laws.RangeString
import Derived.Lib.TrimU
import Derived.Lib.TrimAscii
import Derived.Lib.AsciiSet
import Derived.Lib.Hide
import Derived.Deep.WholeRow
/-! octet.Writer and octet.Reader. -/
namespace Go.Proofs.YtekkkmkhnphlhaaGreatDoor
set_option linter.unusedSimpArgs false
set_option linter.unusedVariables false
open Go.RowKit
set_option maxRecDepth 100000

def encB (x : UInt8) : List Value := [.int .u8 x.toNat]
def encN (n : Int) : List Value := [.int .i64 n]
theorem infoU8 : (Tryz.prog.info? 5).map (fun i => (i.zero, i.size, i.bytes)) = some (some (.int .u8 0), 1, 1) := by kernel_rfl
theorem encB_len (x : UInt8) : (encB x).length = 1 := rfl
theorem encN_len (x : Int) : (encN x).length = 1 := rfl
theorem encB_one (x : UInt8) : ∀ u ∈ encB x, u.oneCell' = true := by intro u hu; simp [encB] at hu; subst hu; rfl

/-- The writer at block B: behind 'base'; its bytes. -/
def WriterAt (base B : Nat) (W : World) (vb : Value) (bs : List UInt8) : Prop :=
  base ≤ B ∧ W.heap[B]? = some (.cells #[vb] 135) ∧ OwnAt base 5 1 encB W vb bs

theorem cell_of_heap {W : World} {b o : Nat} {c : Array Value} {t : TypeId} {f : Nat × Nat} (h : W.heap[b]? = some (.cells c t f)) : W.cell? ⟨b, o, none⟩ = c[o]? := by
  unfold World.cell?; rw [h]; simp
theorem frozen_of_heap {W : World} {b o : Nat} {c : Array Value} {t : TypeId} (h : W.heap[b]? = some (.cells c t)) : W.frozen? ⟨b, o, none⟩ = false := by
  unfold World.frozen?; rw [h]; simp

/-- b is no block of bytes of the call's own. -/
def Safe (base b : Nat) (W : World) : Prop := b < base ∨ ∃ c t f, W.heap[b]? = some (.cells c t f) ∧ t ≠ 5
theorem Safe.own {base b : Nat} {W : World} {vb : Value} {bs : List UInt8} (h : Safe base b W) (ho : OwnAt base 5 1 encB W vb bs) : vb.ownBlock ≠ some b := by
  intro e
  obtain ⟨h1, h2⟩ := ho
  rcases h2 with ⟨rfl, _⟩ | ⟨g, cap, cur, rfl, hb, hh, _⟩
  · cases e
  · cases e
    rcases h with h | ⟨c, t, f, hc, ht⟩
    · exact absurd h (by show ¬ (g < base); omega)
    · rw [show (Addr.block ⟨g, 0, none⟩) = g from rfl] at hc
      rw [hh] at hc
      cases hc
      exact ht rfl

theorem RowsAt.sameBlock {α : Type} {k : Nat} {enc : α → List Value} {W W' : World} {v : Value} {l : List α} (h : RowsAt k enc W v l) (hb : ∀ b off, (∃ n c, v = .slice (some ⟨b, off, none⟩) n c) → W'.heap[b]? = W.heap[b]?) : RowsAt k enc W' v l := by
  obtain ⟨a, cap, rfl, hm, hl⟩ := h
  refine ⟨a, cap, rfl, hm, fun hne => ?_⟩
  obtain ⟨b, off, rfl, hx⟩ := hl hne
  refine ⟨b, off, rfl, fun i x hi j u hu => ?_⟩
  rw [← hx i x hi j u hu]
  unfold World.cell?
  rw [hb b off ⟨_, _, rfl⟩]
theorem Safe.sameBlock {base b : Nat} {W W' : World} (h : Safe base b W) (hb : W'.heap[b]? = W.heap[b]?) : Safe base b W' := by
  rcases h with h | ⟨c, t, f, hc, ht⟩
  · exact .inl h
  · exact .inr ⟨c, t, f, by rw [hb]; exact hc, ht⟩

theorem heap_set_other {W : World} {B b : Nat} {v' : Value} (h : B ≠ b) : (W.setCell ⟨B, 0, none⟩ v').heap[b]? = W.heap[b]? := by
  unfold World.setCell
  simp only [Array.getElem?_modify, h, if_false]
theorem OwnAt.sameBlock {α : Type} {base : Nat} {e : TypeId} {k : Nat} {enc : α → List Value} {W W' : World} {v : Value} {l : List α} (h : OwnAt base e k enc W v l) (hb : ∀ b, v.ownBlock = some b → W'.heap[b]? = W.heap[b]?) : OwnAt base e k enc W' v l := by
  obtain ⟨h1, h2⟩ := h
  refine ⟨h1, ?_⟩
  rcases h2 with h | ⟨g, cap, cur, rfl, hg, hh, r⟩
  · exact .inl h
  · exact .inr ⟨g, cap, cur, rfl, hg, by rw [hb g rfl]; exact hh, r⟩
theorem WriterAt.safe {base B : Nat} {W : World} {vb : Value} {bs : List UInt8} (h : WriterAt base B W vb bs) : Safe base B W := .inr ⟨_, _, _, h.2.1, by decide⟩

theorem heap_alloc_old {W : World} {b : Nat} {x : Obj} (h : W.heap[b]? = some x) (o : Obj) : (W.alloc o).heap[b]? = some x := by
  have hb := (Array.getElem?_eq_some_iff.1 h).1
  show (W.heap.push o)[b]? = some x
  rw [Array.getElem?_push_lt hb]
  rw [← h, Array.getElem?_eq_getElem hb]
end Go.Proofs.YtekkkmkhnphlhaaGreatDoor

/-! strings.IndexRune of a rune beyond ASCII in "+-": -1. -/
namespace Go.Proofs.YtekkkmkhnphlhaaGreatDoor
open Go.RowKit
set_option linter.unusedSimpArgs false
set_option linter.unusedVariables false
set_option maxRecDepth 100000

end Go.Proofs.YtekkkmkhnphlhaaGreatDoor

/-! strings.LastIndexAny(s, "+-"): of ASCII letters the last one of the two; of any it lies within. -/
namespace Go.Proofs.YtekkkmkhnphlhaaGreatDoor
open Go.RowKit
set_option linter.unusedSimpArgs false
set_option linter.unusedVariables false
set_option maxRecDepth 100000

/-- One of the two signs. -/
def pm (b : UInt8) : Bool := ([43, 45] : List UInt8).contains b
/-- What is known of the place. -/
def PmAt (l : List UInt8) (k : Int) : Prop :=
  -1 ≤ k ∧ k < l.length ∧ ((∀ b ∈ l, b.toNat < 128) → (∀ (j : Nat) (b : UInt8), k < j → l[j]? = some b → pm b = false) ∧ (∀ b, 0 ≤ k → l[k.toNat]? = some b → pm b = true))

/-- None behind it. -/
def NoPm (l : List UInt8) (n : Int) : Prop := ∀ (j : Nat) (b : UInt8), n < j → l[j]? = some b → pm b = false
theorem NoPm.step {l : List UInt8} {k : Nat} {x : UInt8} (h : NoPm l k) (hx : l[k]? = some x) (hp : pm x = false) : NoPm l ((k : Int) - 1) := by
  intro j b hj hb
  by_cases e : j = k
  · subst e; rw [hx] at hb; cases hb; exact hp
  · exact h j b (by omega) hb
theorem PmAt.hit {l : List UInt8} {k : Nat} {x : UInt8} (h : NoPm l k) (hx : l[k]? = some x) (hp : pm x = true) : PmAt l (k : Int) := by
  have hk : k < l.length := (List.getElem?_eq_some_iff.1 hx).1
  refine ⟨by omega, by omega, fun _ => ⟨h, fun b _ hb => ?_⟩⟩
  rw [Int.toNat_natCast, hx] at hb
  cases hb
  exact hp
theorem PmAt.gone {l : List UInt8} (h : NoPm l (-1)) : PmAt l (-1) := ⟨by omega, by omega, fun _ => ⟨h, fun b h0 _ => by omega⟩⟩

end Go.Proofs.YtekkkmkhnphlhaaGreatDoor
