import Derived.Test.YtmdmbimfdpngaaaGreatDoorShelf
import Derived.Test.YtmdmbimfdpngaaaGreatDoorMc2
import Derived.Test.YtmdmbimfdpngaaaGreatDoorMc5
import Derived.Scope
import Derived.Laws.RangeString
import Derived.Lib.TrimU
import Derived.Lib.TrimAscii
import Derived.Lib.AsciiSet
import Derived.Lib.Hide
import Derived.Deep.WholeRow
import Derived.Test.YtmdmbimfdpngaaaGreatDoorMc11
import Derived.Test.YtmdmbimfdpngaaaGreatDoorMc7
import Derived.Lib.AtoiTie
import Derived.Lib.PathFns
/-! strings.IndexRune of a rune beyond ASCII in "+-": -1. -/
namespace Go.Proofs.YtmdmbimfdpngaaaGreatDoor
open Go.RowKit
set_option linter.unusedSimpArgs false
set_option linter.unusedVariables false
set_option maxRecDepth 100000

end Go.Proofs.YtmdmbimfdpngaaaGreatDoor

/-! strings.LastIndexAny(s, "+-"): of ASCII letters the last one of the two; of any it lies within. -/
namespace Go.Proofs.YtmdmbimfdpngaaaGreatDoor
open Go.RowKit
set_option linter.unusedSimpArgs false
set_option linter.unusedVariables false
set_option maxRecDepth 100000

/-- One of the two signs. -/
def pm (b : UInt8) : Bool := ([43, 45] : List UInt8).contains b
/-- What is known of the place. -/
def PmAt (l : List UInt8) (k : Int) : Prop :=
  -1 ≤ k ∧ k < l.length ∧ ((∀ b ∈ l, b.toNat < 128) → (∀ (j : Nat) (b : UInt8), k < j → l[j]? = some b → pm b = false) ∧ (∀ b, 0 ≤ k → l[k.toNat]? = some b → pm b = true))

/-- None behind it. -/
def NoPm (l : List UInt8) (n : Int) : Prop := ∀ (j : Nat) (b : UInt8), n < j → l[j]? = some b → pm b = false
theorem NoPm.step {l : List UInt8} {k : Nat} {x : UInt8} (h : NoPm l k) (hx : l[k]? = some x) (hp : pm x = false) : NoPm l ((k : Int) - 1) := by
  intro j b hj hb
  by_cases e : j = k
  · subst e; rw [hx] at hb; cases hb; exact hp
  · exact h j b (by omega) hb
theorem PmAt.hit {l : List UInt8} {k : Nat} {x : UInt8} (h : NoPm l k) (hx : l[k]? = some x) (hp : pm x = true) : PmAt l (k : Int) := by
  have hk : k < l.length := (List.getElem?_eq_some_iff.1 hx).1
  refine ⟨by omega, by omega, fun _ => ⟨h, fun b _ hb => ?_⟩⟩
  rw [Int.toNat_natCast, hx] at hb
  cases hb
  exact hp
theorem PmAt.gone {l : List UInt8} (h : NoPm l (-1)) : PmAt l (-1) := ⟨by omega, by omega, fun _ => ⟨h, fun b h0 _ => by omega⟩⟩

end Go.Proofs.YtmdmbimfdpngaaaGreatDoor

/-! gauss.Parse. -/
namespace Go.Proofs.YtmdmbimfdpngaaaGreatDoor
open Go.RowKit Ga
set_option linter.unusedSimpArgs false
set_option linter.unusedVariables false
set_option maxRecDepth 100000

/-- What strconv's errors are. -/
def Errs (w : World) : Prop := (∃ tp p, w.var? Tryz.prog "strconv.ErrSyntax" = some #[.iface tp p]) ∧ (∃ tp p, w.var? Tryz.prog "strconv.ErrRange" = some #[.iface tp p])
theorem Errs.grew {w w' : World} (h : Errs w) (g : Grew w w') : Errs w' := by
  obtain ⟨⟨t, p, h1⟩, ⟨t2, p2, h2⟩⟩ := h
  exact ⟨⟨t, p, var_grew h1 g⟩, ⟨t2, p2, var_grew h2 g⟩⟩

end Go.Proofs.YtmdmbimfdpngaaaGreatDoor
