import Derived.Test.YtekkkmkhnphlhaaGreatDoorGh4
import Derived.Test.YtekkkmkhnphlhaaGreatDoorGh0
import Derived.Test.YtekkkmkhnphlhaaGreatDoorGh2
import Derived.Test.YtekkkmkhnphlhaaGreatDoorGh6
import Derived.Lib.LaidTab
import Derived.Lib.ConvBytes
import Derived.WalkSmall
import Derived.Test.YtekkkmkhnphlhaaGreatDoorGh5
import Derived.DeepKeys4
import Derived.DeepKeys5
import Derived.Maps.Views
import Derived.Maps.OwnSet
import Derived.Maps.RangeWalk
import Derived.Deep.LoopGhost
/-! Texts of values. -/
namespace Go.Proofs.YtekkkmkhnphlhaaGreatDoor
set_option linter.unusedSimpArgs false
set_option linter.unusedVariables false
open Go.RowKit Ga

theorem grew_grow (w : World) (k : Nat) (os : Array Obj) : Grew w (Sort.grow (w.drewN k) os) := ⟨os, w.drawn + k, rfl⟩
theorem grew_bytes (w : World) (t : TypeId) (x : ByteArray) : Grew w (Lib.bytesWorld w t x) := by
  apply Grew.ofBelow
  unfold Lib.bytesWorld
  exact below_freeze (((Below.refl _ _).drew).alloc (Nat.le_refl _) _) (p := ⟨w.heap.size, _, none⟩) (Nat.le_refl w.heap.size) _

/-- The table that strconv.Itoa reads. -/
def Pow (w : World) : Prop := Lib.TabIs Tryz.prog w "internal/strconv.uint64pow10" .u64 Lib.pow10Tab
theorem gPow : Tryz.prog.globalNamed "internal/strconv.uint64pow10" = some 6 := by kernel_rfl

theorem var_grew {n : String} {cs : Array Value} {w w' : World} (h : w.var? Tryz.prog n = some cs) (g : Grew w w') : w'.var? Tryz.prog n = some cs := by
  cases hg : Tryz.prog.globalNamed n with
  | none => unfold World.var? at h; simp [hg] at h
  | some i =>
    by_cases hi : i < w.heap.size
    · exact var?_below g.below hg hi h
    · unfold World.var? at h
      have : w.heap[i]? = none := Array.getElem?_eq_none (by omega)
      simp [hg, this] at h
theorem Pow.grew {w w' : World} (h : Pow w) (g : Grew w w') : Pow w' := var_grew h g

theorem itoa_any (n : Int) (h : -9223372036854775808 ≤ n ∧ n ≤ 9223372036854775807) (w : World) (hp : Pow w) : Calls Tryz.prog 64 #[.int .i64 n] w (Gives (str (Lib.itoa n)) w) := by
  refine (Tryz.strconv_Itoa n h.1 h.2 w hp).mono ?_
  rintro e w' ⟨rfl, k, os, rfl⟩
  exact ⟨rfl, grew_grow w k os⟩

end Go.Proofs.YtekkkmkhnphlhaaGreatDoor

/-! What is kept: a map from places (a node, a key) to two values each, as a list of entries. -/
namespace Go.Proofs.YtekkkmkhnphlhaaGreatDoor
set_option linter.unusedSimpArgs false
set_option linter.unusedVariables false
open Go.RowKit Ga
set_option maxRecDepth 100000

/-- an entry's place is one -/
def There (x : Tab.En) : Prop := (0 ≤ x.node ∧ x.node < 8) ∧ (0 ≤ x.key ∧ x.key < 64)
theorem There.inj {x y : Tab.En} (hx : There x) (hy : There y) : Tab.num x = Tab.num y ↔ x.node = y.node ∧ x.key = y.key :=
  ⟨Tab.num_inj hx.2 hy.2, fun ⟨h1, h2⟩ => by unfold Tab.num; rw [h1, h2]⟩
end Go.Proofs.YtekkkmkhnphlhaaGreatDoor

/-! cell: there, Set, New. -/
namespace Go.Proofs.YtekkkmkhnphlhaaGreatDoor
set_option linter.unusedSimpArgs false
set_option linter.unusedVariables false
open Go.RowKit Ga
set_option maxRecDepth 100000

end Go.Proofs.YtekkkmkhnphlhaaGreatDoor

/-! cell.New: a table made of entries. -/
namespace Go.Proofs.YtekkkmkhnphlhaaGreatDoor
set_option linter.unusedSimpArgs false
set_option linter.unusedVariables false
open Go.RowKit Ga
set_option maxRecDepth 100000

end Go.Proofs.YtekkkmkhnphlhaaGreatDoor

/-! forebayref03.Text. -/
namespace Go.Proofs.YtekkkmkhnphlhaaGreatDoor
set_option linter.unusedSimpArgs false
set_option linter.unusedVariables false
open Go.RowKit Ga
set_option maxRecDepth 100000

end Go.Proofs.YtekkkmkhnphlhaaGreatDoor
