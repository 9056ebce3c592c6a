import Derived.Test.YtmnllmbchpebbaaGreatDoorGe5
import Derived.Test.YtmnllmbchpebbaaGreatDoorGe0
import Derived.Test.YtmnllmbchpebbaaGreatDoorGe6
import Derived.Maps.OwnOps
import Derived.RegionTactic
import Derived.BigRegion
/-! check: what is known of a program; coming to a place. -/
namespace Go.Proofs.YtmnllmbchpebbaaGreatDoor
set_option linter.unusedSimpArgs false
set_option linter.unusedVariables false
open Go.RowKit Ga
set_option maxRecDepth 100000

def ints (l : List Int) : Array Value := (l.map (Value.int .i64)).toArray
/-! what operations take and leave, as a map -/
def effV : List Value → Option (DataW Unit × List MemPlace)
  | [.int .i64 a, .int .i64 b] => some (.agg [.lit (.int .i64 a), .lit (.int .i64 b)], [])
  | _ => none
def effR (v : Value) : Option (DataW Unit × List MemPlace) := match v with
  | .agg c => effV c.toList
  | _ => none
def effL : List (Int × Int × Int) := [(1, 0, 1), (2, 0, 1), (3, 0, 1), (4, 0, 1), (5, 1, 0), (13, 1, 0), (14, 1, 0), (15, 1, 0), (6, 2, 1), (7, 2, 1), (8, 2, 1), (17, 2, 1), (9, 1, 1), (10, 1, 1), (11, 1, 2), (12, 2, 2)]
def effDat (x : Int × Int) : DataW Unit := .agg [.lit (.int .i64 x.1), .lit (.int .i64 x.2)]
def effD : DataW Unit := effL.foldl (fun D x => D.put (.int .i64 x.1) (effDat x.2)) (.map [])
def EffAt (W : World) (bm : Nat) : Prop := W.ownsMap Tryz.prog 3 effR bm 16 effD
theorem EffAt.same {W W' : World} {bm : Nat} (h : EffAt W bm) (hb : W'.heap[bm]? = W.heap[bm]?) : EffAt W' bm := by
  obtain ⟨es, c, h1, h2⟩ := h
  exact ⟨es, c, by rw [hb]; exact h1, h2⟩
theorem EffAt.lt {W : World} {bm : Nat} (h : EffAt W bm) : bm < W.heap.size := World.ownsMap.lt h
theorem EffAt.grew {W W' : World} {bm : Nat} (h : EffAt W bm) (g : Grew W W') : EffAt W' bm := h.same (g.below.block bm h.lt)

section
variable {base B bd be bm cd ce : Nat} {vp : Value} {n : Nat} {W W' : World} {s : Vm.Cst}
end

/-- Blocks but three are as they were. -/
def Others (B bd be : Nat) (W W' : World) : Prop := W.heap.size ≤ W'.heap.size ∧ ∀ q, q < W.heap.size → q ≠ B → q ≠ bd → q ≠ be → W'.heap[q]? = W.heap[q]?
theorem Others.refl (B bd be : Nat) (W : World) : Others B bd be W W := ⟨Nat.le_refl _, fun _ _ _ _ _ => rfl⟩
theorem Others.set {B bd be b o : Nat} {W X : World} (h : Others B bd be W X) (hb : b = B ∨ b = bd ∨ b = be) (v : Value) : Others B bd be W (X.setCell ⟨b, o, none⟩ v) :=
  ⟨by rw [World.size_setCell]; exact h.1, fun q h0 h1 h2 h3 => by rw [set_other (by rintro rfl; rcases hb with h | h | h <;> contradiction)]; exact h.2 q h0 h1 h2 h3⟩
theorem Others.grew {B bd be : Nat} {W X Y : World} (h : Others B bd be W X) (g : Grew X Y) : Others B bd be W Y :=
  ⟨Nat.le_trans h.1 g.below.size, fun q h0 h1 h2 h3 => (g.below.block q (Nat.lt_of_lt_of_le h0 h.1)).trans (h.2 q h0 h1 h2 h3)⟩
theorem Others.trans {B bd be : Nat} {W X Y : World} (h : Others B bd be W X) (g : Others B bd be X Y) : Others B bd be W Y :=
  ⟨Nat.le_trans h.1 g.1, fun q h0 h1 h2 h3 => (g.2 q (Nat.lt_of_lt_of_le h0 h.1) h1 h2 h3).trans (h.2 q h0 h1 h2 h3)⟩
end Go.Proofs.YtmnllmbchpebbaaGreatDoor

/-! check: what operations take and leave; where an instruction leads on. -/
namespace Go
set_option linter.unusedSimpArgs false
set_option linter.unusedVariables false
open Go.Maps (Keyed)
end Go
namespace Go.Proofs.YtmnllmbchpebbaaGreatDoor
open Go.RowKit Ga
set_option maxRecDepth 100000

end Go.Proofs.YtmnllmbchpebbaaGreatDoor
