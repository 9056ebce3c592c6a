import Derived.Test.YtlgbipfpnfphjaaGreatDoorGb7
import Derived.Deep.DeepCutAuto
import Derived.Deep.CutBlock
import Derived.Test.YtlgbipfpnfphjaaGreatDoorGb6
import Derived.Test.YtlgbipfpnfphjaaGreatDoorGb9
import Derived.OwnWalk
import Derived.Laws.CopyOwn
import Derived.Deep.RegionLaw
import Derived.Test.YtlgbipfpnfphjaaGreatDoorGb5
import Derived.DeepKeys4
import Derived.DeepKeys5
import Derived.Maps.Views
import Derived.Deep.LoopGhost
import Derived.StillTailTactics
import Derived.Deep.QuietTactic
import Derived.BigQuiet
import Derived.Deep.RegionHeld3
/-! check.next and check.step. -/
namespace Go.Proofs.YtlgbipfpnfphjaaGreatDoor
set_option linter.unusedSimpArgs false
set_option linter.unusedVariables false
open Go.RowKit Ga
set_option maxRecDepth 100000

end Go.Proofs.YtlgbipfpnfphjaaGreatDoor

/-! slices.Repeat of one number. -/
namespace Go.Proofs.YtlgbipfpnfphjaaGreatDoor
set_option linter.unusedSimpArgs false
set_option linter.unusedVariables false
open Go.RowKit Ga
set_option maxRecDepth 100000

end Go.Proofs.YtlgbipfpnfphjaaGreatDoor

/-! check.Check and Safe. -/
namespace Go.Proofs.YtlgbipfpnfphjaaGreatDoor
set_option linter.unusedSimpArgs false
set_option linter.unusedVariables false
open Go.RowKit Ga
set_option maxRecDepth 100000

def ZerosAt (base n : Nat) (v : Value) (w : World) : Prop := ∃ g, v = .slice (some ⟨g, 0, none⟩) n n ∧ base ≤ g ∧ w.heap[g]? = some (.cells (ints (List.replicate n 0)) 3)
theorem ZerosAt.st (base n : Nat) : ∀ v w w', ZerosAt base n v w → Grew w w' → ZerosAt base n v w' := fun _ _ _ ⟨g, h1, h2, h3⟩ k => ⟨g, h1, h2, grew_heap k h3⟩
def EffV (base : Nat) (v : Value) (w : World) : Prop := ∃ bm, v = .map (some bm) ∧ base ≤ bm ∧ EffAt w bm
theorem EffV.st (base : Nat) : ∀ v w w', EffV base v w → Grew w w' → EffV base v w' := fun _ _ _ ⟨g, h1, h2, h3⟩ k => ⟨g, h1, h2, h3.grew k⟩
theorem EffAt.ne {W : World} {bm g : Nat} {c : Array Value} {t : TypeId} (h : EffAt W bm) (hg : W.heap[g]? = some (.cells c t)) : g ≠ bm := by
  rintro rfl
  obtain ⟨es, k, h1, _⟩ := h
  rw [hg] at h1
  cases h1

end Go.Proofs.YtlgbipfpnfphjaaGreatDoor

/-! forebayref05.take and leave. -/
namespace Go.Proofs.YtlgbipfpnfphjaaGreatDoor
set_option linter.unusedSimpArgs false
set_option linter.unusedVariables false
open Go.RowKit Ga
set_option maxRecDepth 100000

end Go.Proofs.YtlgbipfpnfphjaaGreatDoor

/-! A set of places, as a map that the call makes. -/
namespace Go.Proofs.YtlgbipfpnfphjaaGreatDoor
set_option linter.unusedSimpArgs false
set_option linter.unusedVariables false
open Go.RowKit Ga
set_option maxRecDepth 100000

abbrev Pl := Int × Int × Int
end Go.Proofs.YtlgbipfpnfphjaaGreatDoor

/-! What lies in memory while all ways are gone. -/
namespace Go.Proofs.YtlgbipfpnfphjaaGreatDoor
set_option linter.unusedSimpArgs false
set_option linter.unusedVariables false
open Go.RowKit Ga
set_option maxRecDepth 100000

section
variable {w wr W W' : World} {b2 b3 bm n : Nat} {vd vt v' : Value} {dep : List Int} {mx em : Int} {u0 u1 : Bool} {T M : List Pl}
end
end Go.Proofs.YtlgbipfpnfphjaaGreatDoor

/-! forebayref05.Check: frame, relation, the code taken out by functions. -/
namespace Go.Proofs.YtlgbipfpnfphjaaGreatDoor
set_option linter.unusedSimpArgs false
set_option linter.unusedVariables false
open Go.RowKit Ga
set_option maxRecDepth 100000
/-- What Check tells: whether it is safe, and more that nobody asks. -/
def RefCheck (l : List Val) (w : World) (e : Ending) (w' : World) : Prop := Grew w w' ∧ ∃ (d : Value) (n1 n2 : Int) (u1 u2 : Bool), e = .returned (.agg #[d, .int .i64 n1, .int .i64 n2, .bool u1, .bool u2, .bool (Vm.safe l)])
theorem RefCheck.mk {l : List Val} {w w' : World} {d : Value} {n1 n2 : Int} {u1 u2 b : Bool} (h : Vm.safe l = b) (hg : Grew w w') : RefCheck l w (.returned (.agg #[d, .int .i64 n1, .int .i64 n2, .bool u1, .bool u2, .bool b])) w' :=
  ⟨hg, d, n1, n2, u1, u2, by rw [h]⟩
def starts9 (n : Nat) : Code → Bool
  | .region k _ _ => k == n
  | .seq a _ => starts9 n a
  | _ => false
/-- the code from region n on -/
def from9 (n : Nat) : Code → Option Code
  | .seq a b => if starts9 n a then some (.seq a b) else match from9 n a with
    | some c => some c
    | none => from9 n b
  | .loop c => from9 n c
  | .block _ c => from9 n c
  | .scope c => from9 n c
  | .cond _ a b => match from9 n a with
    | some c => some c
    | none => from9 n b
  | _ => none
end Go.Proofs.YtlgbipfpnfphjaaGreatDoor

/-! forebayref05.Check: a round, from the place behind on. -/
namespace Go.Proofs.YtlgbipfpnfphjaaGreatDoor
set_option linter.unusedSimpArgs false
set_option linter.unusedVariables false
open Go.RowKit Ga
set_option maxRecDepth 100000

end Go.Proofs.YtlgbipfpnfphjaaGreatDoor

/-! forebayref05.Check: a round, from the depth's store on. -/
namespace Go.Proofs.YtlgbipfpnfphjaaGreatDoor
set_option linter.unusedSimpArgs false
set_option linter.unusedVariables false
open Go.RowKit Ga
set_option maxRecDepth 100000

end Go.Proofs.YtlgbipfpnfphjaaGreatDoor

/-! forebayref05.Check: a round. -/
namespace Go.Proofs.YtlgbipfpnfphjaaGreatDoor
set_option linter.unusedSimpArgs false
set_option linter.unusedVariables false
open Go.RowKit Ga
set_option maxRecDepth 100000

end Go.Proofs.YtlgbipfpnfphjaaGreatDoor

/-! forebayref05.Check. -/
namespace Go.Proofs.YtlgbipfpnfphjaaGreatDoor
set_option linter.unusedSimpArgs false
set_option linter.unusedVariables false
open Go.RowKit Ga
set_option maxRecDepth 100000
end Go.Proofs.YtlgbipfpnfphjaaGreatDoor
