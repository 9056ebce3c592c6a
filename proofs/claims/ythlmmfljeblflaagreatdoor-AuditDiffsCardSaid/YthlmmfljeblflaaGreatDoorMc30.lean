import Derived.Test.YthlmmfljeblflaaGreatDoorMc10
import Derived.Test.YthlmmfljeblflaaGreatDoorMc20
import Derived.Test.YthlmmfljeblflaaGreatDoorMc26
import Derived.Test.YthlmmfljeblflaaGreatDoorMc6
import Derived.Deep.QuietTactic
import Derived.BigQuiet
import Derived.Deep.RegionHeld3
/-! What a gathering is in memory. -/
namespace Go.Proofs.YthlmmfljeblflaaGreatDoor
set_option linter.unusedSimpArgs false
set_option linter.unusedVariables false
open Go.RowKit Ga
set_option maxRecDepth 100000

/-- an acknowledgement as it lies -/
structure AkC where
  node : Int
  ix : Int
  ep : Int
  ae : Option Addr
  ne : Nat
  ce : Nat
  ax : Option Addr
  nx : Nat
  cx : Nat
  off : Int
def AkC.zero : AkC := ⟨0, 0, 0, none, 0, 0, none, 0, 0, 0⟩
end Go.Proofs.YthlmmfljeblflaaGreatDoor

/-! snap: all, New, Epoch, Missing. -/
namespace Go.Proofs.YthlmmfljeblflaaGreatDoor
set_option linter.unusedSimpArgs false
set_option linter.unusedVariables false
open Go.RowKit Ga
set_option maxRecDepth 100000

def SlLen (n : Nat) (v : Value) (_ : World) : Prop := ∃ a c, v = .slice a n c
theorem SlLen.st (n : Nat) : ∀ v w w', SlLen n v w → Grew w w' → SlLen n v w' := fun _ _ _ h _ => h
end Go.Proofs.YthlmmfljeblflaaGreatDoor
