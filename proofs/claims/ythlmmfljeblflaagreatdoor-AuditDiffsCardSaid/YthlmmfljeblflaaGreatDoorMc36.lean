import Derived.Test.YthlmmfljeblflaaGreatDoorMc33
/-! lines: the document's example, written: a step. -/
namespace Go.Proofs.YthlmmfljeblflaaGreatDoor
set_option linter.unusedSimpArgs false
set_option linter.unusedVariables false
open Go.RowKit Ga
set_option maxRecDepth 100000

/-- a step that says S2 -/
def IsS2 (v : Value) (w : World) : Prop := ∃ (af : Option Addr) (cf : Nat) (ap : Option Addr) (cp : Nat), v = .agg #[.int .i64 2, .int .i64 2, .int .i64 2, .slice af 1 cf, .slice ap 0 cp, .int .i64 1, .int .i64 0, .int .i64 0, .int .i64 0, .int .i64 0, .int .i64 0, .int .i64 0, .int .i64 0, .int .i64 0, .bool false] ∧ NodeIs w ⟨2, 2, af, 1, cf, ap, 0, cp, 1, 0, 0, 0, 0, 0, 0, 0, 0⟩ N2
theorem IsS2.st : ∀ v w w', IsS2 v w → Grew w w' → IsS2 v w' := fun _ _ _ ⟨af, cf, ap, cp, h1, h2⟩ g => ⟨af, cf, ap, cp, h1, h2.grew g⟩
end Go.Proofs.YthlmmfljeblflaaGreatDoor
