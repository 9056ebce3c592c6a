import Derived.Test.YtekkkmkhnphlhaaGreatDoorGh36
import Derived.Deep.QuietTactic
import Derived.BigQuiet
import Derived.Deep.LoopGhost
/-! pack.GetPlan: its steps lie in memory of its own. -/
namespace Go.Proofs.YtekkkmkhnphlhaaGreatDoor
set_option linter.unusedSimpArgs false
set_option linter.unusedVariables false
open Go.RowKit Ga
set_option maxRecDepth 100000

def IsSt (z : Gr.Stp) (v : Value) (w : World) : Prop := ∃ d : StC, v = .agg #[.int .i64 d.kind, .int .i64 d.c.id, .int .i64 d.c.kind, .slice d.c.af d.c.nf d.c.cf, .slice d.c.ap d.c.np d.c.cp, .int .i64 d.c.par, .int .i64 d.c.r0, .int .i64 d.c.r1, .int .i64 d.c.r2, .int .i64 d.c.r3, .int .i64 d.c.r4, .int .i64 d.c.r5, .int .i64 d.c.r6, .int .i64 d.c.r7, .bool d.reset] ∧ StepIs w d z
theorem IsSt.st (z : Gr.Stp) : ∀ v w w', IsSt z v w → Grew w w' → IsSt z v w' := fun _ _ _ ⟨d, h1, h2⟩ g => ⟨d, h1, h2.grew g⟩
end Go.Proofs.YtekkkmkhnphlhaaGreatDoor
