import Derived.Test.YtipgfjihdglocaaGreatCq48
import Derived.Test.YtipgfjihdglocaaGreatLawQueue
/-! Truths as an argument. -/
namespace Go.Proofs.YtipgfjihdglocaaGreat
set_option linter.unusedSimpArgs false
set_option linter.unusedVariables false
set_option maxRecDepth 100000
open Go.RowKit Ga Go.ChangeShapes Go.WideShapes

theorem arg_flags {H : Type} {enc : TypeId × Value → H} {w : World} {v : Value} {d : DataW H} {ps : List MemPlace} {r : Reach} {b : Nat} (ho : Value.okWide Tryz.prog w r b 24 v) (h : DataW.Trod enc Tryz.prog w 0 (fun _ => true) true 24 v d ps) : ∃ l, FlagsAt w v l := by
  obtain ⟨l, u, h1, h2⟩ := (Opens.slice Tryz.underlying24 cells_bool1 (by decide) opens_bool1).arg h
  obtain rfl := cells_slice Tryz.underlying24 ho h1
  exact ⟨_, (SlAt.rowsC (enc := encFl) h2).1⟩
end Go.Proofs.YtipgfjihdglocaaGreat
