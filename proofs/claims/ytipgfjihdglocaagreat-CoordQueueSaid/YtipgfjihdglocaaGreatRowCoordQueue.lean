/-
  The statement CoordQueue: called with any graph, any plans and any turns the law returns true, and each argument reads afterwards as it read before. Conditions: none.
-/
import Derived.Test.YtipgfjihdglocaaGreatLawQueueGo
import Derived.Test.YtipgfjihdglocaaGreatOpenQueue
import Derived.Test.YtipgfjihdglocaaGreatRows
namespace Go.Proofs.YtipgfjihdglocaaGreat.coordQueue
set_option linter.unusedSimpArgs false
set_option linter.unusedVariables false
open Go.ChangeShapes Go.WideShapes Go.ChangeAt Go.RowKit

theorem laid23 : laidOutB Tryz.prog = true := by kernel_rfl

theorem own : ownKnob Tryz.prog.godebug = none := by kernel_rfl

set_option maxRecDepth 100000 in
theorem lifted (os : Os) (started : os.Started) (H : Type) (enc : TypeId × Value → H) :
    ReturnsInHanded {} Tryz.checked os 3 .any (Rows.coordQueueSpec.pre6 enc Tryz.prog Tryz.f3 Rows.coordQueueRow.domain false) (Rows.coordQueueSpec.post enc Tryz.prog Tryz.f3 false true false false) := by
  refine returnsInHanded_of_change (C := Tryz.checked) own started (by kernel_rfl) Tryz.func3
    (ChangeSpec.witness6 (enc := enc) (C := Tryz.checked) false ⟨#[], #[.slice none 0 0, .slice none 0 0, .slice none 0 0], []⟩ 8 (by kernel_rfl) (by kernel_rfl) (by kernel_rfl) (by kernel_rfl)) ?_
  intro W base args ds gs before hval0 hW _ _
  have hval : ∀ (j : Nat) t v, Tryz.f3.params[j]? = some t → args[j]? = some v → Value.okWide Tryz.prog W .any base t v := hval0
  have hW' := hW
  obtain ⟨p, q, hA0, hV, rfl, _, _⟩ := hW
  have hA : DataW.TrodAll enc Tryz.prog W 0 (fun _ => true) true Tryz.f3.params.toList args.toList ds p := hA0
  rw [Tryz.params3] at hA hval
  obtain ⟨v0, v1, v2, d0, d1, d2, p0, p1, p2, hargs, rfl, rfl, h0, h1, h2⟩ := trodAll_three hA
  obtain rfl : args = #[v0, v1, v2] := by cases args; simp_all
  obtain ⟨g, hg0⟩ := arg_nodes (hval 0 _ _ rfl rfl) h0
  obtain ⟨l, hl0⟩ := arg_plans (hval 1 _ _ rfl rfl) h1
  obtain ⟨bs, hb0⟩ := arg_flags (hval 2 _ _ rfl rfl) h2
  refine (coordQueue_any v0 v1 v2 g l bs W hg0 hl0 hb0).mono fun e W' he => ?_
  obtain ⟨rfl, hg⟩ := he
  exact ⟨_, rfl, law_post laid23 (by kernel_rfl) rfl rfl Tryz.underlying4 hW' (fun gs h => by subst h; rfl) hg⟩

theorem holds : Rows.CoordQueueSaid :=
  OpenClaim.holds_of_wide 3 Tryz.f3 rfl rfl rfl rfl rfl rfl rfl ⟨rfl, rfl, rfl, rfl, rfl⟩ rfl rfl rfl rfl rfl (by kernel_rfl) Tryz.func3 (by kernel_rfl)
    (of_decide_eq_true (by kernel_rfl)) (by unfold Func.isWrapper; rw [if_neg (of_decide_eq_false (by kernel_rfl))]; exact ⟨rfl, rfl⟩)
    (fun os started H enc _ => lifted os started H enc)
#print axioms holds
end Go.Proofs.YtipgfjihdglocaaGreat.coordQueue
