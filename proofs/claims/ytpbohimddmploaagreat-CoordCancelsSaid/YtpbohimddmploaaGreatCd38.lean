import Derived.Test.YtpbohimddmploaaGreatCd35
import Derived.Test.YtpbohimddmploaaGreatCd34
import Derived.Test.YtpbohimddmploaaGreatCd12
set_option linter.unusedSimpArgs false
set_option linter.unusedVariables false
set_option maxRecDepth 100000
set_option maxHeartbeats 64000000
namespace Go.Proofs.YtpbohimddmploaaGreat
open Go.RowKit Ga

theorem pass1_right : Gr.RightR passL1 := by
  refine ⟨by decide, ?_, by decide, ?_⟩
  · intro i n h
    match i with
    | 0 =>
      cases h
      refine ⟨by decide, by decide, rfl, by decide, by decide, by decide, by decide, by decide, by decide, by decide, by decide, by decide, by decide, by decide, by decide, ?_⟩
      intro k f hk
      cases hk
    | 1 =>
      cases h
      refine ⟨by decide, by decide, rfl, by decide, by decide, by decide, by decide, by decide, by decide, by decide, by decide, by decide, by decide, by decide, by decide, ?_⟩
      intro k f hk
      match k with
      | 0 =>
        cases hk
        exact ⟨⟨0, _, rfl, rfl, by decide⟩, by simp⟩
      | k + 1 => cases hk
    | i + 2 => cases h
  · intro n hn
    simp only [passL1, List.mem_cons, List.not_mem_nil, or_false] at hn
    rcases hn with rfl | rfl <;> rfl
theorem pass1_small : Small passL1 := by unfold Small; decide
theorem pass1_tasks : (tasksOf passL1).length = 2 := by decide
end Go.Proofs.YtpbohimddmploaaGreat
