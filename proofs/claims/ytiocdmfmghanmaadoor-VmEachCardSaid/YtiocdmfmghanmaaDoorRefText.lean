import Derived.Test.YtiocdmfmghanmaaDoorGaussText
import Derived.Test.YtiocdmfmghanmaaDoorTextMath
/-! forebayref03.Text. -/
namespace Go.Proofs.YtiocdmfmghanmaaDoor
set_option linter.unusedSimpArgs false
set_option linter.unusedVariables false
open Go.RowKit Ga
set_option maxRecDepth 100000

theorem textL_lt {x y : Int} (h : y < 0) : Tx.textL x y = Lib.itoa x ++ Lib.itoa y ++ [105] := by unfold Tx.textL; rw [if_pos h]; simp
theorem textL_ge {x y : Int} (h : ¬ y < 0) : Tx.textL x y = Lib.itoa x ++ [43] ++ Lib.itoa y ++ [105] := by unfold Tx.textL; rw [if_neg h]

set_option maxHeartbeats 1000000 in
theorem refText_any (x y : Int) (h : okVal (x, y)) (w : World) : Calls Tryd.prog 16 #[.agg #[.int .i64 x, .int .i64 y]] w (Gives (str (Tx.textL x y)) w) := by
  obtain ⟨hx, hy⟩ := h
  simp only at hx hy
  have l1 := itoa_len x (by omega)
  have l2 := itoa_len y (by omega)
  by_cases hneg : y < 0
  · go_enter Tryd.func16, Tryd.ntmps16
    go_wp2
    refine wp_region_seq 9 Tryd.mixed (by kernel_rfl) (by kernel_rfl) ?_
    iterate 9
      apply Seq.val
      focus
        rintro w1 u ⟨R1, n1, rfl⟩ hF
        simp [moreFacts, Fact.more, Oper.deps, Region.binds, List.filter_cons, World.more_drew] at hF
        simp [putFacts, Oper.deps, Region.binds, List.filter_cons, Region.dstOf, Fact.at, Act.put, World.more_drew]
        go_wp2_with (first
          | (go_at_call 47; refine (digits_any _ (by omega) _).mono ?_; rintro e w1 ⟨rfl, rfl⟩)
          )
        exact ⟨by repeat (first | with_reducible exact Grew.refl _ | apply Grew.more | apply Grew.alloc | apply Grew.drew | apply Grew.drewN), rfl, _, _, rfl, rfl, rfl⟩
    rintro u w1 ⟨R1, n1, rfl⟩ hF
    clear hF
    simp [putFacts, Region.dstOf, Fact.at, Act.put, List.range_succ, World.more_drew]
    go_wp2
    go_ret
    refine ⟨?_, ?_⟩
    · rw [textL_lt hneg]
      exact congrArg (fun b => Ending.returned (Value.string b)) (by first | (rw [← str_cat, ← str_cat]; done) | (rw [← str_cat, ← str_cat]; rfl))
    · repeat (first | with_reducible exact Grew.refl _ | apply Grew.more | apply Grew.alloc | apply Grew.drew | apply Grew.drewN)
  · go_enter Tryd.func16, Tryd.ntmps16
    go_wp2
    refine wp_region_seq 10 Tryd.mixed (by kernel_rfl) (by kernel_rfl) ?_
    iterate 10
      apply Seq.val
      focus
        rintro w1 u ⟨R1, n1, rfl⟩ hF
        simp [moreFacts, Fact.more, Oper.deps, Region.binds, List.filter_cons, World.more_drew] at hF
        simp [putFacts, Oper.deps, Region.binds, List.filter_cons, Region.dstOf, Fact.at, Act.put, World.more_drew]
        go_wp2_with (first
          | (go_at_call 47; refine (digits_any _ (by omega) _).mono ?_; rintro e w1 ⟨rfl, rfl⟩)
          )
        exact ⟨by repeat (first | with_reducible exact Grew.refl _ | apply Grew.more | apply Grew.alloc | apply Grew.drew | apply Grew.drewN), rfl, _, _, rfl, rfl, rfl⟩
    rintro u w1 ⟨R1, n1, rfl⟩ hF
    clear hF
    simp [putFacts, Region.dstOf, Fact.at, Act.put, List.range_succ, World.more_drew]
    go_wp2
    go_ret
    refine ⟨?_, ?_⟩
    · rw [textL_ge (by omega)]
      exact congrArg (fun b => Ending.returned (Value.string b)) (by first | (rw [← str_cat, ← str_cat, ← str_cat]; done) | (rw [← str_cat, ← str_cat, ← str_cat]; rfl))
    · repeat (first | with_reducible exact Grew.refl _ | apply Grew.more | apply Grew.alloc | apply Grew.drew | apply Grew.drewN)
end Go.Proofs.YtiocdmfmghanmaaDoor
