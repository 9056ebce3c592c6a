import Derived.Test.YtiocdmfmghanmaaDoorGaussText
import Derived.Test.YtiocdmfmghanmaaDoorTextMath
import Derived.Test.YtiocdmfmghanmaaDoorAwake03
/-! The law GaussOrder, walked. -/
namespace Go.Proofs.YtiocdmfmghanmaaDoor
open Go.RowKit Ga

theorem textV_textL (a : Val) : textV a = Tx.textL (into a.1) (into a.2) := rfl
theorem textV_right_inj (a b : Val) : (decide (textV (into a.1, into a.2) = textV (into b.1, into b.2))) = (decide (into a.1 = into b.1) && decide (into a.2 = into b.2)) := by
  rw [textV_textL, textV_textL]
  simp only [into_into]
  by_cases h : into a.1 = into b.1 ∧ into a.2 = into b.2
  · rw [h.1, h.2]; simp
  · have h1 : ¬ Tx.textL (into a.1) (into a.2) = Tx.textL (into b.1) (into b.2) := fun e => h (Tx.textL_inj e)
    rw [decide_eq_false h1]
    by_cases h2 : into a.1 = into b.1
    · have : ¬ into a.2 = into b.2 := fun e => h ⟨h2, e⟩
      simp [this]
    · simp [h2]

theorem less_conj (a b : Val) : lessV (conjV a) (conjV b) = lessV a b := by
  unfold lessV conjV
  simp only [into_into]

set_option maxRecDepth 100000 in
set_option maxHeartbeats 40000000 in
theorem gaussOrder_any (a b : Val) (w : World) (hp : Pow w) : Calls Tryd.prog 3 #[vv a, vv b] w (Gives (.bool true) w) := by
  have HP := Lib.hid hp
  clear hp
  have hc := less_conj a b
  have ht : (textV (into a.1, into a.2) == textV (into b.1, into b.2)) = (decide (into a.1 = into b.1) && decide (into a.2 = into b.2)) := by rw [← textV_right_inj a b]; rw [Bool.eq_iff_iff, beq_iff_eq, decide_eq_true_iff]
  have hv := run_eql_val (into a.1) (into a.2) (into b.1) (into b.2) _ rfl
  generalize (decide (into a.1 = into b.1) && decide (into a.2 = into b.2)) = q at ht hv
  have h3 : (into a.1 < into b.1 ∧ lessV a b = true ∧ lessV b a = false) ∨ (into a.1 = into b.1 ∧ lessV a b = false ∧ lessV b a = false) ∨ (into b.1 < into a.1 ∧ lessV a b = false ∧ lessV b a = true) := by
    unfold lessV
    rcases Int.lt_trichotomy (into a.1) (into b.1) with h | h | h
    · exact .inl ⟨h, decide_eq_true h, decide_eq_false (by omega)⟩
    · exact .inr (.inl ⟨h, decide_eq_false (by omega), decide_eq_false (by omega)⟩)
    · exact .inr (.inr ⟨h, decide_eq_false (by omega), decide_eq_true h⟩)
  rcases h3 with ⟨h, l1, l2⟩ | ⟨h, l1, l2⟩ | ⟨h, l1, l2⟩
  all_goals
    first
      | have hn : (into a.1 != into b.1) = true := by rw [bne_iff_ne]; omega
      | have hn : (into a.1 != into b.1) = false := by rw [h]; simp
    rw [l1] at hc
    clear h
    go_enter Tryd.func3, Tryd.ntmps3
    go_wp2_with (first
      | (go_at_call 9; refine (awake03_any _).mono ?_; rintro e w1 ⟨rfl, R2, n2, rfl⟩)
      | (go_at_call 11; refine (less_any _ _ _).mono ?_; rintro e w1 ⟨rfl, R2, n2, rfl⟩)
      | (go_at_call 10; refine (of_any _ _ _).mono ?_; rintro e w1 ⟨rfl, R2, n2, rfl⟩))
    -- x, y := gauss.Of(..), gauss.Of(..): two new blocks, in whatever order
    refine wp_region_seq 12 Tryd.mixed (by kernel_rfl) (by kernel_rfl) ?_
    iterate 10
      apply Seq.val
      focus
        rintro w1 u ⟨R1, n1, rfl⟩ hF
        simp [moreFacts, Fact.more, Oper.deps, Region.binds, List.filter_cons, World.more_drew] at hF
        simp [putFacts, Oper.deps, Region.binds, List.filter_cons, Region.dstOf, Fact.at, Act.put, World.more_drew]
        go_wp2_with (first
          | (go_at_call 10; refine (of_any _ _ _).mono ?_; rintro e w1 ⟨rfl, R3, n3, rfl⟩)
          )
        exact ⟨by repeat (first | exact Grew.refl _ | apply Grew.more | apply Grew.alloc | apply Grew.drew), rfl, _, _, rfl, rfl, rfl⟩
    apply Seq.new #[.int .i64 0, .int .i64 0] 23
    focus
      rintro w1 u ⟨R1, n1, rfl⟩ hF
      clear hF
      simp [putFacts, Oper.deps, Region.binds, List.filter_cons, Region.dstOf, Fact.at, Act.put, World.more_drew]
      go_wp2
      exact ⟨by repeat (first | exact Grew.refl _ | apply Grew.more | apply Grew.alloc | apply Grew.drew), rfl, _, _, rfl, rfl, _, rfl, heap_new_at _ _ _ (by simp [go_sem]), by simp [go_sem], by simp [go_sem]⟩
    apply Seq.new #[.int .i64 0, .int .i64 0] 23
    focus
      rintro w1 u ⟨R1, n1, rfl⟩ hF
      clear hF
      simp [putFacts, Oper.deps, Region.binds, List.filter_cons, Region.dstOf, Fact.at, Act.put, World.more_drew]
      go_wp2
      exact ⟨by repeat (first | exact Grew.refl _ | apply Grew.more | apply Grew.alloc | apply Grew.drew), rfl, _, _, rfl, rfl, _, rfl, heap_new_at _ _ _ (by simp [go_sem]), by simp [go_sem], by simp [go_sem]⟩
    rintro u w1 ⟨R1, n1, rfl⟩ hF
    simp [moreFacts, apartFacts, Fact.more, Fact.isNew, List.range_succ, IsNew, World.more_drew] at hF
    obtain ⟨⟨⟨b5, e5, h5, s5⟩, ⟨b6, e6, h6, s6⟩⟩, hne⟩ := hF
    obtain ⟨p5, c5, f5⟩ := in_of_heap h5 (by simpa [go_sem] using s5)
    obtain ⟨p6, c6, f6⟩ := in_of_heap h6 (by simpa [go_sem] using s6)
    rw [e5, e6] at hne
    have hb : b5 ≠ b6 := fun e => hne (by rw [e])
    have hb' : b6 ≠ b5 := fun e => hne (by rw [e])
    simp [go_sem] at p5 p6 c5 c6 f5 f6
    clear h5 h6 s5 s6 hne
    simp [putFacts, Region.dstOf, Fact.at, Act.put, List.range_succ, World.more_drew, e5, e6]
    clear e5 e6
    go_wp2_with fail
    obtain ⟨R9, hR9, q5, q6, d50, d51, d60, d61⟩ := two_filled (w.heap.size + 1 + 1 + R2.size) R1 b5 b6 (.int .i64 (into a.1)) (.int .i64 (into a.2)) (.int .i64 (into b.1)) (.int .i64 (into b.2)) p5 p6 hb (by rw [c5]; rfl) (by rw [c5]; rfl) (by rw [c6]; rfl) (by rw [c6]; rfl)
    rw [hR9]
    clear hR9 p5 p6 c5 c6 f5 f6
    go_wp2_with (first
      | (go_at_call 11; refine (less_any _ _ _).mono ?_; rintro e w1 ⟨rfl, R2, n2, rfl⟩))
    refine wp_region_seq 38 Tryd.mixed (by kernel_rfl) (by kernel_rfl) ?_
    iterate 38
      apply Seq.val
      focus
        rintro w1 u ⟨R1, n1, rfl⟩ hF
        simp [moreFacts, Fact.more, Oper.deps, Region.binds, List.filter_cons, World.more_drew] at hF
        simp [putFacts, Oper.deps, Region.binds, List.filter_cons, Region.dstOf, Fact.at, Act.put, World.more_drew]
        go_wp2_with (first
          | (go_at_call 12; refine (text_xy _ _ _ (HP.out.grew (by repeat (first | with_reducible exact Grew.refl _ | apply Grew.more | apply Grew.alloc | apply Grew.drew | apply Grew.drewN)))).mono ?_; rintro e w1 ⟨rfl, R3, n3, rfl⟩)
          | (go_at_call 13; refine (conj_any _ _).mono ?_; rintro e w1 ⟨rfl, R3, n3, rfl⟩)
          | (go_at_call 11; refine (less_any _ _ _).mono ?_; rintro e w1 ⟨rfl, R3, n3, rfl⟩)
          )
        exact ⟨by repeat (first | with_reducible exact Grew.refl _ | apply Grew.more | apply Grew.alloc | apply Grew.drew | apply Grew.drewN), rfl, _, _, rfl, rfl, rfl⟩
    rintro u w1 ⟨R1, n1, rfl⟩ hF
    clear hF
    simp [putFacts, Region.dstOf, Fact.at, Act.put, List.range_succ, World.more_drew]
    go_wp2
    go_ret
    refine ⟨rfl, ?_⟩
    repeat (first | exact Grew.refl _ | apply Grew.more | apply Grew.alloc | apply Grew.drew)
end Go.Proofs.YtiocdmfmghanmaaDoor

