import Derived.Test.YtiocdmfmghanmaaGreatDoorGauss
/-! The contracts of package gauss, part two. -/
namespace Go.Proofs.YtiocdmfmghanmaaGreatDoor
set_option linter.unusedSimpArgs false
set_option linter.unusedVariables false
open Go.RowKit Ga

set_option maxHeartbeats 1000000 in
theorem sub_any (a b : Val) (w : World) : Calls Tryz.prog 76 #[vv a, vv b] w (Gives (vv (subV a b)) w) := by
  obtain ⟨x, y⟩ := a
  obtain ⟨p, q⟩ := b
  obtain ⟨re, im, hm1, q1, q2, q3, q4⟩ := csub (into x) (into y) (into p) (into q) (into_range _) (into_range _) (into_range _) (into_range _)
  go_enter Tryz.func76, Tryz.ntmps76
  go_wp2
  refine wp_region_seq 6 Tryz.mixed (by kernel_rfl) (by kernel_rfl) ?_
  iterate 6
    apply Seq.val
    focus
      rintro w1 u ⟨R1, n1, rfl⟩ -
      simp [putFacts, Oper.deps, Region.binds, List.filter_cons, Region.dstOf, Fact.at, Act.put, World.more_drew]
      go_wp2_with (first
      | (go_at_call 74; refine (number_any _ _ _).mono ?_; rintro e w1 ⟨rfl, R1, n1, rfl⟩)
      | (go_at_call 96; refine (value_any re im _ _ q1 q2 _ q3 q4).mono ?_; rintro e w1 ⟨rfl, R1, n1, rfl⟩))
      exact ⟨by repeat (first | exact Grew.refl _ | apply Grew.more | apply Grew.alloc | apply Grew.drew), rfl, _, _, rfl, rfl, rfl⟩
  · rintro u w1 ⟨R1, n1, rfl⟩ -
    simp [putFacts, Region.dstOf, Fact.at, Act.put, List.range_succ, World.more_drew]
    go_wp2
    refine bodyPost_ret (v := vv (subV (x, y) (p, q))) (by simp [results, Tryz.results76, go_sem, subV]) rfl ⟨rfl, ?_⟩
    repeat (first | exact Grew.refl _ | apply Grew.more | apply Grew.alloc | apply Grew.drew)

theorem run_neg_float {P : Program} (k : FloatKind) (b : Nat) (w : World) : (Op.unary .neg (.float k b)).run P w = .ok (.float k (Op.negFloat k b)) w := rfl

theorem fl_zero : fl 0 = 0 := by decide +kernel
theorem fl_one : fl 1 = 4607182418800017408 := by decide +kernel

set_option maxHeartbeats 1000000 in
theorem conj_any (a : Val) (w : World) : Calls Tryz.prog 79 #[vv a] w (Gives (vv (conjV a)) w) := by
  obtain ⟨x, y⟩ := a
  have hx := into_range x
  have hy := into_range y
  have q1 := fl_rep (into x) (by omega)
  have q2 : Fl.Rep (Op.negFloat .f64 (fl (into y))) (-into y) := Fl.Rep.neg (fl_rep (into y) (by omega))
  have hn := fun w => run_neg_float (P := Tryz.prog) .f64 (fl (into y)) w
  go_enter Tryz.func79, Tryz.ntmps79
  go_wp2_with (first
    | (go_at_call 74; refine (number_any _ _ _).mono ?_; rintro e w1 ⟨rfl, R1, n1, rfl⟩)
    | (go_at_call 96; refine (value_any _ _ _ _ q1 q2 _ (by omega) (by omega)).mono ?_; rintro e w1 ⟨rfl, R1, n1, rfl⟩))
  refine bodyPost_ret (v := vv (conjV (x, y))) (by simp [results, Tryz.results79, go_sem, conjV]) rfl ⟨rfl, ?_⟩
  repeat (first | exact Grew.refl _ | apply Grew.more | apply Grew.alloc | apply Grew.drew)

set_option maxHeartbeats 1000000 in
theorem turn_any (a : Val) (w : World) : Calls Tryz.prog 80 #[vv a] w (Gives (vv (turnV a)) w) := by
  obtain ⟨x, y⟩ := a
  obtain ⟨re, im, hm1, q1, q2, q3, q4⟩ := cmul (into x) (into y) 0 1 (into_range _) (into_range _) (by decide) (by decide)
  rw [fl_zero, fl_one] at hm1
  go_enter Tryz.func80, Tryz.ntmps80
  go_wp2_with (first
    | (go_at_call 74; refine (number_any _ _ _).mono ?_; rintro e w1 ⟨rfl, R1, n1, rfl⟩)
    | (go_at_call 96; refine (value_any _ _ _ _ q1 q2 _ q3 q4).mono ?_; rintro e w1 ⟨rfl, R1, n1, rfl⟩))
  refine bodyPost_ret (v := vv (turnV (x, y))) (by simp [results, Tryz.results80, go_sem, turnV]) rfl ⟨rfl, ?_⟩
  repeat (first | exact Grew.refl _ | apply Grew.more | apply Grew.alloc | apply Grew.drew)

theorem order_eq (a b : Int) (ha : In a) (hb : In b) : (FloatKind.f64.format.order (fl a) (fl b) == some .eq) = decide (a = b) := by
  rw [show FloatKind.f64.format.order (fl a) (fl b) = some (compare a b) from Fl.Rep.order (fl_rep a (by omega)) (fl_rep b (by omega))]
  by_cases h : a = b
  · rw [decide_eq_true h, Int.compare_eq_eq.2 h]; rfl
  · rw [decide_eq_false h, beq_eq_false_iff_ne]
    intro hc
    exact h (Int.compare_eq_eq.1 (Option.some.inj hc))
theorem order_lt (a b : Int) (ha : In a) (hb : In b) : (FloatKind.f64.format.order (fl a) (fl b) == some .lt) = decide (a < b) := by
  rw [show FloatKind.f64.format.order (fl a) (fl b) = some (compare a b) from Fl.Rep.order (fl_rep a (by omega)) (fl_rep b (by omega))]
  by_cases h : a < b
  · rw [decide_eq_true h, Int.compare_eq_lt.2 h]; rfl
  · rw [decide_eq_false h, beq_eq_false_iff_ne]
    intro hc
    exact h (Int.compare_eq_lt.1 (Option.some.inj hc))

set_option maxHeartbeats 1000000 in
theorem zero_any (a : Val) (w : World) : Calls Tryz.prog 53 #[vv a] w (Gives (.bool (zeroV a)) w) := by
  obtain ⟨x, y⟩ := a
  have h1 := order_eq (into x) 0 (into_range _) (by decide)
  have h2 := order_eq (into y) 0 (into_range _) (by decide)
  rw [fl_zero] at h1 h2
  have H1 := Lib.hid h1
  have H2 := Lib.hid h2
  clear h1 h2
  go_enter Tryz.func53, Tryz.ntmps53
  go_wp2_with (go_at_call 74; refine (number_any _ _ _).mono ?_; rintro e w1 ⟨rfl, R1, n1, rfl⟩)
  go_ret
  refine ⟨?_, ?_⟩
  · simp [H1.out, H2.out, zeroV]
  repeat (first | exact Grew.refl _ | apply Grew.more | apply Grew.alloc | apply Grew.drew)

set_option maxHeartbeats 1000000 in
theorem right_any (a : Val) (w : World) : Calls Tryz.prog 50 #[vv a] w (Gives (.bool (rightV a)) w) := by
  obtain ⟨x, y⟩ := a
  have H : rightV (x, y) = (decide (into x = x) && decide (into y = y)) := by
    unfold rightV; simp only [eq_comm]
  by_cases h1 : into x = x <;> by_cases h2 : into y = y
  all_goals
    rw [H]
    simp only [h1, h2, decide_true, decide_false, Bool.and_true, Bool.and_false, Bool.and_self]
    clear H
    try (have h1' : ¬ x = into x := fun e => h1 e.symm)
    try (have h2' : ¬ y = into y := fun e => h2 e.symm)
    go_enter Tryz.func50, Tryz.ntmps50
    go_wp2
    refine wp_region_seq 8 Tryz.mixed (by kernel_rfl) (by kernel_rfl) ?_
    iterate 8
      apply Seq.val
      focus
        rintro w1 u ⟨R1, n1, rfl⟩ -
        simp [putFacts, Oper.deps, Region.binds, List.filter_cons, Region.dstOf, Fact.at, Act.put, World.more_drew]
        go_wp2_with (first
        | (go_at_call 73; refine (of_any _ _ _).mono ?_; rintro e w1 ⟨rfl, R1, n1, rfl⟩))
        exact ⟨by repeat (first | exact Grew.refl _ | apply Grew.more | apply Grew.alloc | apply Grew.drew), rfl, _, _, rfl, rfl, rfl⟩
    rintro u w1 ⟨R1, n1, rfl⟩ -
    simp [putFacts, Region.dstOf, Fact.at, Act.put, List.range_succ, World.more_drew]
    go_wp2
    go_ret
    exact ⟨rfl, by repeat (first | exact Grew.refl _ | apply Grew.more | apply Grew.alloc | apply Grew.drew)⟩

set_option maxHeartbeats 1000000 in
theorem less_any (a b : Val) (w : World) : Calls Tryz.prog 78 #[vv a, vv b] w (Gives (.bool (lessV a b)) w) := by
  obtain ⟨x, y⟩ := a
  obtain ⟨p, q⟩ := b
  have hl := order_lt (into x) (into p) (into_range _) (into_range _)
  have HL := Lib.hid hl
  clear hl
  go_enter Tryz.func78, Tryz.ntmps78
  go_wp2
  refine wp_region_seq 8 Tryz.mixed (by kernel_rfl) (by kernel_rfl) ?_
  iterate 8
    apply Seq.val
    focus
      rintro w1 u ⟨R1, n1, rfl⟩ -
      simp [putFacts, Oper.deps, Region.binds, List.filter_cons, Region.dstOf, Fact.at, Act.put, World.more_drew]
      go_wp2_with (first
      | (go_at_call 74; refine (number_any _ _ _).mono ?_; rintro e w1 ⟨rfl, R1, n1, rfl⟩))
      exact ⟨by repeat (first | exact Grew.refl _ | apply Grew.more | apply Grew.alloc | apply Grew.drew), rfl, _, _, rfl, rfl, rfl⟩
  rintro u w1 ⟨R1, n1, rfl⟩ -
  simp [putFacts, Region.dstOf, Fact.at, Act.put, List.range_succ, World.more_drew]
  go_wp2
  go_ret
  refine ⟨?_, ?_⟩
  · simp [lessV, HL.out]
  repeat (first | exact Grew.refl _ | apply Grew.more | apply Grew.alloc | apply Grew.drew)

set_option maxHeartbeats 1000000 in
theorem refAdd_any (a b : Val) (w : World) : Calls Tryz.prog 13 #[vv a, vv b] w (Gives (vv (addV a b)) w) := by
  obtain ⟨x, y⟩ := a
  obtain ⟨p, q⟩ := b
  have b1 := into_range x
  have b2 := into_range y
  have b3 := into_range p
  have b4 := into_range q
  go_enter Tryz.func13, Tryz.ntmps13
  go_wp2
  refine wp_region_seq 15 Tryz.mixed (by kernel_rfl) (by kernel_rfl) ?_
  iterate 15
    apply Seq.val
    focus
      rintro w1 u ⟨R1, n1, rfl⟩ -
      simp [putFacts, Oper.deps, Region.binds, List.filter_cons, Region.dstOf, Fact.at, Act.put, World.more_drew]
      go_wp2_with (first
      | (go_at_call 23; refine (refInto_any _ _).mono ?_; rintro e w1 ⟨rfl, rfl⟩)
      | (go_at_call 16; refine (refOf_any _ _ _).mono ?_; rintro e w1 ⟨rfl, R1, n1, rfl⟩))
      exact ⟨by repeat (first | exact Grew.refl _ | apply Grew.more | apply Grew.alloc | apply Grew.drew), rfl, _, _, rfl, rfl, rfl⟩
  rintro u w1 ⟨R1, n1, rfl⟩ -
  simp [putFacts, Region.dstOf, Fact.at, Act.put, List.range_succ, World.more_drew]
  go_wp2
  refine bodyPost_ret (v := vv (addV (x, y) (p, q))) (by simp [results, Tryz.results13, go_sem, addV]) rfl ⟨rfl, ?_⟩
  repeat (first | exact Grew.refl _ | apply Grew.more | apply Grew.alloc | apply Grew.drew)

set_option maxHeartbeats 1000000 in
theorem refSub_any (a b : Val) (w : World) : Calls Tryz.prog 14 #[vv a, vv b] w (Gives (vv (subV a b)) w) := by
  obtain ⟨x, y⟩ := a
  obtain ⟨p, q⟩ := b
  have b1 := into_range x
  have b2 := into_range y
  have b3 := into_range p
  have b4 := into_range q
  go_enter Tryz.func14, Tryz.ntmps14
  go_wp2
  refine wp_region_seq 15 Tryz.mixed (by kernel_rfl) (by kernel_rfl) ?_
  iterate 15
    apply Seq.val
    focus
      rintro w1 u ⟨R1, n1, rfl⟩ -
      simp [putFacts, Oper.deps, Region.binds, List.filter_cons, Region.dstOf, Fact.at, Act.put, World.more_drew]
      go_wp2_with (first
      | (go_at_call 23; refine (refInto_any _ _).mono ?_; rintro e w1 ⟨rfl, rfl⟩)
      | (go_at_call 16; refine (refOf_any _ _ _).mono ?_; rintro e w1 ⟨rfl, R1, n1, rfl⟩))
      exact ⟨by repeat (first | exact Grew.refl _ | apply Grew.more | apply Grew.alloc | apply Grew.drew), rfl, _, _, rfl, rfl, rfl⟩
  rintro u w1 ⟨R1, n1, rfl⟩ -
  simp [putFacts, Region.dstOf, Fact.at, Act.put, List.range_succ, World.more_drew]
  go_wp2
  refine bodyPost_ret (v := vv (subV (x, y) (p, q))) (by simp [results, Tryz.results14, go_sem, subV]) rfl ⟨rfl, ?_⟩
  repeat (first | exact Grew.refl _ | apply Grew.more | apply Grew.alloc | apply Grew.drew)

set_option maxHeartbeats 1000000 in
theorem refMul_any (a b : Val) (w : World) : Calls Tryz.prog 15 #[vv a, vv b] w (Gives (vv (mulV a b)) w) := by
  obtain ⟨x, y⟩ := a
  obtain ⟨p, q⟩ := b
  have b1 := into_range x
  have b2 := into_range y
  have b3 := into_range p
  have b4 := into_range q
  have c1 := mul_bound _ _ b1 b3
  have c2 := mul_bound _ _ b2 b4
  have c3 := mul_bound _ _ b1 b4
  have c4 := mul_bound _ _ b2 b3
  go_enter Tryz.func15, Tryz.ntmps15
  go_wp2
  refine wp_region_seq 16 Tryz.mixed (by kernel_rfl) (by kernel_rfl) ?_
  iterate 16
    apply Seq.val
    focus
      rintro w1 u ⟨R1, n1, rfl⟩ -
      simp [putFacts, Oper.deps, Region.binds, List.filter_cons, Region.dstOf, Fact.at, Act.put, World.more_drew]
      go_wp2_with (first
      | (go_at_call 23; refine (refInto_any _ _).mono ?_; rintro e w1 ⟨rfl, rfl⟩)
      | (go_at_call 16; refine (refOf_any _ _ _).mono ?_; rintro e w1 ⟨rfl, R1, n1, rfl⟩))
      exact ⟨by repeat (first | exact Grew.refl _ | apply Grew.more | apply Grew.alloc | apply Grew.drew), rfl, _, _, rfl, rfl, rfl⟩
  rintro u w1 ⟨R1, n1, rfl⟩ -
  simp [putFacts, Region.dstOf, Fact.at, Act.put, List.range_succ, World.more_drew]
  go_wp2_with (go_at_call 16; refine (refOf_any _ _ _).mono ?_; rintro e w1 ⟨rfl, R1, n1, rfl⟩)
  refine bodyPost_ret (v := vv (mulV (x, y) (p, q))) (by simp [results, Tryz.results15, go_sem, mulV]) rfl ⟨rfl, ?_⟩
  repeat (first | exact Grew.refl _ | apply Grew.more | apply Grew.alloc | apply Grew.drew)

/-- Two numbers that an int may hold. -/
def okVal (a : Ga.Val) : Prop := (-9223372036854775808 ≤ a.1 ∧ a.1 ≤ 9223372036854775807) ∧ (-9223372036854775808 ≤ a.2 ∧ a.2 ≤ 9223372036854775807)
end Go.Proofs.YtiocdmfmghanmaaGreatDoor
