import Derived.Test.YtiocdmfmghanmaaGaussB
import Derived.Test.YtiocdmfmghanmaaLawKit
/-! The law GaussIs, walked. -/
namespace Go.Proofs.Ytiocdmfmghanmaa
open Go.RowKit Ga

theorem vv_rows (w : World) (l : List Val) (n : Nat) (c : List Value) (ls cap : Nat) (h1 : ls = l.length) (h2 : l.length ≤ maxLen) (h3 : n = w.heap.size) (h4 : c = l.flatMap (fun a : Val => [Value.int .i64 a.1, Value.int .i64 a.2])) :
    ValsAt (w.alloc (.cells c.toArray 23)) (.slice (some ⟨n, 0, none⟩) ls cap) l := RowsAt.fresh h1 h2 (fun _ => rfl) h3 h4

theorem awake_is : prodL [(1, 2), (3, -1)] = (5, 5) := by decide

set_option maxHeartbeats 1000000 in
theorem awake03_any (w : World) : Calls Try.prog 5 #[] w (Gives (.bool true) w) := by
  have h := awake_is
  have H := Lib.hid h
  clear h
  go_enter Try.func5, Try.ntmps5
  go_wp2_with (go_at_call 8; refine (mul_any _ [(1, 2), (3, -1)] _ (vv_rows _ _ _ _ _ _ rfl (by decide) rfl rfl)).mono ?_; rintro e w1 ⟨rfl, R1, n1, rfl⟩; rw [H.out])
  go_ret
  refine ⟨rfl, ?_⟩
  repeat (first | exact Grew.refl _ | apply Grew.more | apply Grew.alloc | apply Grew.drew)

set_option maxRecDepth 100000 in
set_option maxHeartbeats 4000000 in
theorem gaussIs_any (a b c : Val) (w : World) : Calls Try.prog 3 #[vv a, vv b, vv c] w (Gives (.bool true) w) := by
  have e1 := law_dist a b c
  have e2 := law_rev a b c
  have e3 := law_comm b a
  have e4 : sumL [subV a b, b] = (into a.1, into a.2) := law_back a b
  have e5 : turnV (turnV (turnV (turnV a))) = (into a.1, into a.2) := law_turn a
  have e6 := law_real a
  have e7 := law_right a b
  have hf := field_im (prodL [a, conjV a])
  rw [e6] at hf
  go_enter Try.func3, Try.ntmps3
  go_wp2_with (first
    | (go_at_call 5; refine (awake03_any _).mono ?_; rintro e w1 ⟨rfl, R2, n2, rfl⟩)
    | (go_at_call 7; refine (turn_any _ _).mono ?_; rintro e w1 ⟨rfl, R2, n2, rfl⟩)
    | (go_at_call 6; refine (of_any _ _ _).mono ?_; rintro e w1 ⟨rfl, R2, n2, rfl⟩))
  refine wp_region_seq 74 Try.mixed (by kernel_rfl) (by kernel_rfl) ?_
  iterate 3
    apply Seq.val
    focus
      rintro w1 u ⟨R1, n1, rfl⟩ hF
      simp [moreFacts, Fact.more, Oper.deps, Region.binds, List.filter_cons, World.more_drew] at hF
      simp [putFacts, Oper.deps, Region.binds, List.filter_cons, Region.dstOf, Fact.at, Act.put, World.more_drew]
      go_wp2_with (first
        | (go_at_call 8; refine (mul_any _ _ _ (by first | exact hF | exact hF.1 | exact hF.2)).mono ?_; rintro e w1 ⟨rfl, R2, n2, rfl⟩)
        | (go_at_call 9; refine (add_any _ _ _ (by first | exact hF | exact hF.1 | exact hF.2)).mono ?_; rintro e w1 ⟨rfl, R2, n2, rfl⟩)
        | (go_at_call 10; refine (sub_any _ _ _).mono ?_; rintro e w1 ⟨rfl, R2, n2, rfl⟩)
        | (go_at_call 11; refine (conj_any _ _).mono ?_; rintro e w1 ⟨rfl, R2, n2, rfl⟩)
        | (go_at_call 7; refine (turn_any _ _).mono ?_; rintro e w1 ⟨rfl, R2, n2, rfl⟩)
        | (go_at_call 12; refine (right_any _ _).mono ?_; rintro e w1 ⟨rfl, R2, n2, rfl⟩)
        | (go_at_call 6; refine (of_any _ _ _).mono ?_; rintro e w1 ⟨rfl, R2, n2, rfl⟩)
        )
      exact ⟨by repeat (first | exact Grew.refl _ | apply Grew.more | apply Grew.alloc | apply Grew.drew), rfl, _, _, rfl, rfl, rfl⟩
  apply Seq.of (fun v w => ValsAt w v [b, c]) (fun _ _ _ h g => h.grew g)
  focus
    rintro w1 u ⟨R1, n1, rfl⟩ hF
    simp [moreFacts, Fact.more, Oper.deps, Region.binds, List.filter_cons, World.more_drew] at hF
    simp [putFacts, Oper.deps, Region.binds, List.filter_cons, Region.dstOf, Fact.at, Act.put, World.more_drew]
    go_wp2
    exact ⟨by repeat (first | exact Grew.refl _ | apply Grew.more | apply Grew.alloc | apply Grew.drew), rfl, _, _, rfl, rfl, RowsAt.fresh rfl (by simp [maxLen]) (fun _ => rfl) (by simp [go_sem]) rfl⟩
  iterate 1
    apply Seq.val
    focus
      rintro w1 u ⟨R1, n1, rfl⟩ hF
      simp [moreFacts, Fact.more, Oper.deps, Region.binds, List.filter_cons, World.more_drew] at hF
      simp [putFacts, Oper.deps, Region.binds, List.filter_cons, Region.dstOf, Fact.at, Act.put, World.more_drew]
      go_wp2_with (first
        | (go_at_call 8; refine (mul_any _ _ _ (by first | exact hF | exact hF.1 | exact hF.2)).mono ?_; rintro e w1 ⟨rfl, R2, n2, rfl⟩)
        | (go_at_call 9; refine (add_any _ _ _ (by first | exact hF | exact hF.1 | exact hF.2)).mono ?_; rintro e w1 ⟨rfl, R2, n2, rfl⟩)
        | (go_at_call 10; refine (sub_any _ _ _).mono ?_; rintro e w1 ⟨rfl, R2, n2, rfl⟩)
        | (go_at_call 11; refine (conj_any _ _).mono ?_; rintro e w1 ⟨rfl, R2, n2, rfl⟩)
        | (go_at_call 7; refine (turn_any _ _).mono ?_; rintro e w1 ⟨rfl, R2, n2, rfl⟩)
        | (go_at_call 12; refine (right_any _ _).mono ?_; rintro e w1 ⟨rfl, R2, n2, rfl⟩)
        | (go_at_call 6; refine (of_any _ _ _).mono ?_; rintro e w1 ⟨rfl, R2, n2, rfl⟩)
        )
      exact ⟨by repeat (first | exact Grew.refl _ | apply Grew.more | apply Grew.alloc | apply Grew.drew), rfl, _, _, rfl, rfl, rfl⟩
  apply Seq.of (fun v w => ValsAt w v [a, sumL [b, c]]) (fun _ _ _ h g => h.grew g)
  focus
    rintro w1 u ⟨R1, n1, rfl⟩ hF
    simp [moreFacts, Fact.more, Oper.deps, Region.binds, List.filter_cons, World.more_drew] at hF
    simp [putFacts, Oper.deps, Region.binds, List.filter_cons, Region.dstOf, Fact.at, Act.put, World.more_drew]
    go_wp2
    exact ⟨by repeat (first | exact Grew.refl _ | apply Grew.more | apply Grew.alloc | apply Grew.drew), rfl, _, _, rfl, rfl, RowsAt.fresh rfl (by simp [maxLen]) (fun _ => rfl) (by simp [go_sem]) rfl⟩
  iterate 3
    apply Seq.val
    focus
      rintro w1 u ⟨R1, n1, rfl⟩ hF
      simp [moreFacts, Fact.more, Oper.deps, Region.binds, List.filter_cons, World.more_drew] at hF
      simp [putFacts, Oper.deps, Region.binds, List.filter_cons, Region.dstOf, Fact.at, Act.put, World.more_drew]
      go_wp2_with (first
        | (go_at_call 8; refine (mul_any _ _ _ (by first | exact hF | exact hF.1 | exact hF.2)).mono ?_; rintro e w1 ⟨rfl, R2, n2, rfl⟩)
        | (go_at_call 9; refine (add_any _ _ _ (by first | exact hF | exact hF.1 | exact hF.2)).mono ?_; rintro e w1 ⟨rfl, R2, n2, rfl⟩)
        | (go_at_call 10; refine (sub_any _ _ _).mono ?_; rintro e w1 ⟨rfl, R2, n2, rfl⟩)
        | (go_at_call 11; refine (conj_any _ _).mono ?_; rintro e w1 ⟨rfl, R2, n2, rfl⟩)
        | (go_at_call 7; refine (turn_any _ _).mono ?_; rintro e w1 ⟨rfl, R2, n2, rfl⟩)
        | (go_at_call 12; refine (right_any _ _).mono ?_; rintro e w1 ⟨rfl, R2, n2, rfl⟩)
        | (go_at_call 6; refine (of_any _ _ _).mono ?_; rintro e w1 ⟨rfl, R2, n2, rfl⟩)
        )
      exact ⟨by repeat (first | exact Grew.refl _ | apply Grew.more | apply Grew.alloc | apply Grew.drew), rfl, _, _, rfl, rfl, rfl⟩
  apply Seq.of (fun v w => ValsAt w v [a, b]) (fun _ _ _ h g => h.grew g)
  focus
    rintro w1 u ⟨R1, n1, rfl⟩ hF
    simp [moreFacts, Fact.more, Oper.deps, Region.binds, List.filter_cons, World.more_drew] at hF
    simp [putFacts, Oper.deps, Region.binds, List.filter_cons, Region.dstOf, Fact.at, Act.put, World.more_drew]
    go_wp2
    exact ⟨by repeat (first | exact Grew.refl _ | apply Grew.more | apply Grew.alloc | apply Grew.drew), rfl, _, _, rfl, rfl, RowsAt.fresh rfl (by simp [maxLen]) (fun _ => rfl) (by simp [go_sem]) rfl⟩
  iterate 3
    apply Seq.val
    focus
      rintro w1 u ⟨R1, n1, rfl⟩ hF
      simp [moreFacts, Fact.more, Oper.deps, Region.binds, List.filter_cons, World.more_drew] at hF
      simp [putFacts, Oper.deps, Region.binds, List.filter_cons, Region.dstOf, Fact.at, Act.put, World.more_drew]
      go_wp2_with (first
        | (go_at_call 8; refine (mul_any _ _ _ (by first | exact hF | exact hF.1 | exact hF.2)).mono ?_; rintro e w1 ⟨rfl, R2, n2, rfl⟩)
        | (go_at_call 9; refine (add_any _ _ _ (by first | exact hF | exact hF.1 | exact hF.2)).mono ?_; rintro e w1 ⟨rfl, R2, n2, rfl⟩)
        | (go_at_call 10; refine (sub_any _ _ _).mono ?_; rintro e w1 ⟨rfl, R2, n2, rfl⟩)
        | (go_at_call 11; refine (conj_any _ _).mono ?_; rintro e w1 ⟨rfl, R2, n2, rfl⟩)
        | (go_at_call 7; refine (turn_any _ _).mono ?_; rintro e w1 ⟨rfl, R2, n2, rfl⟩)
        | (go_at_call 12; refine (right_any _ _).mono ?_; rintro e w1 ⟨rfl, R2, n2, rfl⟩)
        | (go_at_call 6; refine (of_any _ _ _).mono ?_; rintro e w1 ⟨rfl, R2, n2, rfl⟩)
        )
      exact ⟨by repeat (first | exact Grew.refl _ | apply Grew.more | apply Grew.alloc | apply Grew.drew), rfl, _, _, rfl, rfl, rfl⟩
  apply Seq.of (fun v w => ValsAt w v [a, c]) (fun _ _ _ h g => h.grew g)
  focus
    rintro w1 u ⟨R1, n1, rfl⟩ hF
    simp [moreFacts, Fact.more, Oper.deps, Region.binds, List.filter_cons, World.more_drew] at hF
    simp [putFacts, Oper.deps, Region.binds, List.filter_cons, Region.dstOf, Fact.at, Act.put, World.more_drew]
    go_wp2
    exact ⟨by repeat (first | exact Grew.refl _ | apply Grew.more | apply Grew.alloc | apply Grew.drew), rfl, _, _, rfl, rfl, RowsAt.fresh rfl (by simp [maxLen]) (fun _ => rfl) (by simp [go_sem]) rfl⟩
  iterate 1
    apply Seq.val
    focus
      rintro w1 u ⟨R1, n1, rfl⟩ hF
      simp [moreFacts, Fact.more, Oper.deps, Region.binds, List.filter_cons, World.more_drew] at hF
      simp [putFacts, Oper.deps, Region.binds, List.filter_cons, Region.dstOf, Fact.at, Act.put, World.more_drew]
      go_wp2_with (first
        | (go_at_call 8; refine (mul_any _ _ _ (by first | exact hF | exact hF.1 | exact hF.2)).mono ?_; rintro e w1 ⟨rfl, R2, n2, rfl⟩)
        | (go_at_call 9; refine (add_any _ _ _ (by first | exact hF | exact hF.1 | exact hF.2)).mono ?_; rintro e w1 ⟨rfl, R2, n2, rfl⟩)
        | (go_at_call 10; refine (sub_any _ _ _).mono ?_; rintro e w1 ⟨rfl, R2, n2, rfl⟩)
        | (go_at_call 11; refine (conj_any _ _).mono ?_; rintro e w1 ⟨rfl, R2, n2, rfl⟩)
        | (go_at_call 7; refine (turn_any _ _).mono ?_; rintro e w1 ⟨rfl, R2, n2, rfl⟩)
        | (go_at_call 12; refine (right_any _ _).mono ?_; rintro e w1 ⟨rfl, R2, n2, rfl⟩)
        | (go_at_call 6; refine (of_any _ _ _).mono ?_; rintro e w1 ⟨rfl, R2, n2, rfl⟩)
        )
      exact ⟨by repeat (first | exact Grew.refl _ | apply Grew.more | apply Grew.alloc | apply Grew.drew), rfl, _, _, rfl, rfl, rfl⟩
  apply Seq.of (fun v w => ValsAt w v [prodL [a, b], prodL [a, c]]) (fun _ _ _ h g => h.grew g)
  focus
    rintro w1 u ⟨R1, n1, rfl⟩ hF
    simp [moreFacts, Fact.more, Oper.deps, Region.binds, List.filter_cons, World.more_drew] at hF
    simp [putFacts, Oper.deps, Region.binds, List.filter_cons, Region.dstOf, Fact.at, Act.put, World.more_drew]
    go_wp2
    exact ⟨by repeat (first | exact Grew.refl _ | apply Grew.more | apply Grew.alloc | apply Grew.drew), rfl, _, _, rfl, rfl, RowsAt.fresh rfl (by simp [maxLen]) (fun _ => rfl) (by simp [go_sem]) rfl⟩
  iterate 6
    apply Seq.val
    focus
      rintro w1 u ⟨R1, n1, rfl⟩ hF
      simp [moreFacts, Fact.more, Oper.deps, Region.binds, List.filter_cons, World.more_drew] at hF
      simp [putFacts, Oper.deps, Region.binds, List.filter_cons, Region.dstOf, Fact.at, Act.put, World.more_drew]
      go_wp2_with (first
        | (go_at_call 8; refine (mul_any _ _ _ (by first | exact hF | exact hF.1 | exact hF.2)).mono ?_; rintro e w1 ⟨rfl, R2, n2, rfl⟩)
        | (go_at_call 9; refine (add_any _ _ _ (by first | exact hF | exact hF.1 | exact hF.2)).mono ?_; rintro e w1 ⟨rfl, R2, n2, rfl⟩)
        | (go_at_call 10; refine (sub_any _ _ _).mono ?_; rintro e w1 ⟨rfl, R2, n2, rfl⟩)
        | (go_at_call 11; refine (conj_any _ _).mono ?_; rintro e w1 ⟨rfl, R2, n2, rfl⟩)
        | (go_at_call 7; refine (turn_any _ _).mono ?_; rintro e w1 ⟨rfl, R2, n2, rfl⟩)
        | (go_at_call 12; refine (right_any _ _).mono ?_; rintro e w1 ⟨rfl, R2, n2, rfl⟩)
        | (go_at_call 6; refine (of_any _ _ _).mono ?_; rintro e w1 ⟨rfl, R2, n2, rfl⟩)
        )
      exact ⟨by repeat (first | exact Grew.refl _ | apply Grew.more | apply Grew.alloc | apply Grew.drew), rfl, _, _, rfl, rfl, rfl⟩
  apply Seq.of (fun v w => ValsAt w v [a, b, c]) (fun _ _ _ h g => h.grew g)
  focus
    rintro w1 u ⟨R1, n1, rfl⟩ hF
    simp [moreFacts, Fact.more, Oper.deps, Region.binds, List.filter_cons, World.more_drew] at hF
    simp [putFacts, Oper.deps, Region.binds, List.filter_cons, Region.dstOf, Fact.at, Act.put, World.more_drew]
    go_wp2
    exact ⟨by repeat (first | exact Grew.refl _ | apply Grew.more | apply Grew.alloc | apply Grew.drew), rfl, _, _, rfl, rfl, RowsAt.fresh rfl (by simp [maxLen]) (fun _ => rfl) (by simp [go_sem]) rfl⟩
  iterate 4
    apply Seq.val
    focus
      rintro w1 u ⟨R1, n1, rfl⟩ hF
      simp [moreFacts, Fact.more, Oper.deps, Region.binds, List.filter_cons, World.more_drew] at hF
      simp [putFacts, Oper.deps, Region.binds, List.filter_cons, Region.dstOf, Fact.at, Act.put, World.more_drew]
      go_wp2_with (first
        | (go_at_call 8; refine (mul_any _ _ _ (by first | exact hF | exact hF.1 | exact hF.2)).mono ?_; rintro e w1 ⟨rfl, R2, n2, rfl⟩)
        | (go_at_call 9; refine (add_any _ _ _ (by first | exact hF | exact hF.1 | exact hF.2)).mono ?_; rintro e w1 ⟨rfl, R2, n2, rfl⟩)
        | (go_at_call 10; refine (sub_any _ _ _).mono ?_; rintro e w1 ⟨rfl, R2, n2, rfl⟩)
        | (go_at_call 11; refine (conj_any _ _).mono ?_; rintro e w1 ⟨rfl, R2, n2, rfl⟩)
        | (go_at_call 7; refine (turn_any _ _).mono ?_; rintro e w1 ⟨rfl, R2, n2, rfl⟩)
        | (go_at_call 12; refine (right_any _ _).mono ?_; rintro e w1 ⟨rfl, R2, n2, rfl⟩)
        | (go_at_call 6; refine (of_any _ _ _).mono ?_; rintro e w1 ⟨rfl, R2, n2, rfl⟩)
        )
      exact ⟨by repeat (first | exact Grew.refl _ | apply Grew.more | apply Grew.alloc | apply Grew.drew), rfl, _, _, rfl, rfl, rfl⟩
  apply Seq.of (fun v w => ValsAt w v [c, b, a]) (fun _ _ _ h g => h.grew g)
  focus
    rintro w1 u ⟨R1, n1, rfl⟩ hF
    simp [moreFacts, Fact.more, Oper.deps, Region.binds, List.filter_cons, World.more_drew] at hF
    simp [putFacts, Oper.deps, Region.binds, List.filter_cons, Region.dstOf, Fact.at, Act.put, World.more_drew]
    go_wp2
    exact ⟨by repeat (first | exact Grew.refl _ | apply Grew.more | apply Grew.alloc | apply Grew.drew), rfl, _, _, rfl, rfl, RowsAt.fresh rfl (by simp [maxLen]) (fun _ => rfl) (by simp [go_sem]) rfl⟩
  iterate 6
    apply Seq.val
    focus
      rintro w1 u ⟨R1, n1, rfl⟩ hF
      simp [moreFacts, Fact.more, Oper.deps, Region.binds, List.filter_cons, World.more_drew] at hF
      simp [putFacts, Oper.deps, Region.binds, List.filter_cons, Region.dstOf, Fact.at, Act.put, World.more_drew]
      go_wp2_with (first
        | (go_at_call 8; refine (mul_any _ _ _ (by first | exact hF | exact hF.1 | exact hF.2)).mono ?_; rintro e w1 ⟨rfl, R2, n2, rfl⟩)
        | (go_at_call 9; refine (add_any _ _ _ (by first | exact hF | exact hF.1 | exact hF.2)).mono ?_; rintro e w1 ⟨rfl, R2, n2, rfl⟩)
        | (go_at_call 10; refine (sub_any _ _ _).mono ?_; rintro e w1 ⟨rfl, R2, n2, rfl⟩)
        | (go_at_call 11; refine (conj_any _ _).mono ?_; rintro e w1 ⟨rfl, R2, n2, rfl⟩)
        | (go_at_call 7; refine (turn_any _ _).mono ?_; rintro e w1 ⟨rfl, R2, n2, rfl⟩)
        | (go_at_call 12; refine (right_any _ _).mono ?_; rintro e w1 ⟨rfl, R2, n2, rfl⟩)
        | (go_at_call 6; refine (of_any _ _ _).mono ?_; rintro e w1 ⟨rfl, R2, n2, rfl⟩)
        )
      exact ⟨by repeat (first | exact Grew.refl _ | apply Grew.more | apply Grew.alloc | apply Grew.drew), rfl, _, _, rfl, rfl, rfl⟩
  apply Seq.of (fun v w => ValsAt w v [a, b]) (fun _ _ _ h g => h.grew g)
  focus
    rintro w1 u ⟨R1, n1, rfl⟩ hF
    simp [moreFacts, Fact.more, Oper.deps, Region.binds, List.filter_cons, World.more_drew] at hF
    simp [putFacts, Oper.deps, Region.binds, List.filter_cons, Region.dstOf, Fact.at, Act.put, World.more_drew]
    go_wp2
    exact ⟨by repeat (first | exact Grew.refl _ | apply Grew.more | apply Grew.alloc | apply Grew.drew), rfl, _, _, rfl, rfl, RowsAt.fresh rfl (by simp [maxLen]) (fun _ => rfl) (by simp [go_sem]) rfl⟩
  iterate 3
    apply Seq.val
    focus
      rintro w1 u ⟨R1, n1, rfl⟩ hF
      simp [moreFacts, Fact.more, Oper.deps, Region.binds, List.filter_cons, World.more_drew] at hF
      simp [putFacts, Oper.deps, Region.binds, List.filter_cons, Region.dstOf, Fact.at, Act.put, World.more_drew]
      go_wp2_with (first
        | (go_at_call 8; refine (mul_any _ _ _ (by first | exact hF | exact hF.1 | exact hF.2)).mono ?_; rintro e w1 ⟨rfl, R2, n2, rfl⟩)
        | (go_at_call 9; refine (add_any _ _ _ (by first | exact hF | exact hF.1 | exact hF.2)).mono ?_; rintro e w1 ⟨rfl, R2, n2, rfl⟩)
        | (go_at_call 10; refine (sub_any _ _ _).mono ?_; rintro e w1 ⟨rfl, R2, n2, rfl⟩)
        | (go_at_call 11; refine (conj_any _ _).mono ?_; rintro e w1 ⟨rfl, R2, n2, rfl⟩)
        | (go_at_call 7; refine (turn_any _ _).mono ?_; rintro e w1 ⟨rfl, R2, n2, rfl⟩)
        | (go_at_call 12; refine (right_any _ _).mono ?_; rintro e w1 ⟨rfl, R2, n2, rfl⟩)
        | (go_at_call 6; refine (of_any _ _ _).mono ?_; rintro e w1 ⟨rfl, R2, n2, rfl⟩)
        )
      exact ⟨by repeat (first | exact Grew.refl _ | apply Grew.more | apply Grew.alloc | apply Grew.drew), rfl, _, _, rfl, rfl, rfl⟩
  apply Seq.of (fun v w => ValsAt w v [b, a]) (fun _ _ _ h g => h.grew g)
  focus
    rintro w1 u ⟨R1, n1, rfl⟩ hF
    simp [moreFacts, Fact.more, Oper.deps, Region.binds, List.filter_cons, World.more_drew] at hF
    simp [putFacts, Oper.deps, Region.binds, List.filter_cons, Region.dstOf, Fact.at, Act.put, World.more_drew]
    go_wp2
    exact ⟨by repeat (first | exact Grew.refl _ | apply Grew.more | apply Grew.alloc | apply Grew.drew), rfl, _, _, rfl, rfl, RowsAt.fresh rfl (by simp [maxLen]) (fun _ => rfl) (by simp [go_sem]) rfl⟩
  iterate 8
    apply Seq.val
    focus
      rintro w1 u ⟨R1, n1, rfl⟩ hF
      simp [moreFacts, Fact.more, Oper.deps, Region.binds, List.filter_cons, World.more_drew] at hF
      simp [putFacts, Oper.deps, Region.binds, List.filter_cons, Region.dstOf, Fact.at, Act.put, World.more_drew]
      go_wp2_with (first
        | (go_at_call 8; refine (mul_any _ _ _ (by first | exact hF | exact hF.1 | exact hF.2)).mono ?_; rintro e w1 ⟨rfl, R2, n2, rfl⟩)
        | (go_at_call 9; refine (add_any _ _ _ (by first | exact hF | exact hF.1 | exact hF.2)).mono ?_; rintro e w1 ⟨rfl, R2, n2, rfl⟩)
        | (go_at_call 10; refine (sub_any _ _ _).mono ?_; rintro e w1 ⟨rfl, R2, n2, rfl⟩)
        | (go_at_call 11; refine (conj_any _ _).mono ?_; rintro e w1 ⟨rfl, R2, n2, rfl⟩)
        | (go_at_call 7; refine (turn_any _ _).mono ?_; rintro e w1 ⟨rfl, R2, n2, rfl⟩)
        | (go_at_call 12; refine (right_any _ _).mono ?_; rintro e w1 ⟨rfl, R2, n2, rfl⟩)
        | (go_at_call 6; refine (of_any _ _ _).mono ?_; rintro e w1 ⟨rfl, R2, n2, rfl⟩)
        )
      exact ⟨by repeat (first | exact Grew.refl _ | apply Grew.more | apply Grew.alloc | apply Grew.drew), rfl, _, _, rfl, rfl, rfl⟩
  apply Seq.of (fun v w => ValsAt w v [subV a b, b]) (fun _ _ _ h g => h.grew g)
  focus
    rintro w1 u ⟨R1, n1, rfl⟩ hF
    simp [moreFacts, Fact.more, Oper.deps, Region.binds, List.filter_cons, World.more_drew] at hF
    simp [putFacts, Oper.deps, Region.binds, List.filter_cons, Region.dstOf, Fact.at, Act.put, World.more_drew]
    go_wp2
    exact ⟨by repeat (first | exact Grew.refl _ | apply Grew.more | apply Grew.alloc | apply Grew.drew), rfl, _, _, rfl, rfl, RowsAt.fresh rfl (by simp [maxLen]) (fun _ => rfl) (by simp [go_sem]) rfl⟩
  iterate 13
    apply Seq.val
    focus
      rintro w1 u ⟨R1, n1, rfl⟩ hF
      simp [moreFacts, Fact.more, Oper.deps, Region.binds, List.filter_cons, World.more_drew] at hF
      simp [putFacts, Oper.deps, Region.binds, List.filter_cons, Region.dstOf, Fact.at, Act.put, World.more_drew]
      go_wp2_with (first
        | (go_at_call 8; refine (mul_any _ _ _ (by first | exact hF | exact hF.1 | exact hF.2)).mono ?_; rintro e w1 ⟨rfl, R2, n2, rfl⟩)
        | (go_at_call 9; refine (add_any _ _ _ (by first | exact hF | exact hF.1 | exact hF.2)).mono ?_; rintro e w1 ⟨rfl, R2, n2, rfl⟩)
        | (go_at_call 10; refine (sub_any _ _ _).mono ?_; rintro e w1 ⟨rfl, R2, n2, rfl⟩)
        | (go_at_call 11; refine (conj_any _ _).mono ?_; rintro e w1 ⟨rfl, R2, n2, rfl⟩)
        | (go_at_call 7; refine (turn_any _ _).mono ?_; rintro e w1 ⟨rfl, R2, n2, rfl⟩)
        | (go_at_call 12; refine (right_any _ _).mono ?_; rintro e w1 ⟨rfl, R2, n2, rfl⟩)
        | (go_at_call 6; refine (of_any _ _ _).mono ?_; rintro e w1 ⟨rfl, R2, n2, rfl⟩)
        )
      exact ⟨by repeat (first | exact Grew.refl _ | apply Grew.more | apply Grew.alloc | apply Grew.drew), rfl, _, _, rfl, rfl, rfl⟩
  apply Seq.of (fun v w => ValsAt w v [a, conjV a]) (fun _ _ _ h g => h.grew g)
  focus
    rintro w1 u ⟨R1, n1, rfl⟩ hF
    simp [moreFacts, Fact.more, Oper.deps, Region.binds, List.filter_cons, World.more_drew] at hF
    simp [putFacts, Oper.deps, Region.binds, List.filter_cons, Region.dstOf, Fact.at, Act.put, World.more_drew]
    go_wp2
    exact ⟨by repeat (first | exact Grew.refl _ | apply Grew.more | apply Grew.alloc | apply Grew.drew), rfl, _, _, rfl, rfl, RowsAt.fresh rfl (by simp [maxLen]) (fun _ => rfl) (by simp [go_sem]) rfl⟩
  iterate 7
    apply Seq.val
    focus
      rintro w1 u ⟨R1, n1, rfl⟩ hF
      simp [moreFacts, Fact.more, Oper.deps, Region.binds, List.filter_cons, World.more_drew] at hF
      simp [putFacts, Oper.deps, Region.binds, List.filter_cons, Region.dstOf, Fact.at, Act.put, World.more_drew]
      go_wp2_with (first
        | (go_at_call 8; refine (mul_any _ _ _ (by first | exact hF | exact hF.1 | exact hF.2)).mono ?_; rintro e w1 ⟨rfl, R2, n2, rfl⟩)
        | (go_at_call 9; refine (add_any _ _ _ (by first | exact hF | exact hF.1 | exact hF.2)).mono ?_; rintro e w1 ⟨rfl, R2, n2, rfl⟩)
        | (go_at_call 10; refine (sub_any _ _ _).mono ?_; rintro e w1 ⟨rfl, R2, n2, rfl⟩)
        | (go_at_call 11; refine (conj_any _ _).mono ?_; rintro e w1 ⟨rfl, R2, n2, rfl⟩)
        | (go_at_call 7; refine (turn_any _ _).mono ?_; rintro e w1 ⟨rfl, R2, n2, rfl⟩)
        | (go_at_call 12; refine (right_any _ _).mono ?_; rintro e w1 ⟨rfl, R2, n2, rfl⟩)
        | (go_at_call 6; refine (of_any _ _ _).mono ?_; rintro e w1 ⟨rfl, R2, n2, rfl⟩)
        )
      exact ⟨by repeat (first | exact Grew.refl _ | apply Grew.more | apply Grew.alloc | apply Grew.drew), rfl, _, _, rfl, rfl, rfl⟩
  apply Seq.of (fun v w => ValsAt w v [a, b]) (fun _ _ _ h g => h.grew g)
  focus
    rintro w1 u ⟨R1, n1, rfl⟩ hF
    simp [moreFacts, Fact.more, Oper.deps, Region.binds, List.filter_cons, World.more_drew] at hF
    simp [putFacts, Oper.deps, Region.binds, List.filter_cons, Region.dstOf, Fact.at, Act.put, World.more_drew]
    go_wp2
    exact ⟨by repeat (first | exact Grew.refl _ | apply Grew.more | apply Grew.alloc | apply Grew.drew), rfl, _, _, rfl, rfl, RowsAt.fresh rfl (by simp [maxLen]) (fun _ => rfl) (by simp [go_sem]) rfl⟩
  iterate 4
    apply Seq.val
    focus
      rintro w1 u ⟨R1, n1, rfl⟩ hF
      simp [moreFacts, Fact.more, Oper.deps, Region.binds, List.filter_cons, World.more_drew] at hF
      simp [putFacts, Oper.deps, Region.binds, List.filter_cons, Region.dstOf, Fact.at, Act.put, World.more_drew]
      go_wp2_with (first
        | (go_at_call 8; refine (mul_any _ _ _ (by first | exact hF | exact hF.1 | exact hF.2)).mono ?_; rintro e w1 ⟨rfl, R2, n2, rfl⟩)
        | (go_at_call 9; refine (add_any _ _ _ (by first | exact hF | exact hF.1 | exact hF.2)).mono ?_; rintro e w1 ⟨rfl, R2, n2, rfl⟩)
        | (go_at_call 10; refine (sub_any _ _ _).mono ?_; rintro e w1 ⟨rfl, R2, n2, rfl⟩)
        | (go_at_call 11; refine (conj_any _ _).mono ?_; rintro e w1 ⟨rfl, R2, n2, rfl⟩)
        | (go_at_call 7; refine (turn_any _ _).mono ?_; rintro e w1 ⟨rfl, R2, n2, rfl⟩)
        | (go_at_call 12; refine (right_any _ _).mono ?_; rintro e w1 ⟨rfl, R2, n2, rfl⟩)
        | (go_at_call 6; refine (of_any _ _ _).mono ?_; rintro e w1 ⟨rfl, R2, n2, rfl⟩)
        )
      exact ⟨by repeat (first | exact Grew.refl _ | apply Grew.more | apply Grew.alloc | apply Grew.drew), rfl, _, _, rfl, rfl, rfl⟩
  rintro u w1 ⟨R1, n1, rfl⟩ hF
  clear hF
  simp [putFacts, Region.dstOf, Fact.at, Act.put, List.range_succ, World.more_drew]
  go_wp2
  go_ret
  refine ⟨rfl, ?_⟩
  repeat (first | exact Grew.refl _ | apply Grew.more | apply Grew.alloc | apply Grew.drew)
end Go.Proofs.Ytiocdmfmghanmaa

