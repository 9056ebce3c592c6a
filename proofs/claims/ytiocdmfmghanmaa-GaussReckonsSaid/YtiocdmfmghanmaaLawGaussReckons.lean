import Derived.Test.YtiocdmfmghanmaaGaussB
import Derived.Test.YtiocdmfmghanmaaLawGaussIs
import Derived.Test.YtiocdmfmghanmaaLawKit
/-! The law GaussReckons, walked. -/
namespace Go.Proofs.Ytiocdmfmghanmaa
open Go.RowKit Ga

theorem run_eql_val (x y p q : Int) (b : Bool) (hb : b = (decide (x = p) && decide (y = q))) (w : World) : (binOp .eql 23 (.agg #[.int .i64 x, .int .i64 y]) (.agg #[.int .i64 p, .int .i64 q])).run Try.prog w = .ok (.bool b) w := by
  subst hb
  by_cases h1 : x = p <;> by_cases h2 : y = q <;> simp [go_sem, h1, h2, Try.underlying23, Try.underlying3]

theorem turnV_ref (a : Val) : turnV a = (into (-into a.2), into (into a.1)) := by
  unfold turnV
  simp

set_option maxRecDepth 100000 in
set_option maxHeartbeats 4000000 in
theorem gaussReckons_any (a b : Val) (v : Value) (l : List Val) (w : World) (hv : ValsAt w v l) : Calls Try.prog 4 #[vv a, vv b, v] w (Gives (.bool true) w) := by
  obtain ⟨ad, cap, hveq, hm, hl⟩ := hv.open2
  have hv' := Lib.hid hv
  by_cases hlen : l.length ≤ 60
  · have b1 := into_range a.1
    have b2 := into_range a.2
    have hR := run_eql_val (into a.1) (into a.2) a.1 a.2 (rightV a) (by unfold rightV; simp only [eq_comm])
    have hZ := run_eql_val (into a.1) (into a.2) 0 0 (zeroV a) rfl
    have hL : lessV a b = decide (into a.1 < into b.1) := rfl
    have hT := turnV_ref a
    subst hveq
    go_enter Try.func4, Try.ntmps4
    clear hv
    go_wp2_with (go_at_call 5; refine (awake03_any _).mono ?_; rintro e w1 ⟨rfl, R2, n2, rfl⟩)
    go_loopw [21] (fun i wr => ∃ (k : Nat), k ≤ l.length ∧ i = .int .i64 k ∧ Grew (((((w.alloc (.cells #[.int .i64 a.1, .int .i64 a.2] 23)).alloc (.cells #[.int .i64 b.1, .int .i64 b.2] 23)).more R2 n2).alloc (.cells #[.int .i64 ((l.take k).foldl addV (0, 0)).1, .int .i64 ((l.take k).foldl addV (0, 0)).2] 23)).alloc (.cells #[.int .i64 ((l.take k).foldl mulV (1, 0)).1, .int .i64 ((l.take k).foldl mulV (1, 0)).2] 23)) wr)
      (fun i _ => l.length - (intOf i).toNat)
    case atStart => exact ⟨0, Nat.zero_le _, rfl, Grew.refl _⟩
    case round =>
      obtain ⟨k, hk, rfl, R, n, rfl⟩ := hrel
      by_cases hlt : k < l.length
      · obtain ⟨bb, off, rfl, hb, hx, hy⟩ := hl k hlt
        have hs := foldTo_succ (f := addV) (z := (0, 0)) l k hlt
        have hp := foldTo_succ (f := mulV) (z := (1, 0)) l k hlt
        generalize l[k] = xy at *
        generalize (l.take k).foldl addV (0, 0) = pk at *
        generalize (l.take k).foldl mulV (1, 0) = qk at *
        have HS := Lib.hid hs
        have HP := Lib.hid hp
        clear hs hp hl hR hZ hL hT
        go_wp2_with (first
          | (go_at_call 13; refine (refAdd_any _ _ _).mono ?_; rintro e w1 ⟨rfl, R3, n3, rfl⟩)
          | (go_at_call 14; refine (refMul_any _ _ _).mono ?_; rintro e w1 ⟨rfl, R4, n4, rfl⟩))
        go_roundw
        case rel => exact ⟨k + 1, by omega, by go_num, by rw [HS.out, HP.out]; repeat (first | exact Grew.refl _ | apply Grew.more | apply Grew.alloc | apply Grew.drew)⟩
        case measure => simp [intOf]; omega
      obtain rfl : k = l.length := by omega
      have hS : (l.take l.length).foldl addV (0, 0) = sumL l := by rw [List.take_length]; rfl
      have hP : (l.take l.length).foldl mulV (1, 0) = prodL l := by rw [List.take_length]; rfl
      rw [hS, hP]
      clear hS hP hl
      have hv := hv'.out
      go_wp2_with (go_at_call 15; refine (refOf_any _ _ _).mono ?_; rintro e w1 ⟨rfl, R5, n5, rfl⟩)
      refine wp_region_seq 79 Try.mixed (by kernel_rfl) (by kernel_rfl) ?_
      iterate 79
        apply Seq.val
        focus
          rintro w1 u ⟨R1, n1, rfl⟩ hF
          simp [moreFacts, Fact.more, Oper.deps, Region.binds, List.filter_cons, World.more_drew] at hF
          simp [putFacts, Oper.deps, Region.binds, List.filter_cons, Region.dstOf, Fact.at, Act.put, World.more_drew]
          go_wp2_with (first
            | (go_at_call 6; refine (of_any _ _ _).mono ?_; rintro e w1 ⟨rfl, R3, n3, rfl⟩)
            | (go_at_call 12; refine (right_any _ _).mono ?_; rintro e w1 ⟨rfl, R3, n3, rfl⟩)
            | (go_at_call 9; refine (add_any _ l _ (hv.grew (by repeat (first | exact Grew.refl _ | apply Grew.more | apply Grew.alloc | apply Grew.drew)))).mono ?_; rintro e w1 ⟨rfl, R3, n3, rfl⟩)
            | (go_at_call 8; refine (mul_any _ l _ (hv.grew (by repeat (first | exact Grew.refl _ | apply Grew.more | apply Grew.alloc | apply Grew.drew)))).mono ?_; rintro e w1 ⟨rfl, R3, n3, rfl⟩)
            | (go_at_call 10; refine (sub_any _ _ _).mono ?_; rintro e w1 ⟨rfl, R3, n3, rfl⟩)
            | (go_at_call 16; refine (refSub_any _ _ _).mono ?_; rintro e w1 ⟨rfl, R3, n3, rfl⟩)
            | (go_at_call 11; refine (conj_any _ _).mono ?_; rintro e w1 ⟨rfl, R3, n3, rfl⟩)
            | (go_at_call 15; refine (refOf_any _ _ _).mono ?_; rintro e w1 ⟨rfl, R3, n3, rfl⟩)
            | (go_at_call 7; refine (turn_any _ _).mono ?_; rintro e w1 ⟨rfl, R3, n3, rfl⟩)
            | (go_at_call 17; refine (zero_any _ _).mono ?_; rintro e w1 ⟨rfl, R3, n3, rfl⟩)
            | (go_at_call 18; refine (less_any _ _ _).mono ?_; rintro e w1 ⟨rfl, R3, n3, rfl⟩)
            | (go_at_call 19; refine (refInto_any _ _).mono ?_; rintro e w1 ⟨rfl, rfl⟩)
            )
          exact ⟨by repeat (first | exact Grew.refl _ | apply Grew.more | apply Grew.alloc | apply Grew.drew), rfl, _, _, rfl, rfl, rfl⟩
      rintro u w1 ⟨R1, n1, rfl⟩ hF
      clear hF
      simp [putFacts, Region.dstOf, Fact.at, Act.put, List.range_succ, World.more_drew]
      go_wp2
      go_ret
      refine ⟨rfl, ?_⟩
      repeat (first | exact Grew.refl _ | apply Grew.more | apply Grew.alloc | apply Grew.drew)
  · subst hveq
    clear hl hv hv'
    go_enter Try.func4, Try.ntmps4
    go_wp2_with (go_at_call 5; refine (awake03_any _).mono ?_; rintro e w1 ⟨rfl, R2, n2, rfl⟩)
    go_ret
    refine ⟨rfl, ?_⟩
    repeat (first | exact Grew.refl _ | apply Grew.more | apply Grew.alloc | apply Grew.drew)
end Go.Proofs.Ytiocdmfmghanmaa

