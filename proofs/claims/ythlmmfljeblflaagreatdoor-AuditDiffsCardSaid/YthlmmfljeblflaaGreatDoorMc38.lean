import Derived.Test.YthlmmfljeblflaaGreatDoorMc33
import Derived.Test.YthlmmfljeblflaaGreatDoorMc35
import Derived.Test.YthlmmfljeblflaaGreatDoorMc31
/-! forebaylaw28.awake. -/
namespace Go.Proofs.YthlmmfljeblflaaGreatDoor
set_option linter.unusedSimpArgs false
set_option linter.unusedVariables false
open Go.RowKit Ga
set_option maxRecDepth 100000

theorem pass1_rightA : Gr.RightR passL1 := by
  refine ⟨by decide, ?_, by decide, ?_⟩
  · intro i n h
    match i with
    | 0 =>
      cases h
      refine ⟨by decide, by decide, rfl, by decide, by decide, by decide, by decide, by decide, by decide, by decide, by decide, by decide, by decide, by decide, by decide, ?_⟩
      intro k f hk
      cases hk
    | 1 =>
      cases h
      refine ⟨by decide, by decide, rfl, by decide, by decide, by decide, by decide, by decide, by decide, by decide, by decide, by decide, by decide, by decide, by decide, ?_⟩
      intro k f hk
      match k with
      | 0 =>
        cases hk
        exact ⟨⟨0, _, rfl, rfl, by decide⟩, by simp⟩
      | k + 1 => cases hk
    | i + 2 => cases h
  · intro n hn
    simp only [passL1, List.mem_cons, List.not_mem_nil, or_false] at hn
    rcases hn with rfl | rfl <;> rfl
theorem pass1_smallA : Small passL1 := by unfold Small; decide
theorem pass1_par : (parOf passL1).toNat = 1 := by decide
/-- "epoch 0 at 0 lines 0" -/
def ln0 : List UInt8 := [101, 112, 111, 99, 104, 32, 48, 32, 97, 116, 32, 48, 32, 108, 105, 110, 101, 115, 32, 48]
set_option maxHeartbeats 8000000 in
theorem aLines0 (B : Nat) (ao ag : Option Addr) (co cg ng : Nat) (w : World) (hP : Pow w) (hB : w.heap[B]? = some (.cells #[.int .i64 0, .int .i64 0, .slice ao 1 co, .slice ag ng cg, .slice none 0 0, .slice none 0 0, .slice none 0 0] 35)) (ho : IntsAt w (.slice ao 1 co) [0]) :
    Calls Tryz.prog 19 #[.slice (some ⟨B, 0, none⟩) 1 1] w (fun e w' => ∃ v, e = .returned v ∧ OwnAt w.heap.size 9 1 encS w' v [ln0] ∧ Grew w w') := by
  have HI := Lib.hid fun W (q : Grew w W) => itoa_any 0 (by decide) W (hP.grew q)
  rw [itoa_0] at HI
  have HT := Lib.hid fun W (q : Grew w W) => aTold0 (.slice ao 1 co) W (hP.grew q) (ho.grew q)
  have HB := Lib.hid hB
  clear hP hB ho
  go_enter Tryz.func19, Tryz.ntmps19
  go_wp2
  go_loopg [3, 9] 1 (fun gg s3 s9 wr => ∃ k : Nat, k ≤ 1 ∧ 1 - k ≤ gg ∧ s9 = .int .i64 k ∧ Hid (Grew w wr) ∧ Hid (OwnAt w.heap.size 9 1 encS wr s3 (List.replicate k ln0)))
  case atStart => exact ⟨0, by omega, by omega, rfl, Lib.hid (Grew.refl _), Lib.hid (OwnAt.nil _)⟩
  case round =>
    obtain ⟨k, hk, hgg, rfl, HG, HO⟩ := hrel
    rename World => wa
    by_cases hlt : k < 1
    · obtain rfl : k = 0 := by omega
      have hb := grew_heap HG.out HB.out
      have c0 := cell_of (o := 0) hb
      have c1 := cell_of (o := 1) hb
      have c2 := cell_of (o := 2) hb
      have c3 := cell_of (o := 3) hb
      have c4 := cell_of (o := 4) hb
      have c5 := cell_of (o := 5) hb
      have c6 := cell_of (o := 6) hb
      simp at c0 c1 c2 c3 c4 c5 c6
      have p0 := Pre.mk (heap_lt hb)
      clear hb
      go_wp2_with fail
      refine wp_region_seq 16 Tryz.mixed (by kernel_rfl) (by kernel_rfl) ?_
      iterate 2
        apply Seq.val
        focus
          rintro w1 u ⟨R1, n1, rfl⟩ hF
          simp [moreFacts, Fact.more, Oper.deps, Region.binds, List.filter_cons, World.more_drew] at hF
          simp [putFacts, Oper.deps, Region.binds, List.filter_cons, Region.dstOf, Fact.at, Act.put, World.more_drew]
          go_wp2
          exact ⟨by repeat (first | with_reducible exact Grew.refl _ | apply Grew.more | apply Grew.alloc | apply Grew.drew | apply Grew.drewN), rfl, _, _, rfl, rfl, rfl⟩
      apply Seq.val
      focus
        rintro w1 u ⟨R1, n1, rfl⟩ hF
        simp [moreFacts, Fact.more, Oper.deps, Region.binds, List.filter_cons, World.more_drew] at hF
        simp [putFacts, Oper.deps, Region.binds, List.filter_cons, Region.dstOf, Fact.at, Act.put, World.more_drew]
        go_wp2_with (first
          | (go_at_call 16; refine (HI.out _ (HG.out.trans (by repeat (first | with_reducible exact Grew.refl _ | apply Grew.more | apply Grew.alloc | apply Grew.drew | apply Grew.drewN)))).mono ?_; rintro e w1 ⟨rfl, R1, n1, rfl⟩)
          )
        exact ⟨by repeat (first | with_reducible exact Grew.refl _ | apply Grew.more | apply Grew.alloc | apply Grew.drew | apply Grew.drewN), rfl, _, _, rfl, rfl, rfl⟩
      iterate 4
        apply Seq.val
        focus
          rintro w1 u ⟨R1, n1, rfl⟩ hF
          simp [moreFacts, Fact.more, Oper.deps, Region.binds, List.filter_cons, World.more_drew] at hF
          simp [putFacts, Oper.deps, Region.binds, List.filter_cons, Region.dstOf, Fact.at, Act.put, World.more_drew]
          go_wp2
          exact ⟨by repeat (first | with_reducible exact Grew.refl _ | apply Grew.more | apply Grew.alloc | apply Grew.drew | apply Grew.drewN), rfl, _, _, rfl, rfl, rfl⟩
      apply Seq.val
      focus
        rintro w1 u ⟨R1, n1, rfl⟩ hF
        simp [moreFacts, Fact.more, Oper.deps, Region.binds, List.filter_cons, World.more_drew] at hF
        simp [putFacts, Oper.deps, Region.binds, List.filter_cons, Region.dstOf, Fact.at, Act.put, World.more_drew]
        go_wp2_with (first
          | (go_at_call 34; refine (HT.out _ (HG.out.trans (by repeat (first | with_reducible exact Grew.refl _ | apply Grew.more | apply Grew.alloc | apply Grew.drew | apply Grew.drewN)))).mono ?_; rintro e w1 ⟨rfl, R1, n1, rfl⟩)
          )
        exact ⟨by repeat (first | with_reducible exact Grew.refl _ | apply Grew.more | apply Grew.alloc | apply Grew.drew | apply Grew.drewN), rfl, _, _, rfl, rfl, rfl⟩
      iterate 5
        apply Seq.val
        focus
          rintro w1 u ⟨R1, n1, rfl⟩ hF
          simp [moreFacts, Fact.more, Oper.deps, Region.binds, List.filter_cons, World.more_drew] at hF
          simp [putFacts, Oper.deps, Region.binds, List.filter_cons, Region.dstOf, Fact.at, Act.put, World.more_drew]
          go_wp2
          exact ⟨by repeat (first | with_reducible exact Grew.refl _ | apply Grew.more | apply Grew.alloc | apply Grew.drew | apply Grew.drewN), rfl, _, _, rfl, rfl, rfl⟩
      apply Seq.val
      focus
        rintro w1 u ⟨R1, n1, rfl⟩ hF
        simp [moreFacts, Fact.more, Oper.deps, Region.binds, List.filter_cons, World.more_drew] at hF
        simp [putFacts, Oper.deps, Region.binds, List.filter_cons, Region.dstOf, Fact.at, Act.put, World.more_drew]
        go_wp2_with (first
          | (go_at_call 16; refine (HI.out _ (HG.out.trans (by repeat (first | with_reducible exact Grew.refl _ | apply Grew.more | apply Grew.alloc | apply Grew.drew | apply Grew.drewN)))).mono ?_; rintro e w1 ⟨rfl, R1, n1, rfl⟩)
          )
        exact ⟨by repeat (first | with_reducible exact Grew.refl _ | apply Grew.more | apply Grew.alloc | apply Grew.drew | apply Grew.drewN), rfl, _, _, rfl, rfl, rfl⟩
      iterate 2
        apply Seq.val
        focus
          rintro w1 u ⟨R1, n1, rfl⟩ hF
          simp [moreFacts, Fact.more, Oper.deps, Region.binds, List.filter_cons, World.more_drew] at hF
          simp [putFacts, Oper.deps, Region.binds, List.filter_cons, Region.dstOf, Fact.at, Act.put, World.more_drew]
          go_wp2
          exact ⟨by repeat (first | with_reducible exact Grew.refl _ | apply Grew.more | apply Grew.alloc | apply Grew.drew | apply Grew.drewN), rfl, _, _, rfl, rfl, rfl⟩
      rintro u w1 ⟨R1, n1, rfl⟩ hF
      clear hF
      simp [putFacts, Region.dstOf, Fact.at, Act.put, List.range_succ, World.more_drew]
      go_wp2_with (at_builtin; go_loud (refine wpList_ownK (w0 := w) rfl (.tmp 38) (.tmp 40) 42 _ _ _ _ [ln0] rfl Tryz.underlying42 infoStr rfl (by decide) encS_len encS_one rfl (OwnAt.grew HO.out (by repeat (first | with_reducible exact Grew.refl _ | apply Grew.more | apply Grew.alloc | apply Grew.drew | apply Grew.drewN))) (HG.out.trans (by repeat (first | with_reducible exact Grew.refl _ | apply Grew.more | apply Grew.alloc | apply Grew.drew | apply Grew.drewN))) rfl (str_at _ _ _ _ _ (by first | rfl | decide +kernel) rfl (by simp [go_sem])) (by simp) (by decide) (by simp) ?_); intro v7 W7 hA; (have HA7 := Lib.hid hA); clear hA)
      go_roundg 0
      case measure => omega
      case rel => exact ⟨1, by omega, by omega, by go_num, Lib.hid HA7.out.1, Lib.hid HA7.out.2.1⟩
    · obtain rfl : k = 1 := by omega
      go_wp2
      go_ret
      exact ⟨_, rfl, HO.out, HG.out⟩
end Go.Proofs.YthlmmfljeblflaaGreatDoor

/-! forebaylaw28.awake. -/
namespace Go.Proofs.YthlmmfljeblflaaGreatDoor
set_option linter.unusedSimpArgs false
set_option linter.unusedVariables false
open Go.RowKit Ga
set_option maxRecDepth 100000

set_option maxHeartbeats 8000000 in
theorem awake28_any (w : World) (hP : Pow w) : Calls Tryz.prog 8 #[] w (Gives (.bool true) w) := by
  have HP := Lib.hid hP
  clear hP
  go_enter Tryz.func8, Tryz.ntmps8
  go_wp2_with (first
    | (go_at_call 18; refine (pass1_any _).mono ?_; rintro e w1 ⟨v1, rfl, hv1, R1, n1, rfl⟩; obtain ⟨a1, c1, rfl, -, -⟩ := hv1.openC; (have HV1 := Lib.hid hv1); clear hv1)
    | (go_at_call 17; refine (first_any _ passL1 _ HV1.out pass1_smallA).mono ?_; rintro e w1 ⟨h2, -, R5, n5, rfl⟩; obtain ⟨a5, c5, a6, c6, rfl, hi5, hn5⟩ := h2 pass1_rightA; rw [pass1_par] at hi5 ⊢; (have HI5 := Lib.hid hi5); clear h2 hi5 hn5)
    | fail)
  refine (aLines0 _ a5 a6 c5 c6 _ _ (HP.out.grew (by repeat (first | with_reducible exact Grew.refl _ | apply Grew.more | apply Grew.alloc | apply Grew.drew | apply Grew.drewN))) (heap_new_at _ _ _ (by simp [go_sem])) (HI5.out.grew (by repeat (first | with_reducible exact Grew.refl _ | apply Grew.more | apply Grew.alloc | apply Grew.drew | apply Grew.drewN)))).mono ?_
  rintro e w1 ⟨v, rfl, hv, R6, n6, rfl⟩
  obtain ⟨b, cap, rfl, hb, hc⟩ := strs_open hv (by decide)
  have s0 := hc 0 (by decide)
  simp at s0
  have hl : ln0 = [101, 112, 111, 99, 104, 32, 48, 32, 97, 116, 32, 48, 32, 108, 105, 110, 101, 115, 32, 48] := rfl
  rw [hl] at s0
  clear hv hc hl
  go_wp2_with fail
  go_ret
  exact ⟨rfl, by repeat (first | with_reducible exact Grew.refl _ | apply Grew.more | apply Grew.alloc | apply Grew.drew | apply Grew.drewN)⟩
end Go.Proofs.YthlmmfljeblflaaGreatDoor
