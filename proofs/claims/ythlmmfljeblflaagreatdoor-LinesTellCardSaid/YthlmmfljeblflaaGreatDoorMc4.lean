import Derived.Test.YthlmmfljeblflaaGreatDoorRows
import Derived.Test.YthlmmfljeblflaaGreatDoorMc1
import Derived.Test.YthlmmfljeblflaaGreatDoorMc2
import Derived.Test.YthlmmfljeblflaaGreatDoorMc0
import Derived.WalkKit
import Derived.WalkSpells
import Derived.StillTactics
import Derived.Laws.Pointers
import Derived.Laws.ComplexArith
import Derived.Deep.RegionHeld3
import Derived.Deep.QuietTactic
import Derived.BigQuiet
import Derived.Below
import Derived.Lib.Hide
import Derived.Outline
import Derived.LoopTactic
/-! The contracts of package gauss, and of the other text of it. -/
namespace Go.Proofs.YthlmmfljeblflaaGreatDoor
set_option linter.unusedSimpArgs false
set_option linter.unusedVariables false
open Go.RowKit Ga

/-- The call returns v; there are new blocks, nothing else has turned. -/
def Gives (v : Value) (w : World) (e : Ending) (w' : World) : Prop := e = .returned v ∧ Grew w w'
abbrev vv (a : Ga.Val) : Value := .agg #[.int .i64 a.1, .int .i64 a.2]
abbrev ValsAt (w : World) (v : Value) (l : List Ga.Val) : Prop := RowsAt 2 (fun a : Ga.Val => [.int .i64 a.1, .int .i64 a.2]) w v l

theorem Tryz.mixed : Tryz.prog.follows .mixedOrders = true := by kernel_rfl

theorem into_any (n : Int) (w : World) : Calls Tryz.prog 171 #[.int .i64 n] w fun e w' => e = .returned (.int .i64 (into n)) ∧ w = w' := by
  have h1 := tmod_lt n
  have h2 := lt_tmod n
  unfold into
  by_cases c1 : n.tmod 1048576 < 0
  · by_cases c2 : n.tmod 1048576 + 1048576 ≥ 524288
    all_goals
      go_enter Tryz.func171, Tryz.ntmps171
      go_wp2
      go_ret
      refine ⟨?_, rfl⟩
      simp [c1, c2]
  · by_cases c2 : n.tmod 1048576 ≥ 524288
    all_goals
      go_enter Tryz.func171, Tryz.ntmps171
      go_wp2
      go_ret
      refine ⟨?_, rfl⟩
      simp [c1, c2]

theorem refInto_any (n : Int) (w : World) : Calls Tryz.prog 68 #[.int .i64 n] w fun e w' => e = .returned (.int .i64 (into n)) ∧ w = w' := by
  have h1 := tmod_lt n
  have h2 := lt_tmod n
  have h3 := into_ref n
  by_cases c1 : n.tmod 1048576 < -524288
  · rw [if_pos c1] at h3
    by_cases c2 : n.tmod 1048576 + 1048576 ≥ 524288
    · omega
    · rw [if_neg c2] at h3
      rw [← h3]
      go_enter Tryz.func68, Tryz.ntmps68
      clear h3
      go_wp2
      go_ret
      exact ⟨rfl, rfl⟩
  · rw [if_neg c1] at h3
    by_cases c2 : n.tmod 1048576 ≥ 524288
    · rw [if_pos c2] at h3
      rw [← h3]
      go_enter Tryz.func68, Tryz.ntmps68
      clear h3
      go_wp2
      go_ret
      exact ⟨rfl, rfl⟩
    · rw [if_neg c2] at h3
      rw [← h3]
      go_enter Tryz.func68, Tryz.ntmps68
      clear h3
      go_wp2
      go_ret
      exact ⟨rfl, rfl⟩

theorem of_any (x y : Int) (w : World) : Calls Tryz.prog 149 #[.int .i64 x, .int .i64 y] w (Gives (.agg #[.int .i64 (into x), .int .i64 (into y)]) w) := by
  go_enter Tryz.func149, Tryz.ntmps149
  go_wp2_with (go_at_call 171; refine (into_any _ _).mono ?_; rintro e w' ⟨rfl, rfl⟩)
  refine bodyPost_ret (v := .agg #[.int .i64 (into x), .int .i64 (into y)]) (by simp [results, Tryz.results149, go_sem]) rfl ⟨rfl, ?_⟩
  exact (Grew.refl _).alloc _

theorem refOf_any (x y : Int) (w : World) : Calls Tryz.prog 36 #[.int .i64 x, .int .i64 y] w (Gives (.agg #[.int .i64 (into x), .int .i64 (into y)]) w) := by
  go_enter Tryz.func36, Tryz.ntmps36
  go_wp2_with (go_at_call 68; refine (refInto_any _ _).mono ?_; rintro e w' ⟨rfl, rfl⟩)
  refine bodyPost_ret (v := .agg #[.int .i64 (into x), .int .i64 (into y)]) (by simp [results, Tryz.results36, go_sem]) rfl ⟨rfl, ?_⟩
  exact (Grew.refl _).alloc _

def fl (z : Int) : Nat := floatOfInt .f64 z
end Go.Proofs.YthlmmfljeblflaaGreatDoor

/-! The contracts of package gauss, part two. -/
namespace Go.Proofs.YthlmmfljeblflaaGreatDoor
set_option linter.unusedSimpArgs false
set_option linter.unusedVariables false
open Go.RowKit Ga

set_option maxHeartbeats 1000000 in
theorem right_any (a : Val) (w : World) : Calls Tryz.prog 110 #[vv a] w (Gives (.bool (rightV a)) w) := by
  obtain ⟨x, y⟩ := a
  have H : rightV (x, y) = (decide (into x = x) && decide (into y = y)) := by
    unfold rightV; simp only [eq_comm]
  by_cases h1 : into x = x <;> by_cases h2 : into y = y
  all_goals
    rw [H]
    simp only [h1, h2, decide_true, decide_false, Bool.and_true, Bool.and_false, Bool.and_self]
    clear H
    try (have h1' : ¬ x = into x := fun e => h1 e.symm)
    try (have h2' : ¬ y = into y := fun e => h2 e.symm)
    go_enter Tryz.func110, Tryz.ntmps110
    go_wp2
    refine wp_region_seq 8 Tryz.mixed (by kernel_rfl) (by kernel_rfl) ?_
    iterate 8
      apply Seq.val
      focus
        rintro w1 u ⟨R1, n1, rfl⟩ -
        simp [putFacts, Oper.deps, Region.binds, List.filter_cons, Region.dstOf, Fact.at, Act.put, World.more_drew]
        go_wp2_with (first
        | (go_at_call 149; refine (of_any _ _ _).mono ?_; rintro e w1 ⟨rfl, R1, n1, rfl⟩))
        exact ⟨by repeat (first | exact Grew.refl _ | apply Grew.more | apply Grew.alloc | apply Grew.drew), rfl, _, _, rfl, rfl, rfl⟩
    rintro u w1 ⟨R1, n1, rfl⟩ -
    simp [putFacts, Region.dstOf, Fact.at, Act.put, List.range_succ, World.more_drew]
    go_wp2
    go_ret
    exact ⟨rfl, by repeat (first | exact Grew.refl _ | apply Grew.more | apply Grew.alloc | apply Grew.drew)⟩

end Go.Proofs.YthlmmfljeblflaaGreatDoor

/-! Instructions and values as two cells. -/
namespace Go.Proofs.YthlmmfljeblflaaGreatDoor
set_option linter.unusedSimpArgs false
set_option linter.unusedVariables false
open Go.RowKit Ga
set_option maxRecDepth 100000

def encI (a : Val) : List Value := [.int .i64 a.1, .int .i64 a.2]
theorem infoIns : (Tryz.prog.info? 83).map (fun i => (i.zero, i.size, i.bytes)) = some (some (.agg #[.int .i64 0, .int .i64 0]), 2, 16) := by kernel_rfl

theorem encI_len (l : Val) : (encI l).length = 2 := rfl
theorem encI_one (l : Val) : ∀ u ∈ encI l, u.oneCell' = true := by
  intro u hu; simp [encI] at hu; rcases hu with rfl | rfl <;> rfl
theorem encI_at (W : World) (a : Val) (t : TypeId) (b : Nat) {c : Array Value} (hc : c = #[.int .i64 a.1, .int .i64 a.2]) (hb : b = W.heap.size) : ∀ j u, (encI a)[j]? = some u → (W.alloc (.cells c t)).cell? ⟨b, j, none⟩ = some u := by
  subst hc
  intro j u hu
  rw [new_cells W _ t b hb j]
  simpa [encI] using hu
end Go.Proofs.YthlmmfljeblflaaGreatDoor
