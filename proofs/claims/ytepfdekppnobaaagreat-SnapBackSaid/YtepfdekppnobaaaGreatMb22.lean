import Derived.Test.YtepfdekppnobaaaGreatMb15
import Derived.Test.YtepfdekppnobaaaGreatMb17
import Derived.Test.YtepfdekppnobaaaGreatMb5
import Derived.Test.YtepfdekppnobaaaGreatMb0
import Derived.Deep.QuietTactic
import Derived.BigQuiet
/-! route: Right, Task. -/
namespace Go.Proofs.YtepfdekppnobaaaGreat
set_option linter.unusedSimpArgs false
set_option linter.unusedVariables false
open Go.RowKit Ga
set_option maxRecDepth 100000

theorem tmod8r' (k : Int) : -8 < k.tmod 8 ∧ k.tmod 8 < 8 ∧ (k.tmod 8) % 8 = k % 8 := by
  rw [Int.tmod_eq_emod]
  split <;> simp <;> omega
theorem tmod8' (k : Int) : (k.tmod 8 + 8).tmod 8 = k % 8 := by
  obtain ⟨h1, h2, h3⟩ := tmod8r' k
  rw [Int.tmod_eq_emod_of_nonneg (by omega)]
  omega
theorem groupOf_any (k : Int) (w : World) : Calls Tryz.prog 128 #[.int .i64 k] w fun e w' => e = .returned (.int .i64 (k % 8)) ∧ w = w' := by
  obtain ⟨h1, h3, -⟩ := tmod8r' k
  have h2 := tmod8' k
  go_enter Tryz.func128, Tryz.ntmps128
  go_wp2
  go_ret
  exact ⟨rfl, rfl⟩
/-- may a route be? -/
def rtB (par : Int) (r : List Int) : Bool := decide (1 ≤ par) && (decide (par ≤ 3) && r.all fun t => decide (0 ≤ t) && decide (t < par))
theorem rtB_iff {par : Int} {r : List Int} : rtB par r = true ↔ (1 ≤ par ∧ par ≤ 3) ∧ ∀ t ∈ r, 0 ≤ t ∧ t < par := by
  unfold rtB
  simp [and_assoc]
theorem index8 (r0 r1 r2 r3 r4 r5 r6 r7 : Int) (k : Nat) (hk : k < 8) (w : World) : (Instr.index 62 (.agg #[.int .i64 r0, .int .i64 r1, .int .i64 r2, .int .i64 r3, .int .i64 r4, .int .i64 r5, .int .i64 r6, .int .i64 r7]) (.int .i64 k)).run Tryz.prog w = .ok (.int .i64 ([r0, r1, r2, r3, r4, r5, r6, r7].getD k 0)) w := by
  rcases (show k = 0 ∨ k = 1 ∨ k = 2 ∨ k = 3 ∨ k = 4 ∨ k = 5 ∨ k = 6 ∨ k = 7 by omega) with rfl | rfl | rfl | rfl | rfl | rfl | rfl | rfl <;> kernel_rfl
set_option maxHeartbeats 4000000 in
theorem routeRight_any (par r0 r1 r2 r3 r4 r5 r6 r7 : Int) (w : World) : Calls Tryz.prog 97 #[.int .i64 par, .agg #[.int .i64 r0, .int .i64 r1, .int .i64 r2, .int .i64 r3, .int .i64 r4, .int .i64 r5, .int .i64 r6, .int .i64 r7]] w (Gives (.bool (rtB par [r0, r1, r2, r3, r4, r5, r6, r7])) w) := by
  have hmem : ∀ k, k < 8 → [r0, r1, r2, r3, r4, r5, r6, r7].getD k 0 ∈ [r0, r1, r2, r3, r4, r5, r6, r7] := fun k hk => by
    rw [List.getD_eq_getElem?_getD, List.getElem?_eq_getElem (by simpa using hk)]
    exact List.getElem_mem _
  have hall : (∀ k, k < 8 → 0 ≤ [r0, r1, r2, r3, r4, r5, r6, r7].getD k 0 ∧ [r0, r1, r2, r3, r4, r5, r6, r7].getD k 0 < par) → ∀ t ∈ [r0, r1, r2, r3, r4, r5, r6, r7], 0 ≤ t ∧ t < par := fun h t ht => by
    obtain ⟨i, hi, e⟩ := List.mem_iff_getElem.1 ht
    have := h i (by simpa using hi)
    rw [List.getD_eq_getElem?_getD, List.getElem?_eq_getElem hi, e] at this
    exact this
  have hix := index8 r0 r1 r2 r3 r4 r5 r6 r7
  have HIFF := Lib.hid (rtB_iff (par := par) (r := [r0, r1, r2, r3, r4, r5, r6, r7]))
  have HMEM := Lib.hid hmem
  have HALL := Lib.hid hall
  have HIX := Lib.hid hix
  clear hmem hall hix
  generalize hQ : rtB par [r0, r1, r2, r3, r4, r5, r6, r7] = q at *
  clear hQ
  by_cases h1 : 1 ≤ par
  case neg =>
    have hq : q = false := by cases hq : q; · rfl
                              · exact absurd (HIFF.out.1 hq).1.1 h1
    subst hq
    go_enter Tryz.func97, Tryz.ntmps97
    go_wp2
    go_ret
    refine ⟨rfl, ?_⟩
    repeat (first | with_reducible exact Grew.refl _ | apply Grew.more | apply Grew.alloc | apply Grew.drew | apply Grew.drewN)
  by_cases h2 : par ≤ 3
  case neg =>
    have hq : q = false := by cases hq : q; · rfl
                              · exact absurd (HIFF.out.1 hq).1.2 h2
    subst hq
    go_enter Tryz.func97, Tryz.ntmps97
    go_wp2
    go_ret
    refine ⟨rfl, ?_⟩
    repeat (first | with_reducible exact Grew.refl _ | apply Grew.more | apply Grew.alloc | apply Grew.drew | apply Grew.drewN)
  go_enter Tryz.func97, Tryz.ntmps97
  go_wp2
  go_loopg [14] 8 (fun gg s14 wr => ∃ k : Nat, k ≤ 8 ∧ 8 - k ≤ gg ∧ s14 = .int .i64 k ∧ Hid (Grew w wr) ∧ Hid (∀ j, j < k → 0 ≤ [r0, r1, r2, r3, r4, r5, r6, r7].getD j 0 ∧ [r0, r1, r2, r3, r4, r5, r6, r7].getD j 0 < par))
  case atStart => exact ⟨0, by omega, by omega, rfl, Lib.hid (by repeat (first | with_reducible exact Grew.refl _ | apply Grew.more | apply Grew.alloc | apply Grew.drew | apply Grew.drewN)), Lib.hid fun j h => by omega⟩
  case round =>
    obtain ⟨k, hk, hgg, rfl, HG, HNO⟩ := hrel
    by_cases hlt : k < 8
    · have hi := HIX.out k hlt
      have hm := HMEM.out k hlt
      have hstep : (0 ≤ [r0, r1, r2, r3, r4, r5, r6, r7].getD k 0 ∧ [r0, r1, r2, r3, r4, r5, r6, r7].getD k 0 < par) → ∀ j, j < k + 1 → 0 ≤ [r0, r1, r2, r3, r4, r5, r6, r7].getD j 0 ∧ [r0, r1, r2, r3, r4, r5, r6, r7].getD j 0 < par := fun h j hj => by
        rcases Nat.lt_or_ge j k with h1 | h1
        · exact HNO.out j h1
        · obtain rfl : j = k := by omega
          exact h
      generalize hy : [r0, r1, r2, r3, r4, r5, r6, r7].getD k 0 = y at *
      by_cases h3 : 0 ≤ y
      case neg =>
        have hq : q = false := by cases hq : q; · rfl
                                  · exact absurd ((HIFF.out.1 hq).2 y hm).1 h3
        subst hq
        clear hm hstep hy
        go_wp2
        go_ret
        exact ⟨rfl, HG.out.trans (by repeat (first | with_reducible exact Grew.refl _ | apply Grew.more | apply Grew.alloc | apply Grew.drew | apply Grew.drewN))⟩
      by_cases h4 : y < par
      case neg =>
        have hq : q = false := by cases hq : q; · rfl
                                  · exact absurd ((HIFF.out.1 hq).2 y hm).2 h4
        subst hq
        clear hm hstep hy
        go_wp2
        go_ret
        exact ⟨rfl, HG.out.trans (by repeat (first | with_reducible exact Grew.refl _ | apply Grew.more | apply Grew.alloc | apply Grew.drew | apply Grew.drewN))⟩
      have HS := Lib.hid (hstep ⟨h3, h4⟩)
      clear hm hstep hy
      go_wp2
      go_roundg (8 - (k + 1))
      case measure => omega
      case rel => exact ⟨k + 1, by omega, by omega, by go_num, HG, HS⟩
    · obtain rfl : k = 8 := by omega
      have hq : q = true := HIFF.out.2 ⟨⟨h1, h2⟩, HALL.out HNO.out⟩
      subst hq
      go_wp2
      go_ret
      exact ⟨rfl, HG.out.trans (by repeat (first | with_reducible exact Grew.refl _ | apply Grew.more | apply Grew.alloc | apply Grew.drew | apply Grew.drewN))⟩
set_option maxHeartbeats 4000000 in
theorem routeTask_any (r0 r1 r2 r3 r4 r5 r6 r7 k : Int) (w : World) : Calls Tryz.prog 98 #[.agg #[.int .i64 r0, .int .i64 r1, .int .i64 r2, .int .i64 r3, .int .i64 r4, .int .i64 r5, .int .i64 r6, .int .i64 r7], .int .i64 k] w (Gives (.int .i64 ([r0, r1, r2, r3, r4, r5, r6, r7].getD (k % 8).toNat 0)) w) := by
  obtain ⟨g, hg⟩ : ∃ g : Nat, (k % 8).toNat = g := ⟨_, rfl⟩
  have hk : k % 8 = (g : Int) := by omega
  have hg8 : g < 8 := by omega
  rw [hg]
  have HC := Lib.hid fun W => groupOf_any k W
  rw [hk] at HC
  clear hg hk
  have hc : ∀ W : World, W.heap[w.heap.size]? = some (.cells #[.int .i64 r0, .int .i64 r1, .int .i64 r2, .int .i64 r3, .int .i64 r4, .int .i64 r5, .int .i64 r6, .int .i64 r7] 62) → W.cell? ⟨w.heap.size, g, none⟩ = some (.int .i64 ([r0, r1, r2, r3, r4, r5, r6, r7].getD g 0)) := fun W h => by
    rw [cell_of h]
    rcases (show g = 0 ∨ g = 1 ∨ g = 2 ∨ g = 3 ∨ g = 4 ∨ g = 5 ∨ g = 6 ∨ g = 7 by omega) with rfl | rfl | rfl | rfl | rfl | rfl | rfl | rfl <;> rfl
  have c0 := hc _ (heap_new_at w (.cells #[.int .i64 r0, .int .i64 r1, .int .i64 r2, .int .i64 r3, .int .i64 r4, .int .i64 r5, .int .i64 r6, .int .i64 r7] 62) _ rfl)
  clear hc
  generalize [r0, r1, r2, r3, r4, r5, r6, r7].getD g 0 = y at *
  go_enter Tryz.func98, Tryz.ntmps98
  go_wp2_with (go_at_call 128; refine (HC.out _).mono ?_; rintro e w1 ⟨rfl, rfl⟩)
  go_ret
  refine ⟨rfl, ?_⟩
  repeat (first | with_reducible exact Grew.refl _ | apply Grew.more | apply Grew.alloc | apply Grew.drew | apply Grew.drewN)
end Go.Proofs.YtepfdekppnobaaaGreat
