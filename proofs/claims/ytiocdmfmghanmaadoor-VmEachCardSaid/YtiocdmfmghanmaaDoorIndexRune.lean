import Derived.Test.YtiocdmfmghanmaaDoorShelf
import Derived.Test.YtiocdmfmghanmaaDoorRegion
import Derived.Test.YtiocdmfmghanmaaDoorGaussB
import Derived.Scope
import Derived.Laws.RangeString
/-! strings.IndexRune of a rune beyond ASCII in "+-": -1. -/
namespace Go.Proofs.YtiocdmfmghanmaaDoor
open Go.RowKit
set_option linter.unusedSimpArgs false
set_option linter.unusedVariables false
set_option maxRecDepth 100000

theorem indexRune_invalid (r : Int) (h0 : 128 ≤ r) (h1 : r ≤ 1114111) (w : World) (h65 : (r == 65533) = false) (hv : Lib.validRune r = false) :
    Calls Tryd.prog 66 #[.string ⟨#[43, 45]⟩, .int .i32 r] w fun e w' => e = .returned (.int .i64 (-1)) ∧ w = w' := by
  go_enter Tryd.func66, Tryd.ntmps66
  go_wp2_with (go_at_call 91; refine (Tryd.utf8_ValidRune _ _).mono ?_; rintro e w' ⟨rfl, rfl⟩)
  go_ret
  exact ⟨rfl, rfl⟩

theorem iter_grew (w : World) (s : ByteArray) (k : Nat) : Grew w (w.iter s k) := (Grew.refl w).alloc _
theorem next_pm0 (w : World) (ty : TypeId) : (Instr.next (.pointer (some ⟨w.heap.size, 0, none⟩)) true ty).run Tryd.prog (w.iter ⟨#[43, 45]⟩ 0) = .ok (.tuple #[.bool true, .int .i64 0, .int .i32 43]) (w.iter ⟨#[43, 45]⟩ 1) :=
  run_next_ascii w ⟨#[43, 45]⟩ 0 ty (by decide) (by decide)
theorem next_pm1 (w : World) (ty : TypeId) : (Instr.next (.pointer (some ⟨w.heap.size, 0, none⟩)) true ty).run Tryd.prog (w.iter ⟨#[43, 45]⟩ 1) = .ok (.tuple #[.bool true, .int .i64 1, .int .i32 45]) (w.iter ⟨#[43, 45]⟩ 2) :=
  run_next_ascii w ⟨#[43, 45]⟩ 1 ty (by decide) (by decide)
theorem next_pm2 (w : World) (ty : TypeId) : (Instr.next (.pointer (some ⟨w.heap.size, 0, none⟩)) true ty).run Tryd.prog (w.iter ⟨#[43, 45]⟩ 2) = .ok (.tuple #[.bool false]) (w.iter ⟨#[43, 45]⟩ 2) :=
  run_next_end w ⟨#[43, 45]⟩ 2 ty (by decide)

theorem indexRune_error (w : World) :
    Calls Tryd.prog 66 #[.string ⟨#[43, 45]⟩, .int .i32 65533] w (Gives (.int .i64 (-1)) w) := by
  have h0 := next_pm0 w
  have h1 := next_pm1 w
  have h2 := next_pm2 w
  go_enter Tryd.func66, Tryd.ntmps66
  go_wp2
  refine wp_loop_rounds 3 ?_
  rw [rounds_succ]
  go_wp2
  rw [rounds_succ]
  go_wp2
  rw [rounds_succ]
  go_wp2
  go_ret
  exact ⟨rfl, iter_grew w _ _⟩

theorem enc_shape (r : Int) (h0 : 128 ≤ r) (hv : Lib.validRune r = true) : (∃ b0 b1, Utf8.encode r = ⟨#[b0, b1]⟩ ∧ 128 ≤ b1.toNat) ∨ (∃ b0 b1 b2, Utf8.encode r = ⟨#[b0, b1, b2]⟩) ∨ (∃ b0 b1 b2 b3, Utf8.encode r = ⟨#[b0, b1, b2, b3]⟩) := by
  have hval : Utf8.valid r = true := by
    unfold Lib.validRune at hv; unfold Utf8.valid
    simp at hv ⊢
    omega
  unfold Utf8.encode
  simp only [hval, if_true]
  rw [if_neg (by omega)]
  split
  · left
    refine ⟨_, _, rfl, ?_⟩
    rw [UInt8.toNat_ofNat']
    have : r.toNat % 64 < 64 := Nat.mod_lt _ (by decide)
    omega
  · split
    · exact .inr (.inl ⟨_, _, _, rfl⟩)
    · exact .inr (.inr ⟨_, _, _, _, rfl⟩)

theorem indexRune_high (r : Int) (h0 : 128 ≤ r) (h1 : r ≤ 1114111) (w : World) (h65 : (r == 65533) = false) (hv : Lib.validRune r = true) :
    Calls Tryd.prog 66 #[.string ⟨#[43, 45]⟩, .int .i32 r] w (Gives (.int .i64 (-1)) w) := by
  rcases enc_shape r h0 hv with ⟨b0, b1, he, hb⟩ | ⟨b0, b1, b2, he⟩ | ⟨b0, b1, b2, b3, he⟩
  · have hne : ((((⟨#[43, 45]⟩ : ByteArray)[1]'(by decide)).toNat : Int) != (((⟨#[b0, b1]⟩ : ByteArray)[1]'(by simp [ByteArray.size])).toNat : Int)) = true := by
      rw [bne_iff_ne]
      show (45 : Int) ≠ (b1.toNat : Int)
      omega
    go_enter Tryd.func66, Tryd.ntmps66
    go_wp2_with (go_at_call 91; refine (Tryd.utf8_ValidRune _ _).mono ?_; rintro e w' ⟨rfl, rfl⟩)
    go_step3
    go_wp2
    refine wp_loop_rounds 1 ?_
    rw [rounds_succ]
    go_wp2
    go_step3
    go_wp2
    go_quiet (fail)
    go_wp2
    refine wp_region_seq 9 Tryd.mixed (by kernel_rfl) (by kernel_rfl) ?_
    iterate 9
      apply Seq.val
      focus
        rintro w1 u ⟨R1, n1, rfl⟩ hF
        simp [moreFacts, Fact.more, Oper.deps, Region.binds, List.filter_cons, World.more_drew] at hF
        simp [putFacts, Oper.deps, Region.binds, List.filter_cons, Region.dstOf, Fact.at, Act.put, World.more_drew]
        go_wp2_with (first
          | (go_at_call 90; refine (Tryd.strings_IndexByte _ _ _).mono ?_; rintro e w1 ⟨rfl, rfl⟩)
          )
        exact ⟨by repeat (first | with_reducible exact Grew.refl _ | apply Grew.more | apply Grew.alloc | apply Grew.drew | apply Grew.drewN), rfl, _, _, rfl, rfl, rfl⟩
    rintro u w1 ⟨R1, n1, rfl⟩ hF
    clear hF
    simp [putFacts, Region.dstOf, Fact.at, Act.put, List.range_succ, World.more_drew]
    go_wp2
    rw [Exit.noGoto_ret]
    go_ret
    refine ⟨rfl, ?_⟩
    repeat (first | with_reducible exact Grew.refl _ | apply Grew.more | apply Grew.alloc | apply Grew.drew | apply Grew.drewN)
  · go_enter Tryd.func66, Tryd.ntmps66
    go_wp2_with (go_at_call 91; refine (Tryd.utf8_ValidRune _ _).mono ?_; rintro e w' ⟨rfl, rfl⟩)
    go_step3
    go_wp2
    refine wp_loop_rounds 1 ?_
    rw [rounds_succ]
    go_wp2
    rw [Exit.noGoto_ret]
    go_ret
    exact ⟨rfl, Grew.refl _⟩
  · go_enter Tryd.func66, Tryd.ntmps66
    go_wp2_with (go_at_call 91; refine (Tryd.utf8_ValidRune _ _).mono ?_; rintro e w' ⟨rfl, rfl⟩)
    go_step3
    go_wp2
    refine wp_loop_rounds 1 ?_
    rw [rounds_succ]
    go_wp2
    rw [Exit.noGoto_ret]
    go_ret
    exact ⟨rfl, Grew.refl _⟩
/-- .. of any rune that a decoder may leave: whether it is one of the two. -/
theorem indexRune_pm (r : Int) (h0 : 0 ≤ r) (h1 : r ≤ 1114111) (w : World) :
    Calls Tryd.prog 66 #[.string ⟨#[43, 45]⟩, .int .i32 r] w (fun e w' => ∃ k : Int, e = .returned (.int .i64 k) ∧ (0 ≤ k ↔ r = 43 ∨ r = 45) ∧ Grew w w') := by
  by_cases ha : r < 128
  · refine (Tryd.strings_IndexRune_ascii ⟨#[43, 45]⟩ r w h0 ha).mono ?_
    rintro e w' ⟨rfl, rfl⟩
    refine ⟨_, rfl, ?_, Grew.refl _⟩
    obtain ⟨n, rfl⟩ : ∃ n : Nat, r = n := ⟨r.toNat, by omega⟩
    have hn : n < 128 := by omega
    have key : ∀ n : Nat, n < 128 → (0 ≤ Lib.indexByte [43, 45] (Int.toNat n).toUInt8 ↔ (n : Int) = 43 ∨ (n : Int) = 45) := by decide
    exact key n hn
  · have hno : ¬ (r = 43 ∨ r = 45) := by omega
    have key : ∀ w', Grew w w' → ∃ k : Int, Ending.returned (.int .i64 (-1)) = .returned (.int .i64 k) ∧ (0 ≤ k ↔ r = 43 ∨ r = 45) ∧ Grew w w' := fun w' hg => ⟨-1, rfl, ⟨fun h => by omega, fun h => absurd h hno⟩, hg⟩
    by_cases h65 : r = 65533
    · subst h65
      refine (indexRune_error w).mono ?_
      rintro e w' ⟨rfl, hg⟩
      exact key w' hg
    · have h65' : (r == 65533) = false := by simpa using h65
      cases hv : Lib.validRune r with
      | false =>
        refine (indexRune_invalid r (by omega) h1 w h65' hv).mono ?_
        rintro e w' ⟨rfl, rfl⟩
        exact key w (Grew.refl _)
      | true =>
        refine (indexRune_high r (by omega) h1 w h65' hv).mono ?_
        rintro e w' ⟨rfl, hg⟩
        exact key w' hg
end Go.Proofs.YtiocdmfmghanmaaDoor
