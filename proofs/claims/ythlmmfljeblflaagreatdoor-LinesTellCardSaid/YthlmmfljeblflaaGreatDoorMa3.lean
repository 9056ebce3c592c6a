import Derived.Test.YthlmmfljeblflaaGreatDoorMc11
import Derived.Test.YthlmmfljeblflaaGreatDoorMa2
/-! lines.Tell. -/
namespace Go.Proofs.YthlmmfljeblflaaGreatDoor
set_option linter.unusedSimpArgs false
set_option linter.unusedVariables false
open Go.RowKit Ga
set_option maxRecDepth 100000

/-- an answer's line -/
def tellB (e n : Int) (d : Bool) : ByteArray :=
  let s : ByteArray := if e = 0 then ⟨#[111, 107]⟩ else ⟨#[101, 114, 114, 111, 114, 32]⟩ ++ ⟨(Lib.itoa e).toArray⟩
  let s2 : ByteArray := if n = 0 then s else s ++ (⟨#[32]⟩ ++ ⟨(Lib.itoa n).toArray⟩)
  if d then s2 ++ ⟨#[32, 100, 105, 100]⟩ else s2
set_option maxHeartbeats 8000000 in
theorem tell_any (e n : Int) (d : Bool) (w : World) (hp : Pow w) (he : -1099511627776 ≤ e ∧ e ≤ 1099511627776) (hn : -1099511627776 ≤ n ∧ n ≤ 1099511627776) : Calls Tryz.prog 7 #[.agg #[.int .i64 e, .int .i64 n, .bool d]] w (Gives (.string (tellB e n d)) w) := by
  have l1 := itoa_len e (by omega)
  have l2 := itoa_len n (by omega)
  have HE := Lib.hid fun W (q : Grew w W) => itoa_any e (by omega) W (hp.grew q)
  have HN := Lib.hid fun W (q : Grew w W) => itoa_any n (by omega) W (hp.grew q)
  clear hp he hn
  by_cases h1 : e = 0 <;> by_cases h2 : n = 0 <;> cases d
  all_goals
    first | subst h1 | (have h1b : (e != 0) = true := by simpa using h1)
    first | subst h2 | (have h2b : (n != 0) = true := by simpa using h2)
    go_enter Tryz.func7, Tryz.ntmps7
    go_wp2_with (first
      | (go_at_call 16; refine (HE.out _ (by repeat (first | with_reducible exact Grew.refl _ | apply Grew.more | apply Grew.alloc | apply Grew.drew | apply Grew.drewN))).mono ?_; rintro e w1 ⟨rfl, R1, n1, rfl⟩)
      | (go_at_call 16; refine (HN.out _ (by repeat (first | with_reducible exact Grew.refl _ | apply Grew.more | apply Grew.alloc | apply Grew.drew | apply Grew.drewN))).mono ?_; rintro e w1 ⟨rfl, R2, n2, rfl⟩))
    go_ret
    exact ⟨by unfold tellB; simp [*], by repeat (first | with_reducible exact Grew.refl _ | apply Grew.more | apply Grew.alloc | apply Grew.drew | apply Grew.drewN)⟩
end Go.Proofs.YthlmmfljeblflaaGreatDoor

/-! The law LinesTell, walked. -/
namespace Go.Proofs.YthlmmfljeblflaaGreatDoor
set_option linter.unusedSimpArgs false
set_option linter.unusedVariables false
open Go.RowKit Ga
set_option maxRecDepth 100000

set_option maxHeartbeats 16000000 in
theorem linesTell_in (e n : Int) (d : Bool) (w : World) (hV : Env27 w) (he : -1099511627776 ≤ e ∧ e ≤ 1099511627776) (hn : -1099511627776 ≤ n ∧ n ≤ 1099511627776) : Calls Tryz.prog 3 #[.agg #[.int .i64 e, .int .i64 n, .bool d]] w (Gives (.bool true) w) := by
  have l1 := itoa_len e (by omega)
  have l2 := itoa_len n (by omega)
  have HA := Lib.hid fun W (q : Grew w W) => awake27_any W (hV.grew q)
  have HE := Lib.hid fun W => digits_any e (by omega) W
  have HN := Lib.hid fun W => digits_any n (by omega) W
  have ht := fun W (q : Grew w W) => tell_any e n d W (hV.p.grew q) he hn
  obtain ⟨e0, e1⟩ := he
  obtain ⟨n0, n1⟩ := hn
  clear hV
  obtain ⟨bb, hb⟩ : ∃ bb, tellB e n d = bb := ⟨_, rfl⟩
  rw [hb] at ht
  have HT := Lib.hid ht
  clear ht
  by_cases h1 : e = 0 <;> by_cases h2 : n = 0 <;> cases d
  all_goals
    unfold tellB at hb
    simp only [h1, h2, if_true, if_false, Bool.false_eq_true, ite_true, ite_false] at hb
    have HB := Lib.hid hb
    clear hb
    first | subst h1 | (have h1b : (e != 0) = true := by simpa using h1)
    first | subst h2 | (have h2b : (n != 0) = true := by simpa using h2)
    go_enter Tryz.func3, Tryz.ntmps3
    go_wp2_with (first
      | (go_at_call 5; refine (HA.out _ (by repeat (first | with_reducible exact Grew.refl _ | apply Grew.more | apply Grew.alloc | apply Grew.drew | apply Grew.drewN))).mono ?_; rintro e9 w1 ⟨rfl, R1, n1, rfl⟩)
      | (go_at_call 6; (with_reducible refine (HE.out _).mono ?_); rintro e9 w1 ⟨rfl, rfl⟩)
      | (go_at_call 6; (with_reducible refine (HN.out _).mono ?_); rintro e9 w1 ⟨rfl, rfl⟩)
      | fail)
    refine (HT.out _ (by repeat (first | with_reducible exact Grew.refl _ | apply Grew.more | apply Grew.alloc | apply Grew.drew | apply Grew.drewN))).mono ?_
    rintro e9 w1 ⟨rfl, R2, n2, rfl⟩
    rw [HB.out]
    clear HB
    go_wp2_with fail
    go_ret
    exact ⟨rfl, by repeat (first | with_reducible exact Grew.refl _ | apply Grew.more | apply Grew.alloc | apply Grew.drew | apply Grew.drewN)⟩
set_option maxHeartbeats 16000000 in
theorem linesTell_out (e n : Int) (d : Bool) (w : World) (hV : Env27 w) (ho : ¬ ((-1099511627776 ≤ e ∧ e ≤ 1099511627776) ∧ (-1099511627776 ≤ n ∧ n ≤ 1099511627776))) : Calls Tryz.prog 3 #[.agg #[.int .i64 e, .int .i64 n, .bool d]] w (Gives (.bool true) w) := by
  have HA := Lib.hid fun W (q : Grew w W) => awake27_any W (hV.grew q)
  clear hV
  have hc : n < -1099511627776 ∨ (-1099511627776 ≤ n ∧ 1099511627776 < n) ∨ ((-1099511627776 ≤ n ∧ n ≤ 1099511627776) ∧ e < -1099511627776) ∨ ((-1099511627776 ≤ n ∧ n ≤ 1099511627776) ∧ -1099511627776 ≤ e ∧ 1099511627776 < e) := by omega
  clear ho
  rcases hc with h1 | ⟨h1, h2⟩ | ⟨⟨h1, h2⟩, h3⟩ | ⟨⟨h1, h2⟩, h3, h4⟩
  all_goals
    go_enter Tryz.func3, Tryz.ntmps3
    go_wp2_with (go_at_call 5; refine (HA.out _ (by repeat (first | with_reducible exact Grew.refl _ | apply Grew.more | apply Grew.alloc | apply Grew.drew | apply Grew.drewN))).mono ?_; rintro e9 w1 ⟨rfl, R1, n1, rfl⟩)
    go_ret
    exact ⟨rfl, by repeat (first | with_reducible exact Grew.refl _ | apply Grew.more | apply Grew.alloc | apply Grew.drew | apply Grew.drewN)⟩
theorem linesTell_any (e n : Int) (d : Bool) (w : World) (hV : Env27 w) : Calls Tryz.prog 3 #[.agg #[.int .i64 e, .int .i64 n, .bool d]] w (Gives (.bool true) w) := by
  by_cases h : (-1099511627776 ≤ e ∧ e ≤ 1099511627776) ∧ (-1099511627776 ≤ n ∧ n ≤ 1099511627776)
  · exact linesTell_in e n d w hV h.1 h.2
  · exact linesTell_out e n d w hV h
end Go.Proofs.YthlmmfljeblflaaGreatDoor
