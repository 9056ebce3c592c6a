import Derived.Test.YtmnllmbchpebbaaGreatDoorGe41
import Derived.Test.YtmnllmbchpebbaaGreatDoorGe36
import Derived.Test.YtmnllmbchpebbaaGreatDoorLr6
import Derived.Test.YtmnllmbchpebbaaGreatDoorGe37
/-! The law LinesEvents. -/
namespace Go.Proofs.YtmnllmbchpebbaaGreatDoor
set_option linter.unusedSimpArgs false
set_option linter.unusedVariables false
open Go.RowKit Ga
set_option maxRecDepth 100000

set_option maxHeartbeats 32000000 in
theorem linesEvents_any (v : Li.Ev) (rv kv : Value) (s : List UInt8) (w : World) (hV : EnvEv w) (hE : EvIs w v rv kv) : Calls Tryz.prog 3 #[evV v rv kv, .string ⟨s.toArray⟩] w (Gives (.bool true) w) := by
  obtain ⟨r1, rc1, e1, m1, -⟩ := rq_open hE.r
  obtain ⟨k1, kc1, e3, m3, -⟩ := bools_open hE.k
  subst e1 e3
  have HE := Lib.hid hE
  have HAW := Lib.hid fun W (q : Grew w W) => awake27_any W (hV.l.grew q)
  by_cases hg : v.recs.length ≤ 100 ∧ v.plan.length ≤ 2000 ∧ v.keep.length ≤ 100 ∧ s.length ≤ 2000
  case neg =>
    obtain ⟨kind, a, b, recs, plan, keep, ct⟩ := v
    simp only [evV] at *
    clear hE HE
    by_cases g1 : recs.length ≤ 100
    case neg =>
      have d1 : decide ((100 : Int) < recs.length) = true := decide_eq_true (by omega)
      clear g1 hg
      go_enter Tryz.func3, Tryz.ntmps3
      go_wp2_with (go_at_call 4; refine (HAW.out _ (by repeat (first | with_reducible exact Grew.refl _ | apply Grew.more | apply Grew.alloc | apply Grew.drew | apply Grew.drewN))).mono ?_; rintro e w1 ⟨rfl, R1, n1, rfl⟩)
      go_ret
      exact ⟨rfl, by repeat (first | with_reducible exact Grew.refl _ | apply Grew.more | apply Grew.alloc | apply Grew.drew | apply Grew.drewN)⟩
    have d1 : decide ((100 : Int) < recs.length) = false := decide_eq_false (by omega)
    by_cases g2 : plan.length ≤ 2000
    case neg =>
      have d2 : decide ((2000 : Int) < plan.length) = true := decide_eq_true (by omega)
      clear g1 g2 hg
      go_enter Tryz.func3, Tryz.ntmps3
      go_wp2_with (go_at_call 4; refine (HAW.out _ (by repeat (first | with_reducible exact Grew.refl _ | apply Grew.more | apply Grew.alloc | apply Grew.drew | apply Grew.drewN))).mono ?_; rintro e w1 ⟨rfl, R1, n1, rfl⟩)
      go_ret
      exact ⟨rfl, by repeat (first | with_reducible exact Grew.refl _ | apply Grew.more | apply Grew.alloc | apply Grew.drew | apply Grew.drewN)⟩
    have d2 : decide ((2000 : Int) < plan.length) = false := decide_eq_false (by omega)
    by_cases g3 : keep.length ≤ 100
    case neg =>
      have d3 : decide ((100 : Int) < keep.length) = true := decide_eq_true (by omega)
      clear g1 g2 g3 hg
      go_enter Tryz.func3, Tryz.ntmps3
      go_wp2_with (go_at_call 4; refine (HAW.out _ (by repeat (first | with_reducible exact Grew.refl _ | apply Grew.more | apply Grew.alloc | apply Grew.drew | apply Grew.drewN))).mono ?_; rintro e w1 ⟨rfl, R1, n1, rfl⟩)
      go_ret
      exact ⟨rfl, by repeat (first | with_reducible exact Grew.refl _ | apply Grew.more | apply Grew.alloc | apply Grew.drew | apply Grew.drewN)⟩
    have d3 : decide ((100 : Int) < keep.length) = false := decide_eq_false (by omega)
    have g4 : ¬ s.length ≤ 2000 := fun h => hg ⟨g1, g2, g3, h⟩
    have d4 : decide ((2000 : Int) < s.length) = true := decide_eq_true (by omega)
    clear g1 g2 g3 g4 hg
    go_enter Tryz.func3, Tryz.ntmps3
    go_wp2_with (go_at_call 4; refine (HAW.out _ (by repeat (first | with_reducible exact Grew.refl _ | apply Grew.more | apply Grew.alloc | apply Grew.drew | apply Grew.drewN))).mono ?_; rintro e w1 ⟨rfl, R1, n1, rfl⟩)
    go_ret
    exact ⟨rfl, by repeat (first | with_reducible exact Grew.refl _ | apply Grew.more | apply Grew.alloc | apply Grew.drew | apply Grew.drewN)⟩
  obtain ⟨g1, g2, g3, g4⟩ := hg
  have d1 : decide ((100 : Int) < v.recs.length) = false := decide_eq_false (by omega)
  have d2 : decide ((2000 : Int) < v.plan.length) = false := decide_eq_false (by omega)
  have d3 : decide ((100 : Int) < v.keep.length) = false := decide_eq_false (by omega)
  have d4 : decide ((2000 : Int) < s.length) = false := decide_eq_false (by omega)
  have HEV := Lib.hid fun W (q : Grew w W) => event_all v _ _ W (hV.l.p.grew q) (hV.l.a.grew q) (hE.grew q) (by omega)
  have HLN := Lib.hid fun W (q : Grew w W) => line27_any v _ _ W (hE.grew q) (by omega) (by omega) (by omega)
  have HP1 := Lib.hid fun W (q : Grew w W) => lparse_any (Li.eventT gpL v) (event_len v) W (hV.grew q)
  have HP2 := Lib.hid fun W (q : Grew w W) => lparse_any s (by omega) W (hV.grew q)
  have HPS := Lib.hid (parsed_event v)
  have HSM := Lib.hid (parsed_small s)
  have HE := Lib.hid hE
  clear hE hV g1 g2 g3 g4
  generalize parseL (Li.eventT gpL v) = r1 at *
  generalize parseL s = r2 at *
  generalize Li.eventT gpL v = t at *
  obtain ⟨kind, a, b, recs, plan, keep, ct⟩ := v
  simp only [evV] at *
  go_enter Tryz.func3, Tryz.ntmps3
  go_wp2_with fail
  refine (HAW.out _ (by repeat (first | with_reducible exact Grew.refl _ | apply Grew.more | apply Grew.alloc | apply Grew.drew | apply Grew.drewN))).mono ?_
  rintro e w1 ⟨rfl, R1, n1, rfl⟩
  go_wp2_with fail
  refine (HEV.out _ (by repeat (first | with_reducible exact Grew.refl _ | apply Grew.more | apply Grew.alloc | apply Grew.drew | apply Grew.drewN))).mono ?_
  rintro e w1 ⟨rfl, R2, n2, rfl⟩
  go_wp2_with fail
  refine (HLN.out _ (by repeat (first | with_reducible exact Grew.refl _ | apply Grew.more | apply Grew.alloc | apply Grew.drew | apply Grew.drewN))).mono ?_
  rintro e w1 ⟨rfl, R3, n3, rfl⟩
  go_wp2_with fail
  refine (HP1.out _ (by repeat (first | with_reducible exact Grew.refl _ | apply Grew.more | apply Grew.alloc | apply Grew.drew | apply Grew.drewN))).mono ?_
  rintro e w1 ⟨rv1, kv1, rfl, hx, R4, n4, rfl⟩
  have HX := Lib.hid hx
  obtain ⟨x, c⟩ := r1
  obtain ⟨ax, cx, e1, -, -⟩ := rq_open hx.r
  obtain ⟨bx, dx, e2, -, -⟩ := bools_open hx.k
  subst e1 e2
  clear hx
  rcases HPS.out with ⟨ht, hx⟩ | ⟨ht, hx⟩
  · cases hx
    subst ht
    simp only [evV, Li.ev0]
    clear HPS
    go_wp2_with fail
    refine (HP2.out _ (by repeat (first | with_reducible exact Grew.refl _ | apply Grew.more | apply Grew.alloc | apply Grew.drew | apply Grew.drewN))).mono ?_
    rintro e w1 ⟨rv2, kv2, rfl, hy, R6, n6, rfl⟩
    have HYY := Lib.hid hy
    have HS4 := Lib.hid HSM.out
    obtain ⟨y, f⟩ := r2
    obtain ⟨ay, cy, e3, -, -⟩ := rq_open hy.r
    obtain ⟨by2, dy, e4, -, -⟩ := bools_open hy.k
    subst e3 e4
    clear hy
    obtain ⟨y1, y2, y3, hyc⟩ := HS4.out
    rcases hyc with hyc | ⟨hf, hs0, hev⟩
    · cases hyc
      simp only [evV, Li.ev0]
      clear HS4 HSM
      go_wp2_with (go_at_call 8; refine (same27_any Li.ev0 Li.ev0 _ _ (.slice none 0 0) (.slice none 0 0) _ (HYY.out.grew (by repeat (first | with_reducible exact Grew.refl _ | apply Grew.more | apply Grew.alloc | apply Grew.drew | apply Grew.drewN))) ⟨RowsAt.nil, RowsAt.nil⟩).mono ?_; rintro e w1 ⟨rfl, R9, n9, rfl⟩; rw [sameE_true rfl])
      go_ret
      exact ⟨rfl, by repeat (first | with_reducible exact Grew.refl _ | apply Grew.more | apply Grew.alloc | apply Grew.drew | apply Grew.drewN)⟩
    · simp only at hf
      subst hf
      have HL2 := Lib.hid fun W (q : Grew _ W) => line27_any y _ _ W (HYY.out.grew q) y1 y2 y3
      have hse : s.isEmpty = false := by cases s with
        | nil => exact absurd rfl hs0
        | cons => rfl
      simp only at hev
      rw [hev] at HL2
      clear HS4 HSM hs0 hev y1 y2 y3 HYY
      obtain ⟨yk, ya, yb, yr, yp, yq, yc⟩ := y
      simp only [evV] at *
      go_wp2_with (go_at_call 6; refine (HL2.out _ (by repeat (first | with_reducible exact Grew.refl _ | apply Grew.more | apply Grew.alloc | apply Grew.drew | apply Grew.drewN))).mono ?_; rintro e w1 ⟨rfl, R9, n9, rfl⟩)
      go_ret
      exact ⟨rfl, by repeat (first | with_reducible exact Grew.refl _ | apply Grew.more | apply Grew.alloc | apply Grew.drew | apply Grew.drewN)⟩
  · cases hx
    simp only [evV]
    clear HPS
    go_wp2_with (first | (go_at_call 8; refine (same27_any ⟨kind, a, b, recs, plan, keep, ct⟩ ⟨kind, a, b, recs, plan, keep, ct⟩ _ _ _ _ _ (HX.out.grew (by repeat (first | with_reducible exact Grew.refl _ | apply Grew.more | apply Grew.alloc | apply Grew.drew | apply Grew.drewN))) (HE.out.grew (by repeat (first | with_reducible exact Grew.refl _ | apply Grew.more | apply Grew.alloc | apply Grew.drew | apply Grew.drewN)))).mono ?_; rintro e w1 ⟨rfl, R5, n5, rfl⟩; rw [sameE_true rfl]) | fail)
    refine (HP2.out _ (by repeat (first | with_reducible exact Grew.refl _ | apply Grew.more | apply Grew.alloc | apply Grew.drew | apply Grew.drewN))).mono ?_
    rintro e w1 ⟨rv2, kv2, rfl, hy, R6, n6, rfl⟩
    have HYY := Lib.hid hy
    have HS4 := Lib.hid HSM.out
    obtain ⟨y, f⟩ := r2
    obtain ⟨ay, cy, e3, -, -⟩ := rq_open hy.r
    obtain ⟨by2, dy, e4, -, -⟩ := bools_open hy.k
    subst e3 e4
    clear hy
    obtain ⟨y1, y2, y3, hyc⟩ := HS4.out
    rcases hyc with hyc | ⟨hf, hs0, hev⟩
    · cases hyc
      simp only [evV, Li.ev0]
      clear HS4 HSM
      go_wp2_with (go_at_call 8; refine (same27_any Li.ev0 Li.ev0 _ _ (.slice none 0 0) (.slice none 0 0) _ (HYY.out.grew (by repeat (first | with_reducible exact Grew.refl _ | apply Grew.more | apply Grew.alloc | apply Grew.drew | apply Grew.drewN))) ⟨RowsAt.nil, RowsAt.nil⟩).mono ?_; rintro e w1 ⟨rfl, R9, n9, rfl⟩; rw [sameE_true rfl])
      go_ret
      exact ⟨rfl, by repeat (first | with_reducible exact Grew.refl _ | apply Grew.more | apply Grew.alloc | apply Grew.drew | apply Grew.drewN)⟩
    · simp only at hf
      subst hf
      have HL2 := Lib.hid fun W (q : Grew _ W) => line27_any y _ _ W (HYY.out.grew q) y1 y2 y3
      have hse : s.isEmpty = false := by cases s with
        | nil => exact absurd rfl hs0
        | cons => rfl
      simp only at hev
      rw [hev] at HL2
      clear HS4 HSM hs0 hev y1 y2 y3 HYY
      obtain ⟨yk, ya, yb, yr, yp, yq, yc⟩ := y
      simp only [evV] at *
      go_wp2_with (go_at_call 6; refine (HL2.out _ (by repeat (first | with_reducible exact Grew.refl _ | apply Grew.more | apply Grew.alloc | apply Grew.drew | apply Grew.drewN))).mono ?_; rintro e w1 ⟨rfl, R9, n9, rfl⟩)
      go_ret
      exact ⟨rfl, by repeat (first | with_reducible exact Grew.refl _ | apply Grew.more | apply Grew.alloc | apply Grew.drew | apply Grew.drewN)⟩
end Go.Proofs.YtmnllmbchpebbaaGreatDoor
