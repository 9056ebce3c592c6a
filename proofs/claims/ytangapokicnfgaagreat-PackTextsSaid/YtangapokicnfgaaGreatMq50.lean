import Derived.Test.YtangapokicnfgaaGreatMq41
import Derived.Test.YtangapokicnfgaaGreatMq49
import Derived.Test.YtangapokicnfgaaGreatMq35
import Derived.Test.YtangapokicnfgaaGreatMq30
import Derived.Test.YtangapokicnfgaaGreatMq36
import Derived.Test.YtangapokicnfgaaGreatMq39
import Derived.Test.YtangapokicnfgaaGreatMq40
/-! forebaylaw13: awake. -/
namespace Go.Proofs.YtangapokicnfgaaGreat
set_option linter.unusedSimpArgs false
set_option linter.unusedVariables false
open Go.RowKit Ga
set_option maxRecDepth 100000

theorem pass_right : Gr.RightR passL := by
  refine ⟨by decide, ?_, by decide, ?_⟩
  · intro i n h
    match i with
    | 0 =>
      cases h
      refine ⟨by decide, by decide, rfl, by decide, by decide, by decide, by decide, by decide, by decide, by decide, by decide, by decide, by decide, by decide, by decide, ?_⟩
      intro k f hk
      cases hk
    | 1 =>
      cases h
      refine ⟨by decide, by decide, rfl, by decide, by decide, by decide, by decide, by decide, by decide, by decide, by decide, by decide, by decide, by decide, by decide, ?_⟩
      intro k f hk
      match k with
      | 0 =>
        cases hk
        exact ⟨⟨0, _, rfl, rfl, by decide⟩, by simp⟩
      | k + 1 => cases hk
    | i + 2 => cases h
  · intro n hn
    simp only [passL, List.mem_cons, List.not_mem_nil, or_false] at hn
    rcases hn with rfl | rfl <;> rfl
theorem pass_norm : Gr.normG passL = passL := rfl
theorem pass_route : ∀ n ∈ passL, n.route.length = 8 := by decide
theorem fits_nil : fitsP [] := by unfold fitsP; rfl
theorem pass_get : Gr.getG getL (Gr.putG putI passL) = (passL, 0) := by
  rw [Gr.getG_put codecI fits_nil (fun p hp => safe_fits hp) pass_right pass_route, pass_norm]
theorem pass_small : Small passL := by unfold Small; decide
theorem pass_same : sameG passL passL = true := sameG_true rfl fun i hi => by
  match i with
  | 0 => rfl
  | 1 => rfl
  | i + 2 => exact absurd hi (by simp [passL])
set_option maxHeartbeats 8000000 in
theorem awake13_any (w : World) : Calls Tryz.prog 8 #[] w (Gives (.bool true) w) := by
  have hlen : (Gr.putG putI passL).length ≤ 100000 := Nat.le_trans (putG_len pass_right pass_route) (by decide)
  have hP := fun W v (hv : NodesAt W v passL) => packGraph_ok v passL W hv pass_small pass_right
  have hG := fun W => getGraph_any (Gr.putG putI passL) W hlen
  rw [pass_get] at hG
  generalize Gr.putG putI passL = t at *
  have hS := fun W v u (hv : NodesAt W v passL) (hu : NodesAt W u passL) => refSame08_any v u passL passL W hv hu
  rw [pass_same] at hS
  have HP := Lib.hid hP
  have HG := Lib.hid hG
  have HS := Lib.hid hS
  clear hP hG hS hlen
  go_enter Tryz.func8, Tryz.ntmps8
  go_wp2_with (first
    | (go_at_call 29; refine (pass_any _).mono ?_; rintro e w1 ⟨v1, rfl, hv1, R1, n1, rfl⟩; obtain ⟨a1, c1, rfl, -, -⟩ := hv1.openC; (have HV1 := Lib.hid hv1); clear hv1)
    | (go_at_call 10; refine (HP.out _ _ HV1.out).mono ?_; rintro e w1 ⟨rfl, R2, n2, rfl⟩)
    | (go_at_call 12; refine (HG.out _).mono ?_; rintro e w1 ⟨v2, rfl, hv2, R3, n3, rfl⟩; obtain ⟨a2, c2, rfl, -, -⟩ := hv2.openC; (have HV2 := Lib.hid hv2); clear hv2)
    | (go_at_call 14; refine (HS.out _ _ _ (HV2.out.grew (by repeat (first | with_reducible exact Grew.refl _ | apply Grew.more | apply Grew.alloc | apply Grew.drew | apply Grew.drewN))) HV1.out).mono ?_; rintro e w1 ⟨rfl, R4, n4, rfl⟩))
  go_ret
  exact ⟨rfl, by repeat (first | with_reducible exact Grew.refl _ | apply Grew.more | apply Grew.alloc | apply Grew.drew | apply Grew.drewN)⟩
theorem nodes_route {w : World} {v : Value} {l : List Gr.Nd} (h : NodesAt w v l) : ∀ n ∈ l, n.route.length = 8 := by
  obtain ⟨lc, -, h2, h3⟩ := h
  intro n hn
  obtain ⟨i, hi, rfl⟩ := List.mem_iff_getElem.1 hn
  rw [(h3 i lc[i] l[i] (List.getElem?_eq_getElem (by omega)) (List.getElem?_eq_getElem hi)).route]
  rfl
theorem great_small {l : List Gr.Nd} (h : greatG l = false) : Small l ∧ l.length ≤ 20 := by
  unfold greatG at h
  simp only [Bool.or_eq_false_iff, decide_eq_false_iff_not, List.any_eq_false] at h
  refine ⟨fun n hn => ?_, by omega⟩
  have := h.2 n hn
  unfold greatN at this
  simp only [Bool.or_eq_true, decide_eq_true_eq, not_or] at this
  omega
theorem norm_same {l : List Gr.Nd} (h : Gr.RightR l) : sameG l (Gr.normG l) = true := by
  obtain ⟨h1, h2⟩ := Gr.same_norm h
  exact sameG_true h1.symm fun i hi => h2 _ (List.getElem_mem hi)
theorem right_okB {l : List Gr.Nd} (h : Gr.RightR l) (h8 : ∀ n ∈ l, n.route.length = 8) : ∀ n ∈ l, Gr.OkB fitsP 1 n := h.okB fits_nil (fun p hp => safe_fits hp) h8

set_option maxHeartbeats 8000000 in
theorem packGraphs_any (v : Value) (l : List Gr.Nd) (s : List UInt8) (w : World) (hv : NodesAt w v l) : Calls Tryz.prog 3 #[v, .string ⟨s.toArray⟩] w (Gives (.bool true) w) := by
  have h8 := nodes_route hv
  have hgr := fun W (g : Grew w W) => great08_any v l W (hv.grew g)
  have HV := Lib.hid hv
  obtain ⟨a, cap, rfl, hm, -⟩ := hv.openC
  have H8 := Lib.hid h8
  clear hv h8
  cases hgt : greatG l
  · obtain ⟨hsm, h20⟩ := great_small hgt
    rw [hgt] at hgr
    have HGR := Lib.hid hgr
    have HSM := Lib.hid hsm
    clear hgr hsm hgt
    by_cases hlen : s.length ≤ 3000
    · obtain ⟨m, x, hgsE⟩ : ∃ m x, Gr.getG getL s = (m, x) := ⟨_, _, rfl⟩
      have hgs := fun W => getGraph_any s W (by omega)
      rw [hgsE] at hgs
      have hcr := fun W (g : Grew w W) => refCheck08_any _ l W (HV.out.grew g)
      by_cases hr : Gr.RightR l
      · have hp := fun W (g : Grew w W) => packGraph_ok _ l W (HV.out.grew g) HSM.out hr
        rw [checkR_ok hr.len hr] at hcr
        have hlt : (Gr.putG putI l).length ≤ 100000 := Nat.le_trans (putG_len hr H8.out) (by decide)
        have hgt := fun W => getGraph_any (Gr.putG putI l) W hlt
        rw [Gr.getG_put codecI fits_nil (fun p hp => safe_fits hp) hr H8.out] at hgt
        have hg13 := fun W (g : Grew w W) => graph13_any _ l W (HV.out.grew g) (right_okB hr H8.out) (by omega)
        have hsame := fun W u (g : Grew w W) (hu : NodesAt W u (Gr.normG l)) => refSame08_any _ u l (Gr.normG l) W (HV.out.grew g) hu
        rw [norm_same hr] at hsame
        generalize Gr.putG putI l = t at *
        generalize Gr.normG l = ln at *
        have HP := Lib.hid hp
        have HCR := Lib.hid hcr
        have HGT := Lib.hid hgt
        have HG13 := Lib.hid hg13
        have HSAME := Lib.hid hsame
        have HGS := Lib.hid hgs
        clear hp hcr hgt hg13 hsame hlt hgs
        cases hx : (x != 0)
        · obtain rfl : x = 0 := by simpa using hx
          obtain ⟨hrm, hput, -, h8m⟩ := Gr.getG_can codecI hgsE
          have hcm := fun W u (hu : NodesAt W u m) => refCheck08_any u m W hu
          rw [checkR_ok hrm.len hrm] at hcm
          have hgm := fun W u (hu : NodesAt W u m) => graph13_any u m W hu (right_okB hrm h8m) (by have := hrm.len; omega)
          rw [hput] at hgm
          have HCM := Lib.hid hcm
          have HGM := Lib.hid hgm
          clear hrm hput h8m hcm hgm hx hgsE
          go_enter Tryz.func3, Tryz.ntmps3
          go_wp2_with (first
            | (go_at_call 8; refine (awake13_any _).mono ?_; rintro e w1 ⟨rfl, R1, n1, rfl⟩)
            | (go_at_call 9; refine (HGR.out _ (by repeat (first | with_reducible exact Grew.refl _ | apply Grew.more | apply Grew.alloc | apply Grew.drew | apply Grew.drewN))).mono ?_; rintro e w1 ⟨rfl, R2, n2, rfl⟩)
            | (go_at_call 10; refine (HP.out _ (by repeat (first | with_reducible exact Grew.refl _ | apply Grew.more | apply Grew.alloc | apply Grew.drew | apply Grew.drewN))).mono ?_; rintro e w1 ⟨rfl, R3, n3, rfl⟩)
            | (go_at_call_of 11 (Value.slice a l.length cap); refine (HCR.out _ (by repeat (first | with_reducible exact Grew.refl _ | apply Grew.more | apply Grew.alloc | apply Grew.drew | apply Grew.drewN))).mono ?_; rintro e w1 ⟨rfl, R4, n4, rfl⟩)
            | (go_at_call_of 12 (str t); refine (HGT.out _).mono ?_; rintro e w1 ⟨v2, rfl, hv2, R5, n5, rfl⟩; obtain ⟨a2, c2, rfl, -, -⟩ := hv2.openC; (have HV2 := Lib.hid hv2); clear hv2)
            | (go_at_call_of 13 (Value.slice a l.length cap); refine (HG13.out _ (by repeat (first | with_reducible exact Grew.refl _ | apply Grew.more | apply Grew.alloc | apply Grew.drew | apply Grew.drewN))).mono ?_; rintro e w1 ⟨rfl, R6, n6, rfl⟩)
            | (go_at_call 14; refine (HSAME.out _ _ (by repeat (first | with_reducible exact Grew.refl _ | apply Grew.more | apply Grew.alloc | apply Grew.drew | apply Grew.drewN)) (HV2.out.grew (by repeat (first | with_reducible exact Grew.refl _ | apply Grew.more | apply Grew.alloc | apply Grew.drew | apply Grew.drewN)))).mono ?_; rintro e w1 ⟨rfl, R7, n7, rfl⟩)
            | (go_at_call 12; refine (HGS.out _).mono ?_; rintro e w1 ⟨v3, rfl, hv3, R8, n8, rfl⟩; obtain ⟨a3, c3, rfl, -, -⟩ := hv3.openC; (have HV3 := Lib.hid hv3); clear hv3)
            | (go_at_call 11; refine (HCM.out _ _ (HV3.out.grew (by repeat (first | with_reducible exact Grew.refl _ | apply Grew.more | apply Grew.alloc | apply Grew.drew | apply Grew.drewN)))).mono ?_; rintro e w1 ⟨rfl, R9, n9, rfl⟩)
            | (go_at_call 13; refine (HGM.out _ _ (HV3.out.grew (by repeat (first | with_reducible exact Grew.refl _ | apply Grew.more | apply Grew.alloc | apply Grew.drew | apply Grew.drewN)))).mono ?_; rintro e w1 ⟨rfl, R10, n10, rfl⟩))
          go_ret
          exact ⟨by simp, by repeat (first | with_reducible exact Grew.refl _ | apply Grew.more | apply Grew.alloc | apply Grew.drew | apply Grew.drewN)⟩
        · have hmn : m = [] := by have := Gr.getG_bad (s := s) (gp := getL) (by rw [hgsE]; simpa using hx); rw [hgsE] at this; exact this
          subst hmn
          clear hgsE
          go_enter Tryz.func3, Tryz.ntmps3
          go_wp2_with (first
            | (go_at_call 8; refine (awake13_any _).mono ?_; rintro e w1 ⟨rfl, R1, n1, rfl⟩)
            | (go_at_call 9; refine (HGR.out _ (by repeat (first | with_reducible exact Grew.refl _ | apply Grew.more | apply Grew.alloc | apply Grew.drew | apply Grew.drewN))).mono ?_; rintro e w1 ⟨rfl, R2, n2, rfl⟩)
            | (go_at_call 10; refine (HP.out _ (by repeat (first | with_reducible exact Grew.refl _ | apply Grew.more | apply Grew.alloc | apply Grew.drew | apply Grew.drewN))).mono ?_; rintro e w1 ⟨rfl, R3, n3, rfl⟩)
            | (go_at_call_of 11 (Value.slice a l.length cap); refine (HCR.out _ (by repeat (first | with_reducible exact Grew.refl _ | apply Grew.more | apply Grew.alloc | apply Grew.drew | apply Grew.drewN))).mono ?_; rintro e w1 ⟨rfl, R4, n4, rfl⟩)
            | (go_at_call_of 12 (str t); refine (HGT.out _).mono ?_; rintro e w1 ⟨v2, rfl, hv2, R5, n5, rfl⟩; obtain ⟨a2, c2, rfl, -, -⟩ := hv2.openC; (have HV2 := Lib.hid hv2); clear hv2)
            | (go_at_call_of 13 (Value.slice a l.length cap); refine (HG13.out _ (by repeat (first | with_reducible exact Grew.refl _ | apply Grew.more | apply Grew.alloc | apply Grew.drew | apply Grew.drewN))).mono ?_; rintro e w1 ⟨rfl, R6, n6, rfl⟩)
            | (go_at_call 14; refine (HSAME.out _ _ (by repeat (first | with_reducible exact Grew.refl _ | apply Grew.more | apply Grew.alloc | apply Grew.drew | apply Grew.drewN)) (HV2.out.grew (by repeat (first | with_reducible exact Grew.refl _ | apply Grew.more | apply Grew.alloc | apply Grew.drew | apply Grew.drewN)))).mono ?_; rintro e w1 ⟨rfl, R7, n7, rfl⟩)
            | (go_at_call 12; refine (HGS.out _).mono ?_; rintro e w1 ⟨v3, rfl, hv3, R8, n8, rfl⟩; obtain ⟨a3, c3, rfl, -, -⟩ := hv3.openC; (have HV3 := Lib.hid hv3); clear hv3))
          go_ret
          exact ⟨by simp, by repeat (first | with_reducible exact Grew.refl _ | apply Grew.more | apply Grew.alloc | apply Grew.drew | apply Grew.drewN)⟩
      · have hp := fun W (g : Grew w W) => packGraph_bad _ l W (HV.out.grew g) HSM.out hr
        have hne : (checkR l != 0) = true := by
          rcases Nat.lt_or_ge 8 l.length with h | h
          · rw [checkR_long h]; rfl
          · rw [checkR_bad h hr]; rfl
        generalize checkR l = cr at *
        have HP := Lib.hid hp
        have HCR := Lib.hid hcr
        have HGS := Lib.hid hgs
        clear hp hcr hgs
        cases hx : (x != 0)
        · obtain rfl : x = 0 := by simpa using hx
          obtain ⟨hrm, hput, -, h8m⟩ := Gr.getG_can codecI hgsE
          have hcm := fun W u (hu : NodesAt W u m) => refCheck08_any u m W hu
          rw [checkR_ok hrm.len hrm] at hcm
          have hgm := fun W u (hu : NodesAt W u m) => graph13_any u m W hu (right_okB hrm h8m) (by have := hrm.len; omega)
          rw [hput] at hgm
          have HCM := Lib.hid hcm
          have HGM := Lib.hid hgm
          clear hrm hput h8m hcm hgm hx hgsE
          go_enter Tryz.func3, Tryz.ntmps3
          go_wp2_with (first
            | (go_at_call 8; refine (awake13_any _).mono ?_; rintro e w1 ⟨rfl, R1, n1, rfl⟩)
            | (go_at_call 9; refine (HGR.out _ (by repeat (first | with_reducible exact Grew.refl _ | apply Grew.more | apply Grew.alloc | apply Grew.drew | apply Grew.drewN))).mono ?_; rintro e w1 ⟨rfl, R2, n2, rfl⟩)
            | (go_at_call 10; refine (HP.out _ (by repeat (first | with_reducible exact Grew.refl _ | apply Grew.more | apply Grew.alloc | apply Grew.drew | apply Grew.drewN))).mono ?_; rintro e w1 ⟨rfl, R3, n3, rfl⟩)
            | (go_at_call_of 11 (Value.slice a l.length cap); refine (HCR.out _ (by repeat (first | with_reducible exact Grew.refl _ | apply Grew.more | apply Grew.alloc | apply Grew.drew | apply Grew.drewN))).mono ?_; rintro e w1 ⟨rfl, R4, n4, rfl⟩)
            | (go_at_call 12; refine (HGS.out _).mono ?_; rintro e w1 ⟨v3, rfl, hv3, R8, n8, rfl⟩; obtain ⟨a3, c3, rfl, -, -⟩ := hv3.openC; (have HV3 := Lib.hid hv3); clear hv3)
            | (go_at_call 11; refine (HCM.out _ _ (HV3.out.grew (by repeat (first | with_reducible exact Grew.refl _ | apply Grew.more | apply Grew.alloc | apply Grew.drew | apply Grew.drewN)))).mono ?_; rintro e w1 ⟨rfl, R9, n9, rfl⟩)
            | (go_at_call 13; refine (HGM.out _ _ (HV3.out.grew (by repeat (first | with_reducible exact Grew.refl _ | apply Grew.more | apply Grew.alloc | apply Grew.drew | apply Grew.drewN)))).mono ?_; rintro e w1 ⟨rfl, R10, n10, rfl⟩))
          go_ret
          exact ⟨by simp, by repeat (first | with_reducible exact Grew.refl _ | apply Grew.more | apply Grew.alloc | apply Grew.drew | apply Grew.drewN)⟩
        · have hmn : m = [] := by have := Gr.getG_bad (s := s) (gp := getL) (by rw [hgsE]; simpa using hx); rw [hgsE] at this; exact this
          subst hmn
          clear hgsE
          go_enter Tryz.func3, Tryz.ntmps3
          go_wp2_with (first
            | (go_at_call 8; refine (awake13_any _).mono ?_; rintro e w1 ⟨rfl, R1, n1, rfl⟩)
            | (go_at_call 9; refine (HGR.out _ (by repeat (first | with_reducible exact Grew.refl _ | apply Grew.more | apply Grew.alloc | apply Grew.drew | apply Grew.drewN))).mono ?_; rintro e w1 ⟨rfl, R2, n2, rfl⟩)
            | (go_at_call 10; refine (HP.out _ (by repeat (first | with_reducible exact Grew.refl _ | apply Grew.more | apply Grew.alloc | apply Grew.drew | apply Grew.drewN))).mono ?_; rintro e w1 ⟨rfl, R3, n3, rfl⟩)
            | (go_at_call_of 11 (Value.slice a l.length cap); refine (HCR.out _ (by repeat (first | with_reducible exact Grew.refl _ | apply Grew.more | apply Grew.alloc | apply Grew.drew | apply Grew.drewN))).mono ?_; rintro e w1 ⟨rfl, R4, n4, rfl⟩)
            | (go_at_call 12; refine (HGS.out _).mono ?_; rintro e w1 ⟨v3, rfl, hv3, R8, n8, rfl⟩; obtain ⟨a3, c3, rfl, -, -⟩ := hv3.openC; (have HV3 := Lib.hid hv3); clear hv3))
          go_ret
          exact ⟨by simp, by repeat (first | with_reducible exact Grew.refl _ | apply Grew.more | apply Grew.alloc | apply Grew.drew | apply Grew.drewN)⟩
    · have hlen' : (3000 : Int) < (s.length : Int) := by omega
      go_enter Tryz.func3, Tryz.ntmps3
      go_wp2_with (first
        | (go_at_call 8; refine (awake13_any _).mono ?_; rintro e w1 ⟨rfl, R1, n1, rfl⟩)
        | (go_at_call 9; refine (HGR.out _ (by repeat (first | with_reducible exact Grew.refl _ | apply Grew.more | apply Grew.alloc | apply Grew.drew | apply Grew.drewN))).mono ?_; rintro e w1 ⟨rfl, R2, n2, rfl⟩))
      go_ret
      refine ⟨rfl, ?_⟩
      repeat (first | with_reducible exact Grew.refl _ | apply Grew.more | apply Grew.alloc | apply Grew.drew | apply Grew.drewN)
  · rw [hgt] at hgr
    have HGR := Lib.hid hgr
    clear hgr hgt
    go_enter Tryz.func3, Tryz.ntmps3
    go_wp2_with (first
      | (go_at_call 8; refine (awake13_any _).mono ?_; rintro e w1 ⟨rfl, R1, n1, rfl⟩)
      | (go_at_call 9; refine (HGR.out _ (by repeat (first | with_reducible exact Grew.refl _ | apply Grew.more | apply Grew.alloc | apply Grew.drew | apply Grew.drewN))).mono ?_; rintro e w1 ⟨rfl, R2, n2, rfl⟩))
    go_ret
    refine ⟨rfl, ?_⟩
    repeat (first | with_reducible exact Grew.refl _ | apply Grew.more | apply Grew.alloc | apply Grew.drew | apply Grew.drewN)
end Go.Proofs.YtangapokicnfgaaGreat

/-! pack.Plan: the bytes, or none. -/
namespace Go.Proofs.YtangapokicnfgaaGreat
set_option linter.unusedSimpArgs false
set_option linter.unusedVariables false
open Go.RowKit Ga
set_option maxRecDepth 100000

open Classical in
/-- what pack.Plan hands back -/
noncomputable def planR (p : List Gr.Stp) : List UInt8 × Int := if Gr.OkPl fitsP p then (Gr.putPl putI p, 0) else ([], 11)
theorem planR_ok {p : List Gr.Stp} (h : Gr.OkPl fitsP p) : planR p = (Gr.putPl putI p, 0) := by unfold planR; exact if_pos h
theorem planR_no {p : List Gr.Stp} (h : ¬ Gr.OkPl fitsP p) : planR p = ([], 11) := by unfold planR; exact if_neg h
/-- what comes of the bytes that were put -/
theorem plan_back {p : List Gr.Stp} {t : List UInt8} (h1 : 1 ≤ p.length) (h6 : p.length ≤ 6) (h0 : (Gr.getPl getL t).2 = 0) (hk : eqBy sameSt p (Gr.getPl getL t).1 = true) : Gr.OkPl fitsP p := by
  obtain ⟨⟨-, -, hs⟩, -, hcl⟩ := Gr.getPl_can codecI (s := t) (q := (Gr.getPl getL t).1) (by rw [← h0])
  have he := (same_iff _ _).1 hk
  rw [Gr.map_clean hcl] at he
  refine ⟨h1, h6, fun s hsp => ?_⟩
  have hm : Gr.cleanS s ∈ (Gr.getPl getL t).1 := he ▸ List.mem_map.2 ⟨s, hsp, rfl⟩
  obtain ⟨hk, hn⟩ := hs _ hm
  rw [Gr.clean_clean] at hn
  exact ⟨Gr.kind_clean hk.1, hn⟩
theorem plan_forth {p : List Gr.Stp} {t : List UInt8} (ht : Gr.OkPl fitsP p → t = Gr.putPl putI p) (h : Gr.OkPl fitsP p) : (Gr.getPl getL t).2 = 0 ∧ eqBy sameSt p (Gr.getPl getL t).1 = true := by
  rw [ht h, Gr.getPl_put codecI h]
  refine ⟨rfl, (same_iff _ _).2 ?_⟩
  simp only [List.map_map]
  exact List.map_congr_left fun x _ => (Gr.clean_clean x).symm
set_option maxHeartbeats 8000000 in
theorem plan16_any (v : Value) (p : List Gr.Stp) (w : World) (hv : StepsAt w v p) (hs : ∀ s ∈ p, s.nd.frm.length ≤ 100 ∧ s.nd.prog.length ≤ 1000) : Calls Tryz.prog 16 #[v] w (Gives (.tuple #[str (planR p).1, .int .i64 (planR p).2]) w) := by
  have HV := Lib.hid hv
  have HS := Lib.hid hs
  obtain ⟨a, cap, rfl, hm, -⟩ := hv.openC
  clear hv hs
  by_cases h1 : 1 ≤ p.length
  case neg =>
    have h1' : (p.length : Int) < 1 := by omega
    rw [planR_no fun h => h1 h.1]
    clear h1
    go_enter Tryz.func16, Tryz.ntmps16
    go_wp2
    exact bodyPost_ret (v := .tuple #[.string ⟨#[]⟩, .int .i64 11]) (by simp [results, Tryz.results16, go_sem]) rfl ⟨rfl, by repeat (first | with_reducible exact Grew.refl _ | apply Grew.more | apply Grew.alloc | apply Grew.drew | apply Grew.drewN)⟩
  have h1' : ¬ (p.length : Int) < 1 := by omega
  by_cases h6 : p.length ≤ 6
  case neg =>
    have h6' : (6 : Int) < (p.length : Int) := by omega
    rw [planR_no fun h => h6 h.2.1]
    clear h1 h6
    go_enter Tryz.func16, Tryz.ntmps16
    go_wp2
    exact bodyPost_ret (v := .tuple #[.string ⟨#[]⟩, .int .i64 11]) (by simp [results, Tryz.results16, go_sem]) rfl ⟨rfl, by repeat (first | with_reducible exact Grew.refl _ | apply Grew.more | apply Grew.alloc | apply Grew.drew | apply Grew.drewN)⟩
  have h6' : ¬ (6 : Int) < (p.length : Int) := by omega
  have HPUT := Lib.hid fun W (g : Grew w W) => putPlan_any _ p W (HV.out.grew g) HS.out h6
  have HR := Lib.hid (rfl : planR p = planR p)
  generalize hpr : planR p = pr at *
  obtain ⟨pr1, pr2⟩ := pr
  have HPR := Lib.hid hpr
  clear hpr HR
  go_enter Tryz.func16, Tryz.ntmps16
  go_wp2_with fail
  refine (HPUT.out _ (by repeat (first | with_reducible exact Grew.refl _ | apply Grew.more | apply Grew.alloc | apply Grew.drew | apply Grew.drewN))).mono ?_
  rintro e w1 ⟨t, rfl, ht1, ht2, R1, n1, rfl⟩
  have HB := Lib.hid fun a b => plan_back (p := p) (t := t) h1 h6 a b
  have HF := Lib.hid (plan_forth (p := p) (t := t) ht2)
  have HT2 := Lib.hid ht2
  have HG := Lib.hid fun W => getPlan_any t W (by omega)
  have HK := Lib.hid fun W (g : Grew w W) => kept_any _ p t W (HV.out.grew g) (fun s hs => by have := HS.out s hs; omega) (by omega)
  clear ht2
  generalize hgp : Gr.getPl getL t = r at *
  obtain ⟨q, er⟩ := r
  simp only at HB HF HG HK
  clear hgp
  by_cases he : er = 0
  case neg =>
    have hb : (er != 0) = true := by rw [bne_iff_ne]; exact he
    have hp := planR_no (fun h => he (HF.out h).1)
    rw [HPR.out] at hp
    cases hp
    clear he
    go_wp2_with (go_at_call 18; refine (HG.out _).mono ?_; rintro e w1 ⟨v1, rfl, h1, R2, n2, rfl⟩; simp only)
    exact bodyPost_ret (v := .tuple #[.string ⟨#[]⟩, .int .i64 11]) (by simp [results, Tryz.results16, go_sem]) rfl ⟨rfl, by repeat (first | with_reducible exact Grew.refl _ | apply Grew.more | apply Grew.alloc | apply Grew.drew | apply Grew.drewN)⟩
  subst he
  cases hk : eqBy sameSt p q
  · have hp := planR_no (fun h => by have h2 := (HF.out h).2; rw [hk] at h2; cases h2)
    rw [HPR.out] at hp
    cases hp
    have HKK := Lib.hid hk
    clear hk
    go_wp2_with (first
      | (go_at_call 18; refine (HG.out _).mono ?_; rintro e w1 ⟨v1, rfl, h1, R2, n2, rfl⟩; simp only)
      | (go_at_call 44; refine (HK.out _ (by repeat (first | with_reducible exact Grew.refl _ | apply Grew.more | apply Grew.alloc | apply Grew.drew | apply Grew.drewN))).mono ?_; rintro e w1 ⟨rfl, R3, n3, rfl⟩; rw [HKK.out]))
    exact bodyPost_ret (v := .tuple #[.string ⟨#[]⟩, .int .i64 11]) (by simp [results, Tryz.results16, go_sem]) rfl ⟨rfl, by repeat (first | with_reducible exact Grew.refl _ | apply Grew.more | apply Grew.alloc | apply Grew.drew | apply Grew.drewN)⟩
  · have hok := HB.out rfl hk
    have hp := planR_ok hok
    rw [HPR.out] at hp
    cases hp
    have HKK := Lib.hid hk
    have htt := HT2.out hok
    subst htt
    clear hk hok
    go_wp2_with (first
      | (go_at_call 18; refine (HG.out _).mono ?_; rintro e w1 ⟨v1, rfl, h1, R2, n2, rfl⟩; simp only)
      | (go_at_call 44; refine (HK.out _ (by repeat (first | with_reducible exact Grew.refl _ | apply Grew.more | apply Grew.alloc | apply Grew.drew | apply Grew.drewN))).mono ?_; rintro e w1 ⟨rfl, R3, n3, rfl⟩; rw [HKK.out]))
    exact bodyPost_ret (v := .tuple #[.string ⟨(Gr.putPl putI p).toArray⟩, .int .i64 0]) (by simp [results, Tryz.results16, go_sem]) rfl ⟨rfl, by repeat (first | with_reducible exact Grew.refl _ | apply Grew.more | apply Grew.alloc | apply Grew.drew | apply Grew.drewN)⟩
end Go.Proofs.YtangapokicnfgaaGreat
