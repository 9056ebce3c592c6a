import Derived.Test.YtangapokicnfgaaGreatMp42
import Derived.Test.YtangapokicnfgaaGreatMp51
import Derived.Test.YtangapokicnfgaaGreatMp39
import Derived.Test.YtangapokicnfgaaGreatMp33
import Derived.Test.YtangapokicnfgaaGreatMp40
/-! forebaylaw13: awake. -/
namespace Go.Proofs.YtangapokicnfgaaGreat
set_option linter.unusedSimpArgs false
set_option linter.unusedVariables false
open Go.RowKit Ga
set_option maxRecDepth 100000

theorem pass_right : Gr.RightR passL := by
  refine ⟨by decide, ?_, by decide, ?_⟩
  · intro i n h
    match i with
    | 0 =>
      cases h
      refine ⟨by decide, by decide, rfl, by decide, by decide, by decide, by decide, by decide, by decide, by decide, by decide, by decide, by decide, by decide, by decide, ?_⟩
      intro k f hk
      cases hk
    | 1 =>
      cases h
      refine ⟨by decide, by decide, rfl, by decide, by decide, by decide, by decide, by decide, by decide, by decide, by decide, by decide, by decide, by decide, by decide, ?_⟩
      intro k f hk
      match k with
      | 0 =>
        cases hk
        exact ⟨⟨0, _, rfl, rfl, by decide⟩, by simp⟩
      | k + 1 => cases hk
    | i + 2 => cases h
  · intro n hn
    simp only [passL, List.mem_cons, List.not_mem_nil, or_false] at hn
    rcases hn with rfl | rfl <;> rfl
theorem pass_norm : Gr.normG passL = passL := rfl
theorem pass_route : ∀ n ∈ passL, n.route.length = 8 := by decide
theorem fits_nil : fitsP [] := by unfold fitsP; rfl
theorem pass_get : Gr.getG getL (Gr.putG putI passL) = (passL, 0) := by
  rw [Gr.getG_put codecI fits_nil (fun p hp => safe_fits hp) pass_right pass_route, pass_norm]
theorem pass_small : Small passL := by unfold Small; decide
theorem pass_same : sameG passL passL = true := sameG_true rfl fun i hi => by
  match i with
  | 0 => rfl
  | 1 => rfl
  | i + 2 => exact absurd hi (by simp [passL])
set_option maxHeartbeats 8000000 in
theorem awake13_any (w : World) : Calls Tryz.prog 8 #[] w (Gives (.bool true) w) := by
  have hlen : (Gr.putG putI passL).length ≤ 100000 := Nat.le_trans (putG_len pass_right pass_route) (by decide)
  have hP := fun W v (hv : NodesAt W v passL) => packGraph_ok v passL W hv pass_small pass_right
  have hG := fun W => getGraph_any (Gr.putG putI passL) W hlen
  rw [pass_get] at hG
  generalize Gr.putG putI passL = t at *
  have hS := fun W v u (hv : NodesAt W v passL) (hu : NodesAt W u passL) => refSame08_any v u passL passL W hv hu
  rw [pass_same] at hS
  have HP := Lib.hid hP
  have HG := Lib.hid hG
  have HS := Lib.hid hS
  clear hP hG hS hlen
  go_enter Tryz.func8, Tryz.ntmps8
  go_wp2_with (first
    | (go_at_call 29; refine (pass_any _).mono ?_; rintro e w1 ⟨v1, rfl, hv1, R1, n1, rfl⟩; obtain ⟨a1, c1, rfl, -, -⟩ := hv1.openC; (have HV1 := Lib.hid hv1); clear hv1)
    | (go_at_call 10; refine (HP.out _ _ HV1.out).mono ?_; rintro e w1 ⟨rfl, R2, n2, rfl⟩)
    | (go_at_call 12; refine (HG.out _).mono ?_; rintro e w1 ⟨v2, rfl, hv2, R3, n3, rfl⟩; obtain ⟨a2, c2, rfl, -, -⟩ := hv2.openC; (have HV2 := Lib.hid hv2); clear hv2)
    | (go_at_call 14; refine (HS.out _ _ _ (HV2.out.grew (by repeat (first | with_reducible exact Grew.refl _ | apply Grew.more | apply Grew.alloc | apply Grew.drew | apply Grew.drewN))) HV1.out).mono ?_; rintro e w1 ⟨rfl, R4, n4, rfl⟩))
  go_ret
  exact ⟨rfl, by repeat (first | with_reducible exact Grew.refl _ | apply Grew.more | apply Grew.alloc | apply Grew.drew | apply Grew.drewN)⟩
theorem nodes_route {w : World} {v : Value} {l : List Gr.Nd} (h : NodesAt w v l) : ∀ n ∈ l, n.route.length = 8 := by
  obtain ⟨lc, -, h2, h3⟩ := h
  intro n hn
  obtain ⟨i, hi, rfl⟩ := List.mem_iff_getElem.1 hn
  rw [(h3 i lc[i] l[i] (List.getElem?_eq_getElem (by omega)) (List.getElem?_eq_getElem hi)).route]
  rfl
theorem great_small {l : List Gr.Nd} (h : greatG l = false) : Small l ∧ l.length ≤ 20 := by
  unfold greatG at h
  simp only [Bool.or_eq_false_iff, decide_eq_false_iff_not, List.any_eq_false] at h
  refine ⟨fun n hn => ?_, by omega⟩
  have := h.2 n hn
  unfold greatN at this
  simp only [Bool.or_eq_true, decide_eq_true_eq, not_or] at this
  omega
theorem norm_same {l : List Gr.Nd} (h : Gr.RightR l) : sameG l (Gr.normG l) = true := by
  obtain ⟨h1, h2⟩ := Gr.same_norm h
  exact sameG_true h1.symm fun i hi => h2 _ (List.getElem_mem hi)
theorem right_okB {l : List Gr.Nd} (h : Gr.RightR l) (h8 : ∀ n ∈ l, n.route.length = 8) : ∀ n ∈ l, Gr.OkB fitsP 1 n := h.okB fits_nil (fun p hp => safe_fits hp) h8

set_option maxHeartbeats 8000000 in
theorem packGraphs_any (v : Value) (l : List Gr.Nd) (s : List UInt8) (w : World) (hv : NodesAt w v l) : Calls Tryz.prog 3 #[v, .string ⟨s.toArray⟩] w (Gives (.bool true) w) := by
  have h8 := nodes_route hv
  have hgr := fun W (g : Grew w W) => great08_any v l W (hv.grew g)
  have HV := Lib.hid hv
  obtain ⟨a, cap, rfl, hm, -⟩ := hv.openC
  have H8 := Lib.hid h8
  clear hv h8
  cases hgt : greatG l
  · obtain ⟨hsm, h20⟩ := great_small hgt
    rw [hgt] at hgr
    have HGR := Lib.hid hgr
    have HSM := Lib.hid hsm
    clear hgr hsm hgt
    by_cases hlen : s.length ≤ 3000
    · obtain ⟨m, x, hgsE⟩ : ∃ m x, Gr.getG getL s = (m, x) := ⟨_, _, rfl⟩
      have hgs := fun W => getGraph_any s W (by omega)
      rw [hgsE] at hgs
      have hcr := fun W (g : Grew w W) => refCheck08_any _ l W (HV.out.grew g)
      by_cases hr : Gr.RightR l
      · have hp := fun W (g : Grew w W) => packGraph_ok _ l W (HV.out.grew g) HSM.out hr
        rw [checkR_ok hr.len hr] at hcr
        have hlt : (Gr.putG putI l).length ≤ 100000 := Nat.le_trans (putG_len hr H8.out) (by decide)
        have hgt := fun W => getGraph_any (Gr.putG putI l) W hlt
        rw [Gr.getG_put codecI fits_nil (fun p hp => safe_fits hp) hr H8.out] at hgt
        have hg13 := fun W (g : Grew w W) => graph13_any _ l W (HV.out.grew g) (right_okB hr H8.out) (by omega)
        have hsame := fun W u (g : Grew w W) (hu : NodesAt W u (Gr.normG l)) => refSame08_any _ u l (Gr.normG l) W (HV.out.grew g) hu
        rw [norm_same hr] at hsame
        generalize Gr.putG putI l = t at *
        generalize Gr.normG l = ln at *
        have HP := Lib.hid hp
        have HCR := Lib.hid hcr
        have HGT := Lib.hid hgt
        have HG13 := Lib.hid hg13
        have HSAME := Lib.hid hsame
        have HGS := Lib.hid hgs
        clear hp hcr hgt hg13 hsame hlt hgs
        cases hx : (x != 0)
        · obtain rfl : x = 0 := by simpa using hx
          obtain ⟨hrm, hput, -, h8m⟩ := Gr.getG_can codecI hgsE
          have hcm := fun W u (hu : NodesAt W u m) => refCheck08_any u m W hu
          rw [checkR_ok hrm.len hrm] at hcm
          have hgm := fun W u (hu : NodesAt W u m) => graph13_any u m W hu (right_okB hrm h8m) (by have := hrm.len; omega)
          rw [hput] at hgm
          have HCM := Lib.hid hcm
          have HGM := Lib.hid hgm
          clear hrm hput h8m hcm hgm hx hgsE
          go_enter Tryz.func3, Tryz.ntmps3
          go_wp2_with (first
            | (go_at_call 8; refine (awake13_any _).mono ?_; rintro e w1 ⟨rfl, R1, n1, rfl⟩)
            | (go_at_call 9; refine (HGR.out _ (by repeat (first | with_reducible exact Grew.refl _ | apply Grew.more | apply Grew.alloc | apply Grew.drew | apply Grew.drewN))).mono ?_; rintro e w1 ⟨rfl, R2, n2, rfl⟩)
            | (go_at_call 10; refine (HP.out _ (by repeat (first | with_reducible exact Grew.refl _ | apply Grew.more | apply Grew.alloc | apply Grew.drew | apply Grew.drewN))).mono ?_; rintro e w1 ⟨rfl, R3, n3, rfl⟩)
            | (go_at_call_of 11 (Value.slice a l.length cap); refine (HCR.out _ (by repeat (first | with_reducible exact Grew.refl _ | apply Grew.more | apply Grew.alloc | apply Grew.drew | apply Grew.drewN))).mono ?_; rintro e w1 ⟨rfl, R4, n4, rfl⟩)
            | (go_at_call_of 12 (str t); refine (HGT.out _).mono ?_; rintro e w1 ⟨v2, rfl, hv2, R5, n5, rfl⟩; obtain ⟨a2, c2, rfl, -, -⟩ := hv2.openC; (have HV2 := Lib.hid hv2); clear hv2)
            | (go_at_call_of 13 (Value.slice a l.length cap); refine (HG13.out _ (by repeat (first | with_reducible exact Grew.refl _ | apply Grew.more | apply Grew.alloc | apply Grew.drew | apply Grew.drewN))).mono ?_; rintro e w1 ⟨rfl, R6, n6, rfl⟩)
            | (go_at_call 14; refine (HSAME.out _ _ (by repeat (first | with_reducible exact Grew.refl _ | apply Grew.more | apply Grew.alloc | apply Grew.drew | apply Grew.drewN)) (HV2.out.grew (by repeat (first | with_reducible exact Grew.refl _ | apply Grew.more | apply Grew.alloc | apply Grew.drew | apply Grew.drewN)))).mono ?_; rintro e w1 ⟨rfl, R7, n7, rfl⟩)
            | (go_at_call 12; refine (HGS.out _).mono ?_; rintro e w1 ⟨v3, rfl, hv3, R8, n8, rfl⟩; obtain ⟨a3, c3, rfl, -, -⟩ := hv3.openC; (have HV3 := Lib.hid hv3); clear hv3)
            | (go_at_call 11; refine (HCM.out _ _ (HV3.out.grew (by repeat (first | with_reducible exact Grew.refl _ | apply Grew.more | apply Grew.alloc | apply Grew.drew | apply Grew.drewN)))).mono ?_; rintro e w1 ⟨rfl, R9, n9, rfl⟩)
            | (go_at_call 13; refine (HGM.out _ _ (HV3.out.grew (by repeat (first | with_reducible exact Grew.refl _ | apply Grew.more | apply Grew.alloc | apply Grew.drew | apply Grew.drewN)))).mono ?_; rintro e w1 ⟨rfl, R10, n10, rfl⟩))
          go_ret
          exact ⟨by simp, by repeat (first | with_reducible exact Grew.refl _ | apply Grew.more | apply Grew.alloc | apply Grew.drew | apply Grew.drewN)⟩
        · have hmn : m = [] := by have := Gr.getG_bad (s := s) (gp := getL) (by rw [hgsE]; simpa using hx); rw [hgsE] at this; exact this
          subst hmn
          clear hgsE
          go_enter Tryz.func3, Tryz.ntmps3
          go_wp2_with (first
            | (go_at_call 8; refine (awake13_any _).mono ?_; rintro e w1 ⟨rfl, R1, n1, rfl⟩)
            | (go_at_call 9; refine (HGR.out _ (by repeat (first | with_reducible exact Grew.refl _ | apply Grew.more | apply Grew.alloc | apply Grew.drew | apply Grew.drewN))).mono ?_; rintro e w1 ⟨rfl, R2, n2, rfl⟩)
            | (go_at_call 10; refine (HP.out _ (by repeat (first | with_reducible exact Grew.refl _ | apply Grew.more | apply Grew.alloc | apply Grew.drew | apply Grew.drewN))).mono ?_; rintro e w1 ⟨rfl, R3, n3, rfl⟩)
            | (go_at_call_of 11 (Value.slice a l.length cap); refine (HCR.out _ (by repeat (first | with_reducible exact Grew.refl _ | apply Grew.more | apply Grew.alloc | apply Grew.drew | apply Grew.drewN))).mono ?_; rintro e w1 ⟨rfl, R4, n4, rfl⟩)
            | (go_at_call_of 12 (str t); refine (HGT.out _).mono ?_; rintro e w1 ⟨v2, rfl, hv2, R5, n5, rfl⟩; obtain ⟨a2, c2, rfl, -, -⟩ := hv2.openC; (have HV2 := Lib.hid hv2); clear hv2)
            | (go_at_call_of 13 (Value.slice a l.length cap); refine (HG13.out _ (by repeat (first | with_reducible exact Grew.refl _ | apply Grew.more | apply Grew.alloc | apply Grew.drew | apply Grew.drewN))).mono ?_; rintro e w1 ⟨rfl, R6, n6, rfl⟩)
            | (go_at_call 14; refine (HSAME.out _ _ (by repeat (first | with_reducible exact Grew.refl _ | apply Grew.more | apply Grew.alloc | apply Grew.drew | apply Grew.drewN)) (HV2.out.grew (by repeat (first | with_reducible exact Grew.refl _ | apply Grew.more | apply Grew.alloc | apply Grew.drew | apply Grew.drewN)))).mono ?_; rintro e w1 ⟨rfl, R7, n7, rfl⟩)
            | (go_at_call 12; refine (HGS.out _).mono ?_; rintro e w1 ⟨v3, rfl, hv3, R8, n8, rfl⟩; obtain ⟨a3, c3, rfl, -, -⟩ := hv3.openC; (have HV3 := Lib.hid hv3); clear hv3))
          go_ret
          exact ⟨by simp, by repeat (first | with_reducible exact Grew.refl _ | apply Grew.more | apply Grew.alloc | apply Grew.drew | apply Grew.drewN)⟩
      · have hp := fun W (g : Grew w W) => packGraph_bad _ l W (HV.out.grew g) HSM.out hr
        have hne : (checkR l != 0) = true := by
          rcases Nat.lt_or_ge 8 l.length with h | h
          · rw [checkR_long h]; rfl
          · rw [checkR_bad h hr]; rfl
        generalize checkR l = cr at *
        have HP := Lib.hid hp
        have HCR := Lib.hid hcr
        have HGS := Lib.hid hgs
        clear hp hcr hgs
        cases hx : (x != 0)
        · obtain rfl : x = 0 := by simpa using hx
          obtain ⟨hrm, hput, -, h8m⟩ := Gr.getG_can codecI hgsE
          have hcm := fun W u (hu : NodesAt W u m) => refCheck08_any u m W hu
          rw [checkR_ok hrm.len hrm] at hcm
          have hgm := fun W u (hu : NodesAt W u m) => graph13_any u m W hu (right_okB hrm h8m) (by have := hrm.len; omega)
          rw [hput] at hgm
          have HCM := Lib.hid hcm
          have HGM := Lib.hid hgm
          clear hrm hput h8m hcm hgm hx hgsE
          go_enter Tryz.func3, Tryz.ntmps3
          go_wp2_with (first
            | (go_at_call 8; refine (awake13_any _).mono ?_; rintro e w1 ⟨rfl, R1, n1, rfl⟩)
            | (go_at_call 9; refine (HGR.out _ (by repeat (first | with_reducible exact Grew.refl _ | apply Grew.more | apply Grew.alloc | apply Grew.drew | apply Grew.drewN))).mono ?_; rintro e w1 ⟨rfl, R2, n2, rfl⟩)
            | (go_at_call 10; refine (HP.out _ (by repeat (first | with_reducible exact Grew.refl _ | apply Grew.more | apply Grew.alloc | apply Grew.drew | apply Grew.drewN))).mono ?_; rintro e w1 ⟨rfl, R3, n3, rfl⟩)
            | (go_at_call_of 11 (Value.slice a l.length cap); refine (HCR.out _ (by repeat (first | with_reducible exact Grew.refl _ | apply Grew.more | apply Grew.alloc | apply Grew.drew | apply Grew.drewN))).mono ?_; rintro e w1 ⟨rfl, R4, n4, rfl⟩)
            | (go_at_call 12; refine (HGS.out _).mono ?_; rintro e w1 ⟨v3, rfl, hv3, R8, n8, rfl⟩; obtain ⟨a3, c3, rfl, -, -⟩ := hv3.openC; (have HV3 := Lib.hid hv3); clear hv3)
            | (go_at_call 11; refine (HCM.out _ _ (HV3.out.grew (by repeat (first | with_reducible exact Grew.refl _ | apply Grew.more | apply Grew.alloc | apply Grew.drew | apply Grew.drewN)))).mono ?_; rintro e w1 ⟨rfl, R9, n9, rfl⟩)
            | (go_at_call 13; refine (HGM.out _ _ (HV3.out.grew (by repeat (first | with_reducible exact Grew.refl _ | apply Grew.more | apply Grew.alloc | apply Grew.drew | apply Grew.drewN)))).mono ?_; rintro e w1 ⟨rfl, R10, n10, rfl⟩))
          go_ret
          exact ⟨by simp, by repeat (first | with_reducible exact Grew.refl _ | apply Grew.more | apply Grew.alloc | apply Grew.drew | apply Grew.drewN)⟩
        · have hmn : m = [] := by have := Gr.getG_bad (s := s) (gp := getL) (by rw [hgsE]; simpa using hx); rw [hgsE] at this; exact this
          subst hmn
          clear hgsE
          go_enter Tryz.func3, Tryz.ntmps3
          go_wp2_with (first
            | (go_at_call 8; refine (awake13_any _).mono ?_; rintro e w1 ⟨rfl, R1, n1, rfl⟩)
            | (go_at_call 9; refine (HGR.out _ (by repeat (first | with_reducible exact Grew.refl _ | apply Grew.more | apply Grew.alloc | apply Grew.drew | apply Grew.drewN))).mono ?_; rintro e w1 ⟨rfl, R2, n2, rfl⟩)
            | (go_at_call 10; refine (HP.out _ (by repeat (first | with_reducible exact Grew.refl _ | apply Grew.more | apply Grew.alloc | apply Grew.drew | apply Grew.drewN))).mono ?_; rintro e w1 ⟨rfl, R3, n3, rfl⟩)
            | (go_at_call_of 11 (Value.slice a l.length cap); refine (HCR.out _ (by repeat (first | with_reducible exact Grew.refl _ | apply Grew.more | apply Grew.alloc | apply Grew.drew | apply Grew.drewN))).mono ?_; rintro e w1 ⟨rfl, R4, n4, rfl⟩)
            | (go_at_call 12; refine (HGS.out _).mono ?_; rintro e w1 ⟨v3, rfl, hv3, R8, n8, rfl⟩; obtain ⟨a3, c3, rfl, -, -⟩ := hv3.openC; (have HV3 := Lib.hid hv3); clear hv3))
          go_ret
          exact ⟨by simp, by repeat (first | with_reducible exact Grew.refl _ | apply Grew.more | apply Grew.alloc | apply Grew.drew | apply Grew.drewN)⟩
    · have hlen' : (3000 : Int) < (s.length : Int) := by omega
      go_enter Tryz.func3, Tryz.ntmps3
      go_wp2_with (first
        | (go_at_call 8; refine (awake13_any _).mono ?_; rintro e w1 ⟨rfl, R1, n1, rfl⟩)
        | (go_at_call 9; refine (HGR.out _ (by repeat (first | with_reducible exact Grew.refl _ | apply Grew.more | apply Grew.alloc | apply Grew.drew | apply Grew.drewN))).mono ?_; rintro e w1 ⟨rfl, R2, n2, rfl⟩))
      go_ret
      refine ⟨rfl, ?_⟩
      repeat (first | with_reducible exact Grew.refl _ | apply Grew.more | apply Grew.alloc | apply Grew.drew | apply Grew.drewN)
  · rw [hgt] at hgr
    have HGR := Lib.hid hgr
    clear hgr hgt
    go_enter Tryz.func3, Tryz.ntmps3
    go_wp2_with (first
      | (go_at_call 8; refine (awake13_any _).mono ?_; rintro e w1 ⟨rfl, R1, n1, rfl⟩)
      | (go_at_call 9; refine (HGR.out _ (by repeat (first | with_reducible exact Grew.refl _ | apply Grew.more | apply Grew.alloc | apply Grew.drew | apply Grew.drewN))).mono ?_; rintro e w1 ⟨rfl, R2, n2, rfl⟩))
    go_ret
    refine ⟨rfl, ?_⟩
    repeat (first | with_reducible exact Grew.refl _ | apply Grew.more | apply Grew.alloc | apply Grew.drew | apply Grew.drewN)
end Go.Proofs.YtangapokicnfgaaGreat
