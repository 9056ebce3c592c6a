import Derived.Test.YtiocdmfmghanmaaDoorLawCodeTexts
/-! The law CodeJoins, walked. -/
namespace Go.Proofs.YtiocdmfmghanmaaDoor
set_option linter.unusedSimpArgs false
set_option linter.unusedVariables false
open Go.RowKit Ga
set_option maxRecDepth 100000

set_option maxHeartbeats 8000000 in
theorem codeJoins_any (v u : Value) (l m : List Val) (cut : Int) (hcut : 0 ≤ cut ∧ cut ≤ 255) (w : World) (hv : ValsAt w v l) (hu : ValsAt w u m) (hn : v = .slice none 0 0 ∨ ∃ a c, v = .slice (some a) l.length c) (hn2 : u = .slice none 0 0 ∨ ∃ a c, u = .slice (some a) m.length c) (h : Env4 w) :
    Calls Tryd.prog 6 #[v, u, .int .u8 cut] w (Gives (.bool true) w) := by
  obtain ⟨a, cap, rfl, hm, -⟩ := hv.open2
  obtain ⟨a2, cap2, rfl, hm2, -⟩ := hu.open2
  have HV := Lib.hid hv
  have HU := Lib.hid hu
  have HE := Lib.hid h
  have HN := Lib.hid hn
  have HN2 := Lib.hid hn2
  clear hv hu h hn hn2
  by_cases hb : Co.fitsI l = true ∧ Co.fitsI m = true
  · obtain ⟨hf, hg⟩ := hb
    obtain ⟨l24, hrl⟩ := Co.fits_parts hf
    obtain ⟨m24, hrm⟩ := Co.fits_parts hg
    have htl := Co.textI_len l hrl
    have htm := Co.textI_len m hrm
    have htl' : (Co.textI l).length ≤ 384 := by omega
    have htm' : (Co.textI m).length ≤ 384 := by omega
    have HF := Lib.hid hf
    have HG := Lib.hid hg
    clear hf hg hrl hrm htl htm
    have hTl : Co.textOut l = Co.textI l := by unfold Co.textOut; rw [HF.out]; rfl
    have hTm : Co.textOut m = Co.textI m := by unfold Co.textOut; rw [HG.out]; rfl
    have HTL := Lib.hid hTl
    have HTM := Lib.hid hTm
    clear hTl hTm
    have hN0 : 0 ≤ cut % ((l.length : Int) + (m.length : Int) + 1) := Int.emod_nonneg _ (by omega)
    have hN1 : cut % ((l.length : Int) + (m.length : Int) + 1) ≤ (l.length : Int) + (m.length : Int) := by
      have := Int.emod_lt_of_pos cut (show (0 : Int) < (l.length : Int) + (m.length : Int) + 1 by omega); omega
    have hN : (cut % ((l.length : Int) + (m.length : Int) + 1)).toNat ≤ l.length + m.length := by omega
    by_cases hbig : 24 < l.length + m.length
    · have hfb := Co.fits_big (l := l ++ m) (by rw [List.length_append]; exact hbig)
      have HFB := Lib.hid hfb
      clear hfb
      go_enter Tryd.func6, Tryd.ntmps6
      go_wp2_with (first
        | (go_at_call 17; refine (awake04_any _ (HE.out.grew (by repeat (first | with_reducible exact Grew.refl _ | apply Grew.more | apply Grew.alloc | apply Grew.drew | apply Grew.drewN)))).mono ?_; rintro e w1 ⟨rfl, R2, n2, rfl⟩)
        | (go_at_call 19; ((with_reducible refine (codeFits_any _ l _ (HV.out.grew (by repeat (first | with_reducible exact Grew.refl _ | apply Grew.more | apply Grew.alloc | apply Grew.drew | apply Grew.drewN)))).mono ?_); rintro e w1 ⟨rfl, R4, n4, rfl⟩; rw [HF.out]))
        | (go_at_call 19; ((with_reducible refine (codeFits_any _ m _ (HU.out.grew (by repeat (first | with_reducible exact Grew.refl _ | apply Grew.more | apply Grew.alloc | apply Grew.drew | apply Grew.drewN)))).mono ?_); rintro e w1 ⟨rfl, R4, n4, rfl⟩; rw [HG.out]))
        | (at_builtin; refine wpList_ownM (w0 := w) (enc := encI) (l := []) (v := .slice (some ⟨_, 0, none⟩) 0 0) rfl (.tmp 29) (.tmp 30) 33 _ _ _ l rfl Tryd.underlying33 infoIns rfl (by decide) encI_len encI_one rfl (OwnAt.lit _ _ (by simp [go_sem]) (by omega)) (by repeat (first | with_reducible exact Grew.refl _ | apply Grew.more | apply Grew.alloc | apply Grew.drew | apply Grew.drewN)) rfl (HV.out.grew (by repeat (first | with_reducible exact Grew.refl _ | apply Grew.more | apply Grew.alloc | apply Grew.drew | apply Grew.drewN))) HN.out (by simp only [List.length_nil]; omega) (by decide) ?_; intro v5 R5 n5 hown5 hnn5; (have hnn5b : v5 ≠ .slice none 0 0 := fun e => by have := hnn5 e; cases this); clear hnn5; (have HN5 := Lib.hid hnn5b); clear hnn5b; (have HO5 := Lib.hid hown5); clear hown5)
        | (at_builtin; refine wpList_ownM (w0 := w) rfl (.tmp 31) (.tmp 32) 33 _ _ _ m rfl Tryd.underlying33 infoIns rfl (by decide) encI_len encI_one rfl HO5.out (by repeat (first | with_reducible exact Grew.refl _ | apply Grew.more | apply Grew.alloc | apply Grew.drew | apply Grew.drewN)) rfl (HU.out.grew (by repeat (first | with_reducible exact Grew.refl _ | apply Grew.more | apply Grew.alloc | apply Grew.drew | apply Grew.drewN))) HN2.out (by simp only [List.length_append, List.length_nil]; omega) (by decide) ?_; intro v6 R6 n6 hown6 hnn6; rw [List.nil_append] at hown6; obtain ⟨b6, c6, rfl, hb6, hc6, hm6⟩ := hown6.form.resolve_left (fun h => HN5.out (hnn6 h.1)); rw [List.length_append]; clear hnn6 hb6 hm6; rw [List.length_append] at hc6 hown6; (have hr6 : ValsAt (w.more R6 n6) _ (l ++ m) := hown6.rows encI_len); (have HR6 := Lib.hid hr6); (have hrt : ValsAt (w.more R6 n6) _ ((l ++ m).take (cut % ((l.length : Int) + (m.length : Int) + 1)).toNat) := hr6.take hN); (have HRT := Lib.hid hrt); (have hc7 : cut % ((l.length : Int) + (m.length : Int) + 1) ≤ (c6 : Int) := Int.le_trans hN1 (by omega)); clear hown6 hr6 hrt)
        | (go_at_call 19; ((with_reducible refine (codeFits_any _ (l ++ m) _ (HR6.out.grew (by repeat (first | with_reducible exact Grew.refl _ | apply Grew.more | apply Grew.alloc | apply Grew.drew | apply Grew.drewN)))).mono ?_); rintro e w1 ⟨rfl, R4, n4, rfl⟩; rw [HFB.out]))
        )
      go_ret
      refine ⟨rfl, ?_⟩
      repeat (first | with_reducible exact Grew.refl _ | apply Grew.more | apply Grew.alloc | apply Grew.drew | apply Grew.drewN)
    · have hfb := Co.fits_append HF.out HG.out (by omega)
      have hft := Co.fits_take hfb (cut % ((l.length : Int) + (m.length : Int) + 1)).toNat
      have HFT := Lib.hid hft
      clear hft
      have HFB := Lib.hid hfb
      have hTb : Co.textOut (l ++ m) = Co.textI (l ++ m) := by unfold Co.textOut; rw [hfb]; rfl
      clear hfb
      by_cases hz : l = [] ∨ m = []
      · have hcat : str (Co.textOut (l ++ m)) = Value.string (⟨(Co.textI l).toArray⟩ ++ ⟨(Co.textI m).toArray⟩) := by
          rw [hTb, str_cat]
          rcases hz with rfl | rfl
          · rw [Co.textI_nil]; rfl
          · rw [Co.textI_nil, List.append_nil, List.append_nil]
        have hz2 : ((l.length : Int) == 0) = true ∨ (((l.length : Int) == 0) = false ∧ ((m.length : Int) == 0) = true) := by
          rcases hz with rfl | rfl
          · exact .inl rfl
          · cases h : ((l.length : Int) == 0)
            · exact .inr ⟨rfl, rfl⟩
            · exact .inl rfl
        have HCAT := Lib.hid hcat
        clear hcat hz hTb
        rcases hz2 with hlz | ⟨hlz, hmz⟩
        all_goals
          go_enter Tryd.func6, Tryd.ntmps6
          go_wp2_with (first
            | (go_at_call 17; refine (awake04_any _ (HE.out.grew (by repeat (first | with_reducible exact Grew.refl _ | apply Grew.more | apply Grew.alloc | apply Grew.drew | apply Grew.drewN)))).mono ?_; rintro e w1 ⟨rfl, R2, n2, rfl⟩)
            | (go_at_call 19; ((with_reducible refine (codeFits_any _ l _ (HV.out.grew (by repeat (first | with_reducible exact Grew.refl _ | apply Grew.more | apply Grew.alloc | apply Grew.drew | apply Grew.drewN)))).mono ?_); rintro e w1 ⟨rfl, R4, n4, rfl⟩; rw [HF.out]))
            | (go_at_call 19; ((with_reducible refine (codeFits_any _ m _ (HU.out.grew (by repeat (first | with_reducible exact Grew.refl _ | apply Grew.more | apply Grew.alloc | apply Grew.drew | apply Grew.drewN)))).mono ?_); rintro e w1 ⟨rfl, R4, n4, rfl⟩; rw [HG.out]))
            | (at_builtin; refine wpList_ownM (w0 := w) (enc := encI) (l := []) (v := .slice (some ⟨_, 0, none⟩) 0 0) rfl (.tmp 29) (.tmp 30) 33 _ _ _ l rfl Tryd.underlying33 infoIns rfl (by decide) encI_len encI_one rfl (OwnAt.lit _ _ (by simp [go_sem]) (by omega)) (by repeat (first | with_reducible exact Grew.refl _ | apply Grew.more | apply Grew.alloc | apply Grew.drew | apply Grew.drewN)) rfl (HV.out.grew (by repeat (first | with_reducible exact Grew.refl _ | apply Grew.more | apply Grew.alloc | apply Grew.drew | apply Grew.drewN))) HN.out (by simp only [List.length_nil]; omega) (by decide) ?_; intro v5 R5 n5 hown5 hnn5; (have hnn5b : v5 ≠ .slice none 0 0 := fun e => by have := hnn5 e; cases this); clear hnn5; (have HN5 := Lib.hid hnn5b); clear hnn5b; (have HO5 := Lib.hid hown5); clear hown5)
            | (at_builtin; refine wpList_ownM (w0 := w) rfl (.tmp 31) (.tmp 32) 33 _ _ _ m rfl Tryd.underlying33 infoIns rfl (by decide) encI_len encI_one rfl HO5.out (by repeat (first | with_reducible exact Grew.refl _ | apply Grew.more | apply Grew.alloc | apply Grew.drew | apply Grew.drewN)) rfl (HU.out.grew (by repeat (first | with_reducible exact Grew.refl _ | apply Grew.more | apply Grew.alloc | apply Grew.drew | apply Grew.drewN))) HN2.out (by simp only [List.length_append, List.length_nil]; omega) (by decide) ?_; intro v6 R6 n6 hown6 hnn6; rw [List.nil_append] at hown6; obtain ⟨b6, c6, rfl, hb6, hc6, hm6⟩ := hown6.form.resolve_left (fun h => HN5.out (hnn6 h.1)); rw [List.length_append]; clear hnn6 hb6 hm6; rw [List.length_append] at hc6 hown6; (have hr6 : ValsAt (w.more R6 n6) _ (l ++ m) := hown6.rows encI_len); (have HR6 := Lib.hid hr6); (have hrt : ValsAt (w.more R6 n6) _ ((l ++ m).take (cut % ((l.length : Int) + (m.length : Int) + 1)).toNat) := hr6.take hN); (have HRT := Lib.hid hrt); (have hc7 : cut % ((l.length : Int) + (m.length : Int) + 1) ≤ (c6 : Int) := Int.le_trans hN1 (by omega)); clear hown6 hr6 hrt)
            | (go_at_call 18; ((with_reducible refine (codeText_env _ l _ (HV.out.grew (by repeat (first | with_reducible exact Grew.refl _ | apply Grew.more | apply Grew.alloc | apply Grew.drew | apply Grew.drewN))) (HE.out.grew (by repeat (first | with_reducible exact Grew.refl _ | apply Grew.more | apply Grew.alloc | apply Grew.drew | apply Grew.drewN)))).mono ?_); rintro e w1 ⟨rfl, R7, n7, rfl⟩; rw [HTL.out]))
            | (go_at_call 18; ((with_reducible refine (codeText_env _ m _ (HU.out.grew (by repeat (first | with_reducible exact Grew.refl _ | apply Grew.more | apply Grew.alloc | apply Grew.drew | apply Grew.drewN))) (HE.out.grew (by repeat (first | with_reducible exact Grew.refl _ | apply Grew.more | apply Grew.alloc | apply Grew.drew | apply Grew.drewN)))).mono ?_); rintro e w1 ⟨rfl, R7, n7, rfl⟩; rw [HTM.out]))
            | (go_at_call 18; ((with_reducible refine (codeText_env _ (l ++ m) _ (HR6.out.grew (by repeat (first | with_reducible exact Grew.refl _ | apply Grew.more | apply Grew.alloc | apply Grew.drew | apply Grew.drewN))) (HE.out.grew (by repeat (first | with_reducible exact Grew.refl _ | apply Grew.more | apply Grew.alloc | apply Grew.drew | apply Grew.drewN)))).mono ?_); rintro e w1 ⟨rfl, R8, n8, rfl⟩; rw [HCAT.out]))
            | (go_at_call 19; ((with_reducible refine (codeFits_any _ ((l ++ m).take (cut % ((l.length : Int) + (m.length : Int) + 1)).toNat) _ (HRT.out.grew (by repeat (first | with_reducible exact Grew.refl _ | apply Grew.more | apply Grew.alloc | apply Grew.drew | apply Grew.drewN)))).mono ?_); rintro e w1 ⟨rfl, R4, n4, rfl⟩; rw [HFT.out]))
            )
          all_goals
            go_ret
            refine ⟨rfl, ?_⟩
            repeat (first | with_reducible exact Grew.refl _ | apply Grew.more | apply Grew.alloc | apply Grew.drew | apply Grew.drewN)
      · have hl0 : l ≠ [] := fun e => hz (.inl e)
        have hm0 : m ≠ [] := fun e => hz (.inr e)
        have hlz : ((l.length : Int) == 0) = false := by rw [beq_eq_false_iff_ne]; have := List.length_pos_iff.2 hl0; omega
        have hmz : ((m.length : Int) == 0) = false := by rw [beq_eq_false_iff_ne]; have := List.length_pos_iff.2 hm0; omega
        have hcat : str (Co.textOut (l ++ m)) = Value.string (⟨(Co.textI l).toArray⟩ ++ ⟨#[59, 32]⟩ ++ ⟨(Co.textI m).toArray⟩) := by
          rw [hTb, Co.textI_append l m hl0 hm0, cat2]; rfl
        have HCAT := Lib.hid hcat
        clear hcat hl0 hm0 hz hTb
        go_enter Tryd.func6, Tryd.ntmps6
        go_wp2_with (first
          | (go_at_call 17; refine (awake04_any _ (HE.out.grew (by repeat (first | with_reducible exact Grew.refl _ | apply Grew.more | apply Grew.alloc | apply Grew.drew | apply Grew.drewN)))).mono ?_; rintro e w1 ⟨rfl, R2, n2, rfl⟩)
          | (go_at_call 19; ((with_reducible refine (codeFits_any _ l _ (HV.out.grew (by repeat (first | with_reducible exact Grew.refl _ | apply Grew.more | apply Grew.alloc | apply Grew.drew | apply Grew.drewN)))).mono ?_); rintro e w1 ⟨rfl, R4, n4, rfl⟩; rw [HF.out]))
          | (go_at_call 19; ((with_reducible refine (codeFits_any _ m _ (HU.out.grew (by repeat (first | with_reducible exact Grew.refl _ | apply Grew.more | apply Grew.alloc | apply Grew.drew | apply Grew.drewN)))).mono ?_); rintro e w1 ⟨rfl, R4, n4, rfl⟩; rw [HG.out]))
          | (at_builtin; refine wpList_ownM (w0 := w) (enc := encI) (l := []) (v := .slice (some ⟨_, 0, none⟩) 0 0) rfl (.tmp 29) (.tmp 30) 33 _ _ _ l rfl Tryd.underlying33 infoIns rfl (by decide) encI_len encI_one rfl (OwnAt.lit _ _ (by simp [go_sem]) (by omega)) (by repeat (first | with_reducible exact Grew.refl _ | apply Grew.more | apply Grew.alloc | apply Grew.drew | apply Grew.drewN)) rfl (HV.out.grew (by repeat (first | with_reducible exact Grew.refl _ | apply Grew.more | apply Grew.alloc | apply Grew.drew | apply Grew.drewN))) HN.out (by simp only [List.length_nil]; omega) (by decide) ?_; intro v5 R5 n5 hown5 hnn5; (have hnn5b : v5 ≠ .slice none 0 0 := fun e => by have := hnn5 e; cases this); clear hnn5; (have HN5 := Lib.hid hnn5b); clear hnn5b; (have HO5 := Lib.hid hown5); clear hown5)
          | (at_builtin; refine wpList_ownM (w0 := w) rfl (.tmp 31) (.tmp 32) 33 _ _ _ m rfl Tryd.underlying33 infoIns rfl (by decide) encI_len encI_one rfl HO5.out (by repeat (first | with_reducible exact Grew.refl _ | apply Grew.more | apply Grew.alloc | apply Grew.drew | apply Grew.drewN)) rfl (HU.out.grew (by repeat (first | with_reducible exact Grew.refl _ | apply Grew.more | apply Grew.alloc | apply Grew.drew | apply Grew.drewN))) HN2.out (by simp only [List.length_append, List.length_nil]; omega) (by decide) ?_; intro v6 R6 n6 hown6 hnn6; rw [List.nil_append] at hown6; obtain ⟨b6, c6, rfl, hb6, hc6, hm6⟩ := hown6.form.resolve_left (fun h => HN5.out (hnn6 h.1)); rw [List.length_append]; clear hnn6 hb6 hm6; rw [List.length_append] at hc6 hown6; (have hr6 : ValsAt (w.more R6 n6) _ (l ++ m) := hown6.rows encI_len); (have HR6 := Lib.hid hr6); (have hrt : ValsAt (w.more R6 n6) _ ((l ++ m).take (cut % ((l.length : Int) + (m.length : Int) + 1)).toNat) := hr6.take hN); (have HRT := Lib.hid hrt); (have hc7 : cut % ((l.length : Int) + (m.length : Int) + 1) ≤ (c6 : Int) := Int.le_trans hN1 (by omega)); clear hown6 hr6 hrt)
          | (go_at_call 18; ((with_reducible refine (codeText_env _ l _ (HV.out.grew (by repeat (first | with_reducible exact Grew.refl _ | apply Grew.more | apply Grew.alloc | apply Grew.drew | apply Grew.drewN))) (HE.out.grew (by repeat (first | with_reducible exact Grew.refl _ | apply Grew.more | apply Grew.alloc | apply Grew.drew | apply Grew.drewN)))).mono ?_); rintro e w1 ⟨rfl, R7, n7, rfl⟩; rw [HTL.out]))
          | (go_at_call 18; ((with_reducible refine (codeText_env _ m _ (HU.out.grew (by repeat (first | with_reducible exact Grew.refl _ | apply Grew.more | apply Grew.alloc | apply Grew.drew | apply Grew.drewN))) (HE.out.grew (by repeat (first | with_reducible exact Grew.refl _ | apply Grew.more | apply Grew.alloc | apply Grew.drew | apply Grew.drewN)))).mono ?_); rintro e w1 ⟨rfl, R7, n7, rfl⟩; rw [HTM.out]))
          | (go_at_call 18; ((with_reducible refine (codeText_env _ (l ++ m) _ (HR6.out.grew (by repeat (first | with_reducible exact Grew.refl _ | apply Grew.more | apply Grew.alloc | apply Grew.drew | apply Grew.drewN))) (HE.out.grew (by repeat (first | with_reducible exact Grew.refl _ | apply Grew.more | apply Grew.alloc | apply Grew.drew | apply Grew.drewN)))).mono ?_); rintro e w1 ⟨rfl, R8, n8, rfl⟩; rw [HCAT.out]))
          | (go_at_call 19; ((with_reducible refine (codeFits_any _ ((l ++ m).take (cut % ((l.length : Int) + (m.length : Int) + 1)).toNat) _ (HRT.out.grew (by repeat (first | with_reducible exact Grew.refl _ | apply Grew.more | apply Grew.alloc | apply Grew.drew | apply Grew.drewN)))).mono ?_); rintro e w1 ⟨rfl, R4, n4, rfl⟩; rw [HFT.out]))
          )
        all_goals
          go_ret
          refine ⟨rfl, ?_⟩
          repeat (first | with_reducible exact Grew.refl _ | apply Grew.more | apply Grew.alloc | apply Grew.drew | apply Grew.drewN)
  · have hF : Co.fitsI l = false ∨ Co.fitsI m = false := by
      cases h1 : Co.fitsI l <;> cases h2 : Co.fitsI m <;> simp_all
    clear hb
    rcases hF with hf | hg
    · cases hg : Co.fitsI m
      all_goals
        have HF := Lib.hid hf
        have HG := Lib.hid hg
        clear hf hg
        go_enter Tryd.func6, Tryd.ntmps6
        go_wp2_with (first
          | (go_at_call 17; refine (awake04_any _ (HE.out.grew (by repeat (first | with_reducible exact Grew.refl _ | apply Grew.more | apply Grew.alloc | apply Grew.drew | apply Grew.drewN)))).mono ?_; rintro e w1 ⟨rfl, R2, n2, rfl⟩)
          | (go_at_call 19; ((with_reducible refine (codeFits_any _ l _ (HV.out.grew (by repeat (first | with_reducible exact Grew.refl _ | apply Grew.more | apply Grew.alloc | apply Grew.drew | apply Grew.drewN)))).mono ?_); rintro e w1 ⟨rfl, R4, n4, rfl⟩; rw [HF.out]))
          | (go_at_call 19; ((with_reducible refine (codeFits_any _ m _ (HU.out.grew (by repeat (first | with_reducible exact Grew.refl _ | apply Grew.more | apply Grew.alloc | apply Grew.drew | apply Grew.drewN)))).mono ?_); rintro e w1 ⟨rfl, R4, n4, rfl⟩; rw [HG.out]))
          )
        all_goals
          go_ret
          refine ⟨rfl, ?_⟩
          repeat (first | with_reducible exact Grew.refl _ | apply Grew.more | apply Grew.alloc | apply Grew.drew | apply Grew.drewN)
    · cases hf : Co.fitsI l
      all_goals
        have HF := Lib.hid hf
        have HG := Lib.hid hg
        clear hf hg
        go_enter Tryd.func6, Tryd.ntmps6
        go_wp2_with (first
          | (go_at_call 17; refine (awake04_any _ (HE.out.grew (by repeat (first | with_reducible exact Grew.refl _ | apply Grew.more | apply Grew.alloc | apply Grew.drew | apply Grew.drewN)))).mono ?_; rintro e w1 ⟨rfl, R2, n2, rfl⟩)
          | (go_at_call 19; ((with_reducible refine (codeFits_any _ l _ (HV.out.grew (by repeat (first | with_reducible exact Grew.refl _ | apply Grew.more | apply Grew.alloc | apply Grew.drew | apply Grew.drewN)))).mono ?_); rintro e w1 ⟨rfl, R4, n4, rfl⟩; rw [HF.out]))
          | (go_at_call 19; ((with_reducible refine (codeFits_any _ m _ (HU.out.grew (by repeat (first | with_reducible exact Grew.refl _ | apply Grew.more | apply Grew.alloc | apply Grew.drew | apply Grew.drewN)))).mono ?_); rintro e w1 ⟨rfl, R4, n4, rfl⟩; rw [HG.out]))
          )
        all_goals
          go_ret
          refine ⟨rfl, ?_⟩
          repeat (first | with_reducible exact Grew.refl _ | apply Grew.more | apply Grew.alloc | apply Grew.drew | apply Grew.drewN)
end Go.Proofs.YtiocdmfmghanmaaDoor

