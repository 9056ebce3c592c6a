import Derived.Test.YtiocdmfmghanmaaDoorCodeParse
/-! The law CodeTexts, walked. -/
namespace Go.Proofs.YtiocdmfmghanmaaDoor
set_option linter.unusedSimpArgs false
set_option linter.unusedVariables false
open Go.RowKit Ga
set_option maxRecDepth 100000

/-- What the library's tables hold, at layer 4. -/
structure Env4 (w : World) : Prop where
  m : CellM w
  e : Errs w
  p : Pow w
  a : Asc w
theorem Env4.grew {w w' : World} (h : Env4 w) (g : Grew w w') : Env4 w' := ⟨h.m.grew g, h.e.grew g, h.p.grew g, h.a.grew g⟩
theorem codeParse_env (l : List UInt8) (hs : l.length ≤ 1000000) (w : World) (h : Env4 w) :
    Calls Tryd.prog 23 #[.string ⟨l.toArray⟩] w (fun e w' => ∃ v, e = .returned (.tuple #[v, .int .i64 (Co.parseI l).2]) ∧ ValsAt w' v (Co.parseI l).1 ∧ Grew w w') :=
  codeParse_any l hs w h.m h.e h.p h.a
theorem codeText_env (v : Value) (l : List Val) (w : World) (hv : ValsAt w v l) (h : Env4 w) : Calls Tryd.prog 18 #[v] w (Gives (str (Co.textOut l)) w) := codeText_any v l w hv h.p h.a

def awakeS : List UInt8 := [73, 78, 59, 32, 69, 77, 73, 84]
theorem awakeS_text : Co.textI [(3, 0), (14, 0)] = awakeS := by decide +kernel
theorem awakeS_fits : Co.fitsI [(3, 0), (14, 0)] = true := by decide
theorem awakeS_parse : Co.parseI awakeS = ([(3, 0), (14, 0)], 0) := by rw [← awakeS_text]; exact Co.parse_text awakeS_fits
theorem awakeS_out : Co.textOut [(3, 0), (14, 0)] = awakeS := by unfold Co.textOut; rw [awakeS_fits, if_pos rfl]; exact awakeS_text

set_option maxHeartbeats 2000000 in
theorem awake04_any (w : World) (h : Env4 w) : Calls Tryd.prog 17 #[] w (Gives (.bool true) w) := by
  have HE := Lib.hid h
  clear h
  go_enter Tryd.func17, Tryd.ntmps17
  go_wp2_with (first
    | (go_at_call 23; refine (codeParse_env awakeS (by decide) _ (HE.out.grew (by repeat (first | with_reducible exact Grew.refl _ | apply Grew.more | apply Grew.alloc | apply Grew.drew | apply Grew.drewN)))).mono ?_; rintro e w1 ⟨v, rfl, hv, R3, n3, rfl⟩; rw [awakeS_parse] at hv ⊢; (have HV := Lib.hid hv); obtain ⟨a, cap, rfl, hm, hl⟩ := hv.open2; obtain ⟨b, off, rfl, hb, c00, c01⟩ := hl 0 (by decide); obtain ⟨b', off', e', _, c10, c11⟩ := hl 1 (by decide); cases e'; simp only [List.length_cons, List.length_nil, List.getElem_cons_zero, List.getElem_cons_succ, Nat.zero_mul, Nat.one_mul, Nat.add_zero, Nat.zero_add] at c00 c01 c10 c11 ⊢; clear hl hv hm)
    | (go_at_call 18; refine (codeText_env _ [(3, 0), (14, 0)] _ (HV.out.grew (by repeat (first | with_reducible exact Grew.refl _ | apply Grew.more | apply Grew.alloc | apply Grew.drew | apply Grew.drewN))) (HE.out.grew (by repeat (first | with_reducible exact Grew.refl _ | apply Grew.more | apply Grew.alloc | apply Grew.drew | apply Grew.drewN)))).mono ?_; rintro e w1 ⟨rfl, R4, n4, rfl⟩; rw [awakeS_out])
    )
  go_ret
  refine ⟨ret_bool (by decide), ?_⟩
  repeat (first | with_reducible exact Grew.refl _ | apply Grew.more | apply Grew.alloc | apply Grew.drew | apply Grew.drewN)

set_option maxHeartbeats 8000000 in
theorem codeTexts_any (v : Value) (l : List Val) (s : List UInt8) (w : World) (hv : ValsAt w v l) (h : Env4 w) :
    Calls Tryd.prog 5 #[v, .string ⟨s.toArray⟩] w (Gives (.bool true) w) := by
  obtain ⟨a, cap, rfl, hm, hl⟩ := hv.open2
  have HV := Lib.hid hv
  have HE := Lib.hid h
  clear hv h
  have hsz : (⟨s.toArray⟩ : ByteArray).size = s.length := rfl
  by_cases h60 : l.length ≤ 60 ∧ s.length ≤ 1000
  · obtain ⟨h6, h10⟩ := h60
    have hsl : s.length ≤ 1000000 := by omega
    obtain ⟨q, c, hq⟩ : ∃ q c, Co.parseI s = (q, c) := ⟨_, _, rfl⟩
    have hcase : (c = 0 ∧ Co.fitsI q = true ∧ Co.textI q = s) ∨ (c = 4 ∧ q = []) := by
      by_cases hc : c = 0
      · have := Co.parse_read (s := s) (by rw [hq]; exact hc)
        rw [hq] at this
        exact .inl ⟨hc, this⟩
      · have := Co.parse_no (s := s) (by rw [hq]; exact hc)
        rw [hq] at this
        cases this
        exact .inr ⟨rfl, rfl⟩
    have HQ := Lib.hid hq
    have HC := Lib.hid hcase
    clear hq hcase
    have hT : Co.fitsI l = true → Co.textOut l = Co.textI l := fun h => by unfold Co.textOut; rw [h]; rfl
    have hT' : Co.fitsI l = false → Co.textOut l = [] := fun h => by unfold Co.textOut; rw [h]; rfl
    cases hf : Co.fitsI l
    · have HT := Lib.hid (hT' hf)
      have HF := Lib.hid hf
      clear hT hT' hf
      go_enter Tryd.func5, Tryd.ntmps5
      go_wp2_with (first
        | (go_at_call 17; refine (awake04_any _ (HE.out.grew (by repeat (first | with_reducible exact Grew.refl _ | apply Grew.more | apply Grew.alloc | apply Grew.drew | apply Grew.drewN)))).mono ?_; rintro e w1 ⟨rfl, R2, n2, rfl⟩)
        | (go_at_call 18; refine (codeText_env _ l _ (HV.out.grew (by repeat (first | with_reducible exact Grew.refl _ | apply Grew.more | apply Grew.alloc | apply Grew.drew | apply Grew.drewN))) (HE.out.grew (by repeat (first | with_reducible exact Grew.refl _ | apply Grew.more | apply Grew.alloc | apply Grew.drew | apply Grew.drewN)))).mono ?_; rintro e w1 ⟨rfl, R3, n3, rfl⟩; rw [HT.out])
        | (go_at_call 19; refine (codeFits_any _ l _ (HV.out.grew (by repeat (first | with_reducible exact Grew.refl _ | apply Grew.more | apply Grew.alloc | apply Grew.drew | apply Grew.drewN)))).mono ?_; rintro e w1 ⟨rfl, R4, n4, rfl⟩; rw [HF.out])
        | (go_at_call 20; ((with_reducible refine (refFits_any _ l _ (HV.out.grew (by repeat (first | with_reducible exact Grew.refl _ | apply Grew.more | apply Grew.alloc | apply Grew.drew | apply Grew.drewN)))).mono ?_); rintro e w1 ⟨rfl, R5, n5, rfl⟩; rw [HF.out]))
        )
      go_loopw [31] (fun i wr => ∃ (k : Nat), k ≤ l.length ∧ i = .int .i64 k ∧ Grew w wr) (fun i _ => l.length - (intOf i).toNat)
      case atStart => exact ⟨0, Nat.zero_le _, rfl, by repeat (first | with_reducible exact Grew.refl _ | apply Grew.more | apply Grew.alloc | apply Grew.drew | apply Grew.drewN)⟩
      case round =>
        obtain ⟨k, hk, rfl, R, n, rfl⟩ := hrel
        by_cases hlt : k < l.length
        · obtain ⟨b, off, rfl, hb, hx, hy⟩ := hl k hlt
          generalize l[k] = xy at *
          obtain ⟨x, y⟩ := xy
          simp only at hx hy
          clear hl
          go_wp2_with fail
          refine wp_region_seq 5 Tryd.mixed (by kernel_rfl) (by kernel_rfl) ?_
          iterate 5
            apply Seq.val
            focus
              rintro w1 u ⟨R1, n1, rfl⟩ hF
              simp [moreFacts, Fact.more, Oper.deps, Region.binds, List.filter_cons, World.more_drew] at hF
              simp [putFacts, Oper.deps, Region.binds, List.filter_cons, Region.dstOf, Fact.at, Act.put, World.more_drew]
              go_wp2_with (first
                | (go_at_call 21; refine (codeRight_any _ _ _).mono ?_; rintro e w1 ⟨rfl, R3, n3, rfl⟩)
                | (go_at_call 22; refine (refRight_any _ _ _).mono ?_; rintro e w1 ⟨rfl, R3, n3, rfl⟩)
                )
              exact ⟨by repeat (first | with_reducible exact Grew.refl _ | apply Grew.more | apply Grew.alloc | apply Grew.drew | apply Grew.drewN), rfl, _, _, rfl, rfl, rfl⟩
          rintro u w1 ⟨R1, n1, rfl⟩ hF
          clear hF
          simp [putFacts, Region.dstOf, Fact.at, Act.put, List.range_succ, World.more_drew]
          go_wp2
          go_roundw
          case rel => exact ⟨k + 1, by omega, by go_num, by repeat (first | with_reducible exact Grew.refl _ | apply Grew.more | apply Grew.alloc | apply Grew.drew | apply Grew.drewN)⟩
          case measure => first | (simp [intOf]; done) | (simp [intOf]; omega)
        · obtain rfl : k = l.length := by omega
          clear hl
          have hcase := HC.out
          clear HC
          rcases hcase with ⟨rfl, hfq, htq⟩ | ⟨rfl, rfl⟩
          · have HFQ := Lib.hid hfq
            have HTQ := Lib.hid htq
            clear hfq htq
            go_wp2_with (first
              | (go_at_call 20; ((with_reducible refine (refFits_any _ l _ (HV.out.grew (by repeat (first | with_reducible exact Grew.refl _ | apply Grew.more | apply Grew.alloc | apply Grew.drew | apply Grew.drewN)))).mono ?_); rintro e w1 ⟨rfl, R5, n5, rfl⟩; rw [HF.out]))
              | (go_at_call 20; ((with_reducible refine (refFits_any _ q _ (HV5.out.grew (by repeat (first | with_reducible exact Grew.refl _ | apply Grew.more | apply Grew.alloc | apply Grew.drew | apply Grew.drewN)))).mono ?_); rintro e w1 ⟨rfl, R5, n5, rfl⟩; rw [HFQ.out]))
              | (go_at_call 23; refine (codeParse_env s (by assumption) _ (HE.out.grew (by repeat (first | with_reducible exact Grew.refl _ | apply Grew.more | apply Grew.alloc | apply Grew.drew | apply Grew.drewN)))).mono ?_; rintro e w1 ⟨v5, rfl, hv5, R6, n6, rfl⟩; rw [HQ.out] at hv5 ⊢; obtain ⟨a5, cap5, rfl, hm5, -⟩ := hv5.open2; (have HV5 := Lib.hid hv5); clear hv5 hm5)
              | (go_at_call 24; ((with_reducible refine (codeRefText_any _ q _ (HV5.out.grew (by repeat (first | with_reducible exact Grew.refl _ | apply Grew.more | apply Grew.alloc | apply Grew.drew | apply Grew.drewN))) HFQ.out).mono ?_); rintro e w1 ⟨rfl, R7, n7, rfl⟩; rw [HTQ.out]))
              )
            all_goals
              go_ret
              refine ⟨rfl, ?_⟩
              repeat (first | with_reducible exact Grew.refl _ | apply Grew.more | apply Grew.alloc | apply Grew.drew | apply Grew.drewN)
          · go_wp2_with (first
              | (go_at_call 20; ((with_reducible refine (refFits_any _ l _ (HV.out.grew (by repeat (first | with_reducible exact Grew.refl _ | apply Grew.more | apply Grew.alloc | apply Grew.drew | apply Grew.drewN)))).mono ?_); rintro e w1 ⟨rfl, R5, n5, rfl⟩; rw [HF.out]))
              | (go_at_call 23; refine (codeParse_env s (by assumption) _ (HE.out.grew (by repeat (first | with_reducible exact Grew.refl _ | apply Grew.more | apply Grew.alloc | apply Grew.drew | apply Grew.drewN)))).mono ?_; rintro e w1 ⟨v5, rfl, hv5, R6, n6, rfl⟩; rw [HQ.out] at hv5 ⊢; obtain ⟨a5, cap5, rfl, hm5, -⟩ := hv5.open2; (have HV5 := Lib.hid hv5); clear hv5 hm5)
              )
            all_goals
              go_ret
              refine ⟨rfl, ?_⟩
              repeat (first | with_reducible exact Grew.refl _ | apply Grew.more | apply Grew.alloc | apply Grew.drew | apply Grew.drewN)
    · have HT := Lib.hid (hT hf)
      have hpt := Co.parse_text hf
      have HPT := Lib.hid hpt
      obtain ⟨h24, hr⟩ := Co.fits_parts hf
      have htl := Co.textI_len l hr
      have hts : (Co.textI l).length ≤ 1000000 := by omega
      have HF := Lib.hid hf
      clear hT hT' hf hpt hr htl
      go_enter Tryd.func5, Tryd.ntmps5
      go_wp2_with (first
        | (go_at_call 17; refine (awake04_any _ (HE.out.grew (by repeat (first | with_reducible exact Grew.refl _ | apply Grew.more | apply Grew.alloc | apply Grew.drew | apply Grew.drewN)))).mono ?_; rintro e w1 ⟨rfl, R2, n2, rfl⟩)
        | (go_at_call 18; refine (codeText_env _ l _ (HV.out.grew (by repeat (first | with_reducible exact Grew.refl _ | apply Grew.more | apply Grew.alloc | apply Grew.drew | apply Grew.drewN))) (HE.out.grew (by repeat (first | with_reducible exact Grew.refl _ | apply Grew.more | apply Grew.alloc | apply Grew.drew | apply Grew.drewN)))).mono ?_; rintro e w1 ⟨rfl, R3, n3, rfl⟩; rw [HT.out])
        | (go_at_call 19; refine (codeFits_any _ l _ (HV.out.grew (by repeat (first | with_reducible exact Grew.refl _ | apply Grew.more | apply Grew.alloc | apply Grew.drew | apply Grew.drewN)))).mono ?_; rintro e w1 ⟨rfl, R4, n4, rfl⟩; rw [HF.out])
        | (go_at_call 20; ((with_reducible refine (refFits_any _ l _ (HV.out.grew (by repeat (first | with_reducible exact Grew.refl _ | apply Grew.more | apply Grew.alloc | apply Grew.drew | apply Grew.drewN)))).mono ?_); rintro e w1 ⟨rfl, R5, n5, rfl⟩; rw [HF.out]))
        )
      go_loopw [31] (fun i wr => ∃ (k : Nat), k ≤ l.length ∧ i = .int .i64 k ∧ Grew w wr) (fun i _ => l.length - (intOf i).toNat)
      case atStart => exact ⟨0, Nat.zero_le _, rfl, by repeat (first | with_reducible exact Grew.refl _ | apply Grew.more | apply Grew.alloc | apply Grew.drew | apply Grew.drewN)⟩
      case round =>
        obtain ⟨k, hk, rfl, R, n, rfl⟩ := hrel
        by_cases hlt : k < l.length
        · obtain ⟨b, off, rfl, hb, hx, hy⟩ := hl k hlt
          generalize l[k] = xy at *
          obtain ⟨x, y⟩ := xy
          simp only at hx hy
          clear hl
          go_wp2_with fail
          refine wp_region_seq 5 Tryd.mixed (by kernel_rfl) (by kernel_rfl) ?_
          iterate 5
            apply Seq.val
            focus
              rintro w1 u ⟨R1, n1, rfl⟩ hF
              simp [moreFacts, Fact.more, Oper.deps, Region.binds, List.filter_cons, World.more_drew] at hF
              simp [putFacts, Oper.deps, Region.binds, List.filter_cons, Region.dstOf, Fact.at, Act.put, World.more_drew]
              go_wp2_with (first
                | (go_at_call 21; refine (codeRight_any _ _ _).mono ?_; rintro e w1 ⟨rfl, R3, n3, rfl⟩)
                | (go_at_call 22; refine (refRight_any _ _ _).mono ?_; rintro e w1 ⟨rfl, R3, n3, rfl⟩)
                )
              exact ⟨by repeat (first | with_reducible exact Grew.refl _ | apply Grew.more | apply Grew.alloc | apply Grew.drew | apply Grew.drewN), rfl, _, _, rfl, rfl, rfl⟩
          rintro u w1 ⟨R1, n1, rfl⟩ hF
          clear hF
          simp [putFacts, Region.dstOf, Fact.at, Act.put, List.range_succ, World.more_drew]
          go_wp2
          go_roundw
          case rel => exact ⟨k + 1, by omega, by go_num, by repeat (first | with_reducible exact Grew.refl _ | apply Grew.more | apply Grew.alloc | apply Grew.drew | apply Grew.drewN)⟩
          case measure => first | (simp [intOf]; done) | (simp [intOf]; omega)
        · obtain rfl : k = l.length := by omega
          clear hl
          go_wp2_with (first
            | (go_at_call 20; ((with_reducible refine (refFits_any _ l _ (HV.out.grew (by repeat (first | with_reducible exact Grew.refl _ | apply Grew.more | apply Grew.alloc | apply Grew.drew | apply Grew.drewN)))).mono ?_); rintro e w1 ⟨rfl, R5, n5, rfl⟩; rw [HF.out]))
            | (go_at_call 23; ((with_reducible refine (codeParse_env (Co.textI l) (by assumption) _ (HE.out.grew (by repeat (first | with_reducible exact Grew.refl _ | apply Grew.more | apply Grew.alloc | apply Grew.drew | apply Grew.drewN)))).mono ?_); rintro e w1 ⟨v8, rfl, hv8, R6, n6, rfl⟩; rw [HPT.out] at hv8 ⊢; (have HV8 := Lib.hid hv8); clear hv8))
            | (go_at_call 24; ((with_reducible refine (codeRefText_any _ l _ (HV.out.grew (by repeat (first | with_reducible exact Grew.refl _ | apply Grew.more | apply Grew.alloc | apply Grew.drew | apply Grew.drewN))) HF.out).mono ?_); rintro e w1 ⟨rfl, R7, n7, rfl⟩))
            | (go_at_call 25; refine (refSame_any _ _ l l _ (HV.out.grew (by repeat (first | with_reducible exact Grew.refl _ | apply Grew.more | apply Grew.alloc | apply Grew.drew | apply Grew.drewN))) (HV8.out.grew (by repeat (first | with_reducible exact Grew.refl _ | apply Grew.more | apply Grew.alloc | apply Grew.drew | apply Grew.drewN)))).mono ?_; rintro e w1 ⟨rfl, R8, n8, rfl⟩)
            )
          have hcase := HC.out
          clear HC
          rcases hcase with ⟨rfl, hfq, htq⟩ | ⟨rfl, rfl⟩
          · have HFQ := Lib.hid hfq
            have HTQ := Lib.hid htq
            clear hfq htq
            go_wp2_with (first
              | (go_at_call 20; ((with_reducible refine (refFits_any _ q _ (HV5.out.grew (by repeat (first | with_reducible exact Grew.refl _ | apply Grew.more | apply Grew.alloc | apply Grew.drew | apply Grew.drewN)))).mono ?_); rintro e w1 ⟨rfl, R5, n5, rfl⟩; rw [HFQ.out]))
              | (go_at_call 23; refine (codeParse_env s (by assumption) _ (HE.out.grew (by repeat (first | with_reducible exact Grew.refl _ | apply Grew.more | apply Grew.alloc | apply Grew.drew | apply Grew.drewN)))).mono ?_; rintro e w1 ⟨v5, rfl, hv5, R6, n6, rfl⟩; rw [HQ.out] at hv5 ⊢; obtain ⟨a5, cap5, rfl, hm5, -⟩ := hv5.open2; (have HV5 := Lib.hid hv5); clear hv5 hm5)
              | (go_at_call 24; ((with_reducible refine (codeRefText_any _ q _ (HV5.out.grew (by repeat (first | with_reducible exact Grew.refl _ | apply Grew.more | apply Grew.alloc | apply Grew.drew | apply Grew.drewN))) HFQ.out).mono ?_); rintro e w1 ⟨rfl, R7, n7, rfl⟩; rw [HTQ.out]))
              )
            all_goals
              go_ret
              refine ⟨rfl, ?_⟩
              repeat (first | with_reducible exact Grew.refl _ | apply Grew.more | apply Grew.alloc | apply Grew.drew | apply Grew.drewN)
          · go_wp2_with (first
              | (go_at_call 23; refine (codeParse_env s (by assumption) _ (HE.out.grew (by repeat (first | with_reducible exact Grew.refl _ | apply Grew.more | apply Grew.alloc | apply Grew.drew | apply Grew.drewN)))).mono ?_; rintro e w1 ⟨v5, rfl, hv5, R6, n6, rfl⟩; rw [HQ.out] at hv5 ⊢; obtain ⟨a5, cap5, rfl, hm5, -⟩ := hv5.open2; (have HV5 := Lib.hid hv5); clear hv5 hm5)
              )
            all_goals
              go_ret
              refine ⟨rfl, ?_⟩
              repeat (first | with_reducible exact Grew.refl _ | apply Grew.more | apply Grew.alloc | apply Grew.drew | apply Grew.drewN)
  · go_enter Tryd.func5, Tryd.ntmps5
    clear hl
    by_cases h6 : l.length ≤ 60
    · have h10 : 1000 < s.length := by omega
      go_wp2_with (first
  | (go_at_call 17; refine (awake04_any _ (HE.out.grew (by repeat (first | with_reducible exact Grew.refl _ | apply Grew.more | apply Grew.alloc | apply Grew.drew | apply Grew.drewN)))).mono ?_; rintro e w1 ⟨rfl, R2, n2, rfl⟩)
  )
      all_goals
        go_ret
        refine ⟨rfl, ?_⟩
        repeat (first | with_reducible exact Grew.refl _ | apply Grew.more | apply Grew.alloc | apply Grew.drew | apply Grew.drewN)
    · go_wp2_with (first
  | (go_at_call 17; refine (awake04_any _ (HE.out.grew (by repeat (first | with_reducible exact Grew.refl _ | apply Grew.more | apply Grew.alloc | apply Grew.drew | apply Grew.drewN)))).mono ?_; rintro e w1 ⟨rfl, R2, n2, rfl⟩)
  )
      all_goals
        go_ret
        refine ⟨rfl, ?_⟩
        repeat (first | with_reducible exact Grew.refl _ | apply Grew.more | apply Grew.alloc | apply Grew.drew | apply Grew.drewN)
end Go.Proofs.YtiocdmfmghanmaaDoor
