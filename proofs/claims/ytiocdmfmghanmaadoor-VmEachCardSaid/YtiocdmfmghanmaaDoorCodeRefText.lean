import Derived.Test.YtiocdmfmghanmaaDoorCodeText
/-! forebayref04.Text. -/
namespace Go.Proofs.YtiocdmfmghanmaaDoor
set_option linter.unusedSimpArgs false
set_option linter.unusedVariables false
open Go.RowKit Ga
set_option maxRecDepth 100000

theorem text_step {l : List Val} {k : Nat} (h : k < l.length) : Co.textI (l.take (k + 1)) = if k = 0 then Co.word l[k] else Co.textI (l.take k) ++ Co.sep ++ Co.word l[k] := by
  rw [List.take_succ_eq_append_getElem h, Co.textI_snoc]
  by_cases hk : k = 0
  · subst hk; simp
  · rw [if_neg hk, if_neg (by intro e; have h2 := congrArg List.length e; rw [List.length_take, List.length_nil] at h2; omega)]
theorem cat4 (T nm it : List UInt8) : (⟨T.toArray⟩ ++ ⟨#[59, 32]⟩ ++ ⟨nm.toArray⟩ ++ ⟨#[32]⟩ ++ ⟨it.toArray⟩ : ByteArray) = ⟨(T ++ [59, 32] ++ (nm ++ ([32] ++ it))).toArray⟩ := by
  have e1 : (⟨#[59, 32]⟩ : ByteArray) = ⟨([59, 32] : List UInt8).toArray⟩ := rfl
  have e2 : (⟨#[32]⟩ : ByteArray) = ⟨([32] : List UInt8).toArray⟩ := rfl
  rw [e1, e2, str_cat, str_cat, str_cat, str_cat]
  simp only [List.append_assoc]
theorem cat2 (T nm : List UInt8) : (⟨T.toArray⟩ ++ ⟨#[59, 32]⟩ ++ ⟨nm.toArray⟩ : ByteArray) = ⟨(T ++ [59, 32] ++ nm).toArray⟩ := by
  have e1 : (⟨#[59, 32]⟩ : ByteArray) = ⟨([59, 32] : List UInt8).toArray⟩ := rfl
  rw [e1, str_cat, str_cat]
theorem cat3 (T nm it : List UInt8) : (⟨T.toArray⟩ ++ ⟨nm.toArray⟩ ++ ⟨#[32]⟩ ++ ⟨it.toArray⟩ : ByteArray) = ⟨(T ++ (nm ++ ([32] ++ it))).toArray⟩ := by
  have e2 : (⟨#[32]⟩ : ByteArray) = ⟨([32] : List UInt8).toArray⟩ := rfl
  rw [e2, str_cat, str_cat, str_cat]
  simp only [List.append_assoc]
theorem hasA_eq (x : Int) : (x == 1 || (x == 2 || (x == 4 || (x == 5 || (x == 15 || x == 16))))) = Co.hasA x := rfl
theorem str_catR (a : ByteArray) (b : List UInt8) : a ++ (⟨b.toArray⟩ : ByteArray) = ⟨(a.data.toList ++ b).toArray⟩ := by
  obtain ⟨⟨a⟩⟩ := a
  exact str_cat a b

set_option maxHeartbeats 4000000 in
theorem codeRefText_any (v : Value) (l : List Val) (w : World) (hv : ValsAt w v l) (hf : Co.fitsI l = true) : Calls Tryd.prog 24 #[v] w (Gives (str (Co.textI l)) w) := by
  obtain ⟨a, cap, rfl, hm, hl⟩ := hv.open2
  obtain ⟨h24, hr⟩ := Co.fits_parts hf
  have HR := Lib.hid hr
  clear hf hr hv
  go_enter Tryd.func24, Tryd.ntmps24
  go_wp2
  go_loopw [3, 4] (fun t i wr => ∃ (k : Nat), k ≤ l.length ∧ i = .int .i64 k ∧ t = str (Co.textI (l.take k)) ∧ Grew w wr) (fun _ i _ => l.length - (intOf i).toNat)
  case atStart => exact ⟨0, Nat.zero_le _, rfl, rfl, Grew.refl _⟩
  case round =>
    obtain ⟨k, hk, rfl, rfl, R, n, rfl⟩ := hrel
    by_cases hlt : k < l.length
    · obtain ⟨b, off, rfl, hb, hx, hy⟩ := hl k hlt
      have hws := text_step hlt
      have hri := HR.out l[k] (List.getElem_mem hlt)
      have htl := Co.textI_len (l.take k) (fun i hi => HR.out i (List.mem_of_mem_take hi))
      rw [List.length_take_of_le hk] at htl
      have htl' : (Co.textI (l.take k)).length ≤ 384 := by omega
      have hT0 : k = 0 → Co.textI (l.take k) = [] := by rintro rfl; rfl
      generalize l[k] = xy at *
      generalize Co.textI (l.take k) = T at *
      obtain ⟨x, y⟩ := xy
      obtain ⟨x0, x1, _, _⟩ := Co.right_parts hri
      have hya := Co.right_arg hri
      simp only at hx hy x0 x1 hya
      have HW := Lib.hid hws
      have HT0 := Lib.hid hT0
      clear hT0 hl hws hri htl
      obtain ⟨m, rfl⟩ : ∃ m : Nat, x = m := ⟨x.toNat, by omega⟩
      have hm18 : m < 18 := by omega
      have hn5 : (Co.namesL.getD m []).length ≤ 5 := by
        have key : ∀ n < 18, (Co.namesL.getD n []).length ≤ 5 := by decide
        exact key m hm18
      have hi7 := Tx.itoa_len6 y (by omega)
      have hnm : Co.nameOf (m : Int) = Co.namesL.getD m [] := by unfold Co.nameOf; rw [Int.toNat_natCast]
      generalize hN : Co.namesL.getD m [] = nm at hn5 hnm
      have HN := Lib.hid hN
      have HM := Lib.hid hnm
      clear hN hnm
      by_cases hk0 : 0 < k
      all_goals
        go_wp2_with fail
        refine wp_region_seq 10 Tryd.mixed (by kernel_rfl) (by kernel_rfl) ?_
        iterate 1
          apply Seq.val
          focus
            rintro w1 u ⟨R1, n1, rfl⟩ hF
            simp [moreFacts, Fact.more, Oper.deps, Region.binds, List.filter_cons, World.more_drew] at hF
            simp [putFacts, Oper.deps, Region.binds, List.filter_cons, Region.dstOf, Fact.at, Act.put, World.more_drew]
            go_wp2
            exact ⟨by repeat (first | with_reducible exact Grew.refl _ | apply Grew.more | apply Grew.alloc | apply Grew.drew | apply Grew.drewN), rfl, _, _, rfl, rfl, rfl⟩
        apply Seq.of NamesAt NamesAt.st
        focus
          rintro w1 u ⟨R1, n1, rfl⟩ hF
          simp [moreFacts, Fact.more, Oper.deps, Region.binds, List.filter_cons, World.more_drew] at hF
          simp [putFacts, Oper.deps, Region.binds, List.filter_cons, Region.dstOf, Fact.at, Act.put, World.more_drew]
          go_wp2_with (first
            | (go_at_call 55; refine (refNames_any _).mono ?_; rintro e w1 ⟨v2, rfl, hv2, R2, n2, rfl⟩)
            )
          exact ⟨by repeat (first | with_reducible exact Grew.refl _ | apply Grew.more | apply Grew.alloc | apply Grew.drew | apply Grew.drewN), rfl, _, _, rfl, rfl, hv2⟩
        iterate 5
          apply Seq.val
          focus
            rintro w1 u ⟨R1, n1, rfl⟩ hF
            simp [moreFacts, Fact.more, Oper.deps, Region.binds, List.filter_cons, World.more_drew] at hF
            simp [putFacts, Oper.deps, Region.binds, List.filter_cons, Region.dstOf, Fact.at, Act.put, World.more_drew]
            go_wp2
            exact ⟨by repeat (first | with_reducible exact Grew.refl _ | apply Grew.more | apply Grew.alloc | apply Grew.drew | apply Grew.drewN), rfl, _, _, rfl, rfl, rfl⟩
        apply Seq.of (PtsTo (.string ⟨nm.toArray⟩)) (PtsTo.st _)
        focus
          rintro w1 u ⟨R1, n1, rfl⟩ hF
          simp [moreFacts, Fact.more, Oper.deps, Region.binds, List.filter_cons, World.more_drew] at hF
          simp [putFacts, Oper.deps, Region.binds, List.filter_cons, Region.dstOf, Fact.at, Act.put, World.more_drew]
          obtain ⟨b7, hb7, hc7⟩ := hF; (have hc8 := hc7 m hm18); clear hc7; rw [HN.out] at hc8; rw [hb7]
          go_wp2
          exact ⟨by repeat (first | with_reducible exact Grew.refl _ | apply Grew.more | apply Grew.alloc | apply Grew.drew | apply Grew.drewN), rfl, _, _, rfl, rfl, ⟨b7, m, rfl, hc8⟩⟩
        apply Seq.val
        focus
          rintro w1 u ⟨R1, n1, rfl⟩ hF
          simp [moreFacts, Fact.more, Oper.deps, Region.binds, List.filter_cons, World.more_drew] at hF
          simp [putFacts, Oper.deps, Region.binds, List.filter_cons, Region.dstOf, Fact.at, Act.put, World.more_drew]
          obtain ⟨b7, o7, hb7, hc7⟩ := hF; rw [hb7]
          go_wp2
          exact ⟨by repeat (first | with_reducible exact Grew.refl _ | apply Grew.more | apply Grew.alloc | apply Grew.drew | apply Grew.drewN), rfl, _, _, rfl, rfl, rfl⟩
        iterate 1
          apply Seq.val
          focus
            rintro w1 u ⟨R1, n1, rfl⟩ hF
            simp [moreFacts, Fact.more, Oper.deps, Region.binds, List.filter_cons, World.more_drew] at hF
            simp [putFacts, Oper.deps, Region.binds, List.filter_cons, Region.dstOf, Fact.at, Act.put, World.more_drew]
            go_wp2
            exact ⟨by repeat (first | with_reducible exact Grew.refl _ | apply Grew.more | apply Grew.alloc | apply Grew.drew | apply Grew.drewN), rfl, _, _, rfl, rfl, rfl⟩
        rintro u w1 ⟨R1, n1, rfl⟩ hF
        clear hF
        simp [putFacts, Region.dstOf, Fact.at, Act.put, List.range_succ, World.more_drew]
        go_wp2_with (go_at_call 47; refine (digits_any _ (by omega) _).mono ?_; rintro e w1 ⟨rfl, rfl⟩)
        all_goals
          go_roundw
          case rel =>
            refine ⟨k + 1, by omega, by go_num, ?_, by repeat (first | with_reducible exact Grew.refl _ | apply Grew.more | apply Grew.alloc | apply Grew.drew | apply Grew.drewN)⟩
            rw [HW.out]
            first
              | rw [if_neg (show ¬ k = 0 by omega)]
              | (rw [if_pos (show k = 0 by omega)]; rw [HT0.out (by omega)])
            first
              | (rw [word_has (show Co.hasA _ = true by unfold Co.hasA; grind), HM.out]; first | exact congrArg Value.string (cat4 _ _ _) | exact congrArg Value.string (cat3 [] _ _))
              | (rw [word_not (show Co.hasA _ = false by unfold Co.hasA; grind), HM.out]; first | exact congrArg Value.string (cat2 _ _) | exact congrArg Value.string (str_cat [] _))
          case measure => first | (simp [intOf]; done) | (simp [intOf]; omega)
    · obtain rfl : k = l.length := by omega
      rw [List.take_length]
      clear hl
      go_wp2
      go_ret
      refine ⟨rfl, ?_⟩
      repeat (first | with_reducible exact Grew.refl _ | apply Grew.more | apply Grew.alloc | apply Grew.drew | apply Grew.drewN)
end Go.Proofs.YtiocdmfmghanmaaDoor
