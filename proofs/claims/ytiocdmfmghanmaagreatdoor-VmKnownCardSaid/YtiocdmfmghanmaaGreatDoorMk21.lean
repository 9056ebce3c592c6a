import Derived.Test.YtiocdmfmghanmaaGreatDoorMk16
/-! code.Text. -/
namespace Go.Proofs.YtiocdmfmghanmaaGreatDoor
set_option linter.unusedSimpArgs false
set_option linter.unusedVariables false
open Go.RowKit Ga
set_option maxRecDepth 100000

theorem str_cat3 (a b c : List UInt8) : (⟨a.toArray⟩ ++ (⟨b.toArray⟩ ++ ⟨c.toArray⟩) : ByteArray) = ⟨(a ++ (b ++ c)).toArray⟩ := by rw [str_cat, str_cat]
theorem words_succ {l : List Val} {k : Nat} (h : k < l.length) : (l.take (k + 1)).map Co.word = (l.take k).map Co.word ++ [Co.word l[k]] := by
  rw [List.take_succ_eq_append_getElem h, List.map_append]; rfl
theorem word_has {x y : Int} (h : Co.hasA x = true) : Co.word (x, y) = Co.nameOf x ++ ([32] ++ Lib.itoa y) := by
  unfold Co.word; simp only; rw [if_pos h]; rfl
theorem word_not {x y : Int} (h : Co.hasA x = false) : Co.word (x, y) = Co.nameOf x := by
  unfold Co.word; simp only; rw [h]; simp

set_option maxHeartbeats 4000000 in
theorem codeText_any (v : Value) (l : List Val) (w : World) (hv : ValsAt w v l) (hp : Pow w) (ha : Asc w) : Calls Tryz.prog 28 #[v] w (Gives (str (Co.textOut l)) w) := by
  obtain ⟨a, cap, rfl, hm, hl⟩ := hv.open2
  have HV := Lib.hid hv
  have HP := Lib.hid hp
  have HA := Lib.hid ha
  clear hv hp ha
  cases hf : Co.fitsI l
  · have ht : Co.textOut l = [] := by unfold Co.textOut; rw [hf]; rfl
    rw [ht]
    clear hl ht
    have HF := Lib.hid hf
    clear hf
    go_enter Tryz.func28, Tryz.ntmps28
    go_wp2_with (go_at_call 41; refine (codeFits_any _ l _ HV.out).mono ?_; rintro e w1 ⟨rfl, R3, n3, rfl⟩; rw [HF.out])
    go_ret
    refine ⟨rfl, ?_⟩
    repeat (first | with_reducible exact Grew.refl _ | apply Grew.more | apply Grew.alloc | apply Grew.drew | apply Grew.drewN)
  · have ht : Co.textOut l = Lib.join (l.map Co.word) [59, 32] := by unfold Co.textOut; rw [hf]; rfl
    obtain ⟨h24, hr⟩ := Co.fits_parts hf
    have htl := Co.textI_len l hr
    have HT := Lib.hid ht
    have HR := Lib.hid hr
    have HF := Lib.hid hf
    have HL := Lib.hid htl
    clear hf ht hr htl
    go_enter Tryz.func28, Tryz.ntmps28
    go_wp2_with (go_at_call 41; refine (codeFits_any _ l _ HV.out).mono ?_; rintro e w1 ⟨rfl, R3, n3, rfl⟩; rw [HF.out])
    go_loopw [3, 15] (fun v3 i wr => ∃ (k : Nat), k ≤ l.length ∧ i = .int .i64 k ∧ OwnAt w.heap.size 9 1 encS wr v3 ((l.take k).map Co.word) ∧ Grew w wr) (fun _ i _ => l.length - (intOf i).toNat)
    case atStart => exact ⟨0, Nat.zero_le _, rfl, OwnAt.nil _, by repeat (first | with_reducible exact Grew.refl _ | apply Grew.more | apply Grew.alloc | apply Grew.drew | apply Grew.drewN)⟩
    case round =>
      obtain ⟨k, hk, rfl, hown, R, n, rfl⟩ := hrel
      by_cases hlt : k < l.length
      · obtain ⟨b, off, rfl, hb, hx, hy⟩ := hl k hlt
        have hws := words_succ hlt
        have hri := HR.out l[k] (List.getElem_mem hlt)
        generalize l[k] = xy at *
        obtain ⟨x, y⟩ := xy
        obtain ⟨x0, x1, _, _⟩ := Co.right_parts hri
        have hya := Co.right_arg hri
        simp only at hx hy x0 x1 hya
        have HO := Lib.hid hown
        have HW := Lib.hid hws
        clear hl hws hown hri
        obtain ⟨m, rfl⟩ : ∃ m : Nat, x = m := ⟨x.toNat, by omega⟩
        have hm18 : m < 18 := by omega
        have hn5 : (Co.namesL.getD m []).length ≤ 5 := by
          have key : ∀ n < 18, (Co.namesL.getD n []).length ≤ 5 := by decide
          exact key m hm18
        have hi7 := Tx.itoa_len6 y (by omega)
        have hnm : Co.nameOf (m : Int) = Co.namesL.getD m [] := by unfold Co.nameOf; rw [Int.toNat_natCast]
        generalize hN : Co.namesL.getD m [] = nm at hn5 hnm
        have HN := Lib.hid hN
        have HM := Lib.hid hnm
        clear hN hnm
        cases hh : Co.hasA (m : Int)
        all_goals
          have HH := Lib.hid hh
          clear hh
          go_wp2_with fail
          refine wp_region_seq 6 Tryz.mixed (by kernel_rfl) (by kernel_rfl) ?_
          apply Seq.of NamesAt NamesAt.st
          focus
            rintro w1 u ⟨R1, n1, rfl⟩ hF
            simp [moreFacts, Fact.more, Oper.deps, Region.binds, List.filter_cons, World.more_drew] at hF
            simp [putFacts, Oper.deps, Region.binds, List.filter_cons, Region.dstOf, Fact.at, Act.put, World.more_drew]
            go_wp2_with (first
              | (go_at_call 27; refine (names_any _ (HA.out.grew (by repeat (first | with_reducible exact Grew.refl _ | apply Grew.more | apply Grew.alloc | apply Grew.drew | apply Grew.drewN)))).mono ?_; rintro e w1 ⟨v2, rfl, hv2, R2, n2, rfl⟩)
              )
            exact ⟨by repeat (first | with_reducible exact Grew.refl _ | apply Grew.more | apply Grew.alloc | apply Grew.drew | apply Grew.drewN), rfl, _, _, rfl, rfl, hv2⟩
          iterate 2
            apply Seq.val
            focus
              rintro w1 u ⟨R1, n1, rfl⟩ hF
              simp [moreFacts, Fact.more, Oper.deps, Region.binds, List.filter_cons, World.more_drew] at hF
              simp [putFacts, Oper.deps, Region.binds, List.filter_cons, Region.dstOf, Fact.at, Act.put, World.more_drew]
              go_wp2
              exact ⟨by repeat (first | with_reducible exact Grew.refl _ | apply Grew.more | apply Grew.alloc | apply Grew.drew | apply Grew.drewN), rfl, _, _, rfl, rfl, rfl⟩
          apply Seq.of (PtsTo (.string ⟨nm.toArray⟩)) (PtsTo.st _)
          focus
            rintro w1 u ⟨R1, n1, rfl⟩ hF
            simp [moreFacts, Fact.more, Oper.deps, Region.binds, List.filter_cons, World.more_drew] at hF
            simp [putFacts, Oper.deps, Region.binds, List.filter_cons, Region.dstOf, Fact.at, Act.put, World.more_drew]
            obtain ⟨b7, hb7, hc7⟩ := hF; (have hc8 := hc7 m hm18); clear hc7; rw [HN.out] at hc8; rw [hb7]
            go_wp2
            exact ⟨by repeat (first | with_reducible exact Grew.refl _ | apply Grew.more | apply Grew.alloc | apply Grew.drew | apply Grew.drewN), rfl, _, _, rfl, rfl, ⟨b7, m, rfl, hc8⟩⟩
          apply Seq.val
          focus
            rintro w1 u ⟨R1, n1, rfl⟩ hF
            simp [moreFacts, Fact.more, Oper.deps, Region.binds, List.filter_cons, World.more_drew] at hF
            simp [putFacts, Oper.deps, Region.binds, List.filter_cons, Region.dstOf, Fact.at, Act.put, World.more_drew]
            obtain ⟨b7, o7, hb7, hc7⟩ := hF; rw [hb7]
            go_wp2
            exact ⟨by repeat (first | with_reducible exact Grew.refl _ | apply Grew.more | apply Grew.alloc | apply Grew.drew | apply Grew.drewN), rfl, _, _, rfl, rfl, rfl⟩
          apply Seq.val
          focus
            rintro w1 u ⟨R1, n1, rfl⟩ hF
            simp [moreFacts, Fact.more, Oper.deps, Region.binds, List.filter_cons, World.more_drew] at hF
            simp [putFacts, Oper.deps, Region.binds, List.filter_cons, Region.dstOf, Fact.at, Act.put, World.more_drew]
            go_wp2
            exact ⟨by repeat (first | with_reducible exact Grew.refl _ | apply Grew.more | apply Grew.alloc | apply Grew.drew | apply Grew.drewN), rfl, _, _, rfl, rfl, rfl⟩
          rintro u w1 ⟨R1, n1, rfl⟩ hF
          clear hF
          simp [putFacts, Region.dstOf, Fact.at, Act.put, List.range_succ, World.more_drew]
          go_wp2_with (first
            | (go_at_call 42; refine (bounds_any _ _).mono ?_; rintro e w1 ⟨rfl, rfl⟩; rw [HH.out])
            | (go_at_call 43; refine (itoa_any _ (by omega) _ (HP.out.grew (by repeat (first | with_reducible exact Grew.refl _ | apply Grew.more | apply Grew.alloc | apply Grew.drew | apply Grew.drewN)))).mono ?_; rintro e w1 ⟨rfl, R4, n4, rfl⟩)
            | (at_builtin; refine wpList_own1 rfl (.tmp 38) (.tmp 40) 66 _ _ _ _ (Co.word ((m : Int), y)) rfl Tryz.underlying66 infoStr rfl (by decide) encS_len encS_one rfl (HO.out.grew (by repeat (first | with_reducible exact Grew.refl _ | apply Grew.more | apply Grew.alloc | apply Grew.drew | apply Grew.drewN))) (by repeat (first | with_reducible exact Grew.refl _ | apply Grew.more | apply Grew.alloc | apply Grew.drew | apply Grew.drewN)) rfl (encS_at _ _ _ _ _ (by first | (rw [word_not HH.out, HM.out]; done) | (rw [word_has HH.out, HM.out]; exact str_cat3 _ _ _)) (by simp [go_sem])) (by simp; omega) (by decide) ?_; intro v9 R9 n9 hown9)
            )
          go_roundw
          case rel => exact ⟨k + 1, by omega, by go_num, by rw [HW.out]; exact hown9, by repeat (first | with_reducible exact Grew.refl _ | apply Grew.more | apply Grew.alloc | apply Grew.drew | apply Grew.drewN)⟩
          case measure => first | (simp [intOf]; done) | (simp [intOf]; omega)
      · obtain rfl : k = l.length := by omega
        rw [List.take_length] at hown
        have HO := Lib.hid hown
        clear hown hl
        go_wp2_with (go_at_call 44; refine (join_any _ (l.map Co.word) [59, 32] _ _ (HO.out.grew (by repeat (first | with_reducible exact Grew.refl _ | apply Grew.more | apply Grew.alloc | apply Grew.drew | apply Grew.drewN))) (by simp; omega) (by have h := HL.out; unfold Co.textI Co.sep at h; omega)).mono ?_; rintro e w1 ⟨rfl, R3, n3, rfl⟩)
        go_ret
        refine ⟨?_, ?_⟩
        · rw [HT.out]; rfl
        · repeat (first | with_reducible exact Grew.refl _ | apply Grew.more | apply Grew.alloc | apply Grew.drew | apply Grew.drewN)
end Go.Proofs.YtiocdmfmghanmaaGreatDoor
