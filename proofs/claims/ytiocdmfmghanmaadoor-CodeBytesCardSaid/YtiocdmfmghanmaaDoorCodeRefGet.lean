import Derived.Test.YtiocdmfmghanmaaDoorCodeGet
/-! forebayref04.Get. -/
namespace Go.Proofs.YtiocdmfmghanmaaDoor
set_option linter.unusedSimpArgs false
set_option linter.unusedVariables false
open Go.RowKit Ga
set_option maxRecDepth 100000

theorem within_short {s : List UInt8} {a b : Int} (h : s.length < 4) : within s a b = (0, 3, s) := by unfold within; rw [if_pos h]
theorem within_out {s : List UInt8} {a b : Int} (h : ¬ s.length < 4) (hr : Oc.num s < a ∨ b < Oc.num s) : within s a b = (0, 2, s) := by unfold within; rw [if_neg h, if_pos hr]
theorem within_in {s : List UInt8} {a b : Int} (h : ¬ s.length < 4) (hr : ¬ (Oc.num s < a ∨ b < Oc.num s)) : within s a b = (Oc.num s, 0, s.drop 4) := by unfold within; rw [if_neg h, if_neg hr]
theorem dropA (s : List UInt8) (A n : Nat) (hn : s.length = n) : (⟨s.toArray⟩ : ByteArray).extract A n = ⟨(s.drop A).toArray⟩ := by
  have h : ((⟨s.toArray⟩ : ByteArray).extract A n).data.toList = s.drop A := by
    rw [Lib.extract_data]
    show (s.drop A).take (n - A) = s.drop A
    exact List.take_of_length_le (by rw [List.length_drop]; omega)
  generalize (⟨s.toArray⟩ : ByteArray).extract A n = t at h
  obtain ⟨⟨l⟩⟩ := t
  simp only at h
  rw [h]
theorem getL_e {s : List UInt8} {x : Int × Int × List UInt8} (h : within s 0 24 = x) (he : x.2.1 ≠ 0) : getL s = ([], x.2.1, x.2.2) := by
  obtain ⟨n, e, t⟩ := x
  rw [getL_of h, if_pos he]

set_option maxHeartbeats 8000000 in
theorem refGet04_any (s : List UInt8) (hs : s.length ≤ 1000000) (w : World) :
    Calls Tryd.prog 32 #[.string ⟨s.toArray⟩] w fun e w' => ∃ (v : Value) (at' : Int), e = .returned (.tuple #[v, .int .i64 at', .int .i64 (getL s).2.1]) ∧ ValsAt w' v (getL s).1 ∧ ((getL s).2.1 = 0 → at' = (s.length : Int) - (getL s).2.2.length) ∧ Grew w w' := by
  have hsz : (⟨s.toArray⟩ : ByteArray).size = s.length := rfl
  by_cases h4 : s.length < 4
  · have hGe := getL_e (within_short (a := 0) (b := 24) h4) (by simp)
    simp only at hGe
    have HGE := Lib.hid hGe
    have E1 := Lib.hid (show peekV s = 0 by unfold peekV; rw [if_pos h4])
    have E2 := Lib.hid (show decide (4 ≤ s.length) = false from decide_eq_false (by omega))
    clear hGe
    go_enter Tryd.func32, Tryd.ntmps32
    go_wp2_with (go_at_call 60; refine (refGet01_any s hs _).mono ?_; rintro e w1 ⟨rfl, rfl⟩; rw [E1.out, E2.out])
    exact bodyPost_ret (v := .tuple #[.slice none 0 0, .int .i64 0, .int .i64 3]) (by simp [results, Tryd.results32, go_sem]) rfl ⟨_, 0, by rw [HGE.out], by rw [HGE.out]; exact RowsAt.nil, by rw [HGE.out]; intro h; simp at h, by repeat (first | with_reducible exact Grew.refl _ | apply Grew.more | apply Grew.alloc | apply Grew.drew | apply Grew.drewN)⟩
  · have E1 := Lib.hid (show peekV s = Oc.num s by unfold peekV; rw [if_neg h4])
    have E2 := Lib.hid (show decide (4 ≤ s.length) = true from decide_eq_true (by omega))
    by_cases hr : Oc.num s < 0 ∨ 24 < Oc.num s
    · have hGe := getL_e (within_out (a := 0) (b := 24) h4 hr) (by simp)
      simp only at hGe
      have HGE := Lib.hid hGe
      clear hGe
      generalize Oc.num s = z at *
      by_cases hz : z < 0
      · clear hr
        go_enter Tryd.func32, Tryd.ntmps32
        go_wp2_with (go_at_call 60; refine (refGet01_any s hs _).mono ?_; rintro e w1 ⟨rfl, rfl⟩; rw [E1.out, E2.out])
        all_goals
          exact bodyPost_ret (v := .tuple #[.slice none 0 0, .int .i64 0, .int .i64 2]) (by simp [results, Tryd.results32, go_sem]) rfl ⟨_, 0, by rw [HGE.out], by rw [HGE.out]; exact RowsAt.nil, by rw [HGE.out]; intro h; simp at h, by repeat (first | with_reducible exact Grew.refl _ | apply Grew.more | apply Grew.alloc | apply Grew.drew | apply Grew.drewN)⟩
      · have hz2 : 24 < z := by omega
        clear hr
        go_enter Tryd.func32, Tryd.ntmps32
        go_wp2_with (go_at_call 60; refine (refGet01_any s hs _).mono ?_; rintro e w1 ⟨rfl, rfl⟩; rw [E1.out, E2.out])
        all_goals
          exact bodyPost_ret (v := .tuple #[.slice none 0 0, .int .i64 0, .int .i64 2]) (by simp [results, Tryd.results32, go_sem]) rfl ⟨_, 0, by rw [HGE.out], by rw [HGE.out]; exact RowsAt.nil, by rw [HGE.out]; intro h; simp at h, by repeat (first | with_reducible exact Grew.refl _ | apply Grew.more | apply Grew.alloc | apply Grew.drew | apply Grew.drewN)⟩
    · have hW0 := within_in (a := 0) (b := 24) h4 hr
      have z0 : ¬ Oc.num s < 0 := fun h => hr (.inl h)
      have z24 : ¬ 24 < Oc.num s := fun h => hr (.inr h)
      clear hr
      generalize Oc.num s = z at *
      obtain ⟨N, rfl⟩ : ∃ N : Nat, z = N := ⟨z.toNat, by omega⟩
      have HR0 := Lib.hid hW0
      clear hW0
      go_enter Tryd.func32, Tryd.ntmps32
      go_wp2_with (go_at_call 60; refine (refGet01_any s hs _).mono ?_; rintro e w1 ⟨rfl, rfl⟩; rw [E1.out, E2.out])
      go_loopw [7, 8, 9] (fun v7 v8 i wr => ∃ (k A : Nat) (acc : List Val), k ≤ N ∧ i = .int .i64 k ∧ v8 = .int .i64 A ∧ A = 4 + 8 * k ∧ A ≤ s.length ∧ acc.length = k ∧ readL (N - k) (s.drop A) acc = readL N (s.drop 4) [] ∧ OwnAt w.heap.size 37 2 encI wr v7 acc ∧ Grew w wr) (fun _ _ i _ => N - (intOf i).toNat)
      case atStart => exact ⟨0, 4, [], Nat.zero_le _, rfl, rfl, rfl, by omega, rfl, rfl, OwnAt.lit _ _ (by simp [go_sem]) (by omega), by repeat (first | with_reducible exact Grew.refl _ | apply Grew.more | apply Grew.alloc | apply Grew.drew | apply Grew.drewN)⟩
      case round =>
        obtain ⟨k, A, acc, hk, rfl, rfl, hA, hAs, hacc, hrd, hown, R, n, rfl⟩ := hrel
        by_cases hlt : k < N
        · have hA200 : A ≤ 200 := by omega
          have hd1 := dropA s A s.length rfl
          have hd2 := dropA s (A + 4) s.length rfl
          have hdd : s.drop (A + 4) = (s.drop A).drop 4 := by rw [List.drop_drop]
          have hd8 : s.drop (A + 8) = ((s.drop A).drop 4).drop 4 := by rw [List.drop_drop, List.drop_drop]
          rw [hdd] at hd2
          have hlk : (s.drop A).length = s.length - A := List.length_drop ..
          have hlk2 : ((s.drop A).drop 4).length = s.length - A - 4 := by rw [List.length_drop, hlk]
          obtain ⟨m, hm⟩ : ∃ m, N - k = m + 1 := ⟨N - k - 1, by omega⟩
          rw [hm] at hrd
          generalize hsk : s.drop A = sk at *
          generalize hsk2 : sk.drop 4 = sk2 at *
          have hln1 : sk.length ≤ 1000000 := by omega
          have hln2 : sk2.length ≤ 1000000 := by omega
          have HA := Lib.hid hA
          have HACC := Lib.hid hacc
          have HRD := Lib.hid hrd
          have HO := Lib.hid hown
          have HM := Lib.hid hm
          have HD8 := Lib.hid hd8
          have HSK2 := Lib.hid hsk2
          have HLK := Lib.hid hlk
          have HLK2 := Lib.hid hlk2
          clear hA hacc hrd hown hm hd8 hsk hsk2 hlk hlk2 hdd
          by_cases h5 : sk.length < 4
          · have F1 := Lib.hid (show peekV sk = 0 by unfold peekV; rw [if_pos h5])
            have F2 := Lib.hid (show decide (4 ≤ sk.length) = false from decide_eq_false (by omega))
            have hGe : getL s = ([], 3, sk) := getL_bad HR0.out (by rw [← HRD.out, readL_bad1 (within_short h5) (by decide)]) (by decide)
            have HGE := Lib.hid hGe
            clear hGe
            go_wp2_with (go_at_call 60; ((with_reducible refine (refGet01_any sk hln1 _).mono ?_); rintro e w1 ⟨rfl, rfl⟩; rw [F1.out, F2.out]))
            exact bodyPost_ret (v := .tuple #[.slice none 0 0, .int .i64 0, .int .i64 3]) (by simp [results, Tryd.results32, go_sem]) rfl ⟨_, 0, by rw [HGE.out], by rw [HGE.out]; exact RowsAt.nil, by rw [HGE.out]; intro h; simp at h, by repeat (first | with_reducible exact Grew.refl _ | apply Grew.more | apply Grew.alloc | apply Grew.drew | apply Grew.drewN)⟩
          · have F1 := Lib.hid (show peekV sk = Oc.num sk by unfold peekV; rw [if_neg h5])
            have F2 := Lib.hid (show decide (4 ≤ sk.length) = true from decide_eq_true (by omega))
            by_cases hr : Oc.num sk < 0 ∨ 17 < Oc.num sk
            · have hGe : getL s = ([], 2, sk) := getL_bad HR0.out (by rw [← HRD.out, readL_bad1 (within_out h5 hr) (by decide)]) (by decide)
              have HGE := Lib.hid hGe
              clear hGe
              generalize Oc.num sk = z at *
              by_cases hz : z < 0
              · clear hr
                go_wp2_with (go_at_call 60; ((with_reducible refine (refGet01_any sk hln1 _).mono ?_); rintro e w1 ⟨rfl, rfl⟩; rw [F1.out, F2.out]))
                all_goals
                  exact bodyPost_ret (v := .tuple #[.slice none 0 0, .int .i64 0, .int .i64 2]) (by simp [results, Tryd.results32, go_sem]) rfl ⟨_, 0, by rw [HGE.out], by rw [HGE.out]; exact RowsAt.nil, by rw [HGE.out]; intro h; simp at h, by repeat (first | with_reducible exact Grew.refl _ | apply Grew.more | apply Grew.alloc | apply Grew.drew | apply Grew.drewN)⟩
              · have hz2 : 17 < z := by omega
                clear hr
                go_wp2_with (go_at_call 60; ((with_reducible refine (refGet01_any sk hln1 _).mono ?_); rintro e w1 ⟨rfl, rfl⟩; rw [F1.out, F2.out]))
                all_goals
                  exact bodyPost_ret (v := .tuple #[.slice none 0 0, .int .i64 0, .int .i64 2]) (by simp [results, Tryd.results32, go_sem]) rfl ⟨_, 0, by rw [HGE.out], by rw [HGE.out]; exact RowsAt.nil, by rw [HGE.out]; intro h; simp at h, by repeat (first | with_reducible exact Grew.refl _ | apply Grew.more | apply Grew.alloc | apply Grew.drew | apply Grew.drewN)⟩
            · have hW1 := within_in (a := 0) (b := 17) h5 hr
              rw [HSK2.out] at hW1
              have z0 : ¬ Oc.num sk < 0 := fun h => hr (.inl h)
              have z17 : ¬ 17 < Oc.num sk := fun h => hr (.inr h)
              clear hr
              generalize Oc.num sk = z at *
              have HW1 := Lib.hid hW1
              clear hW1
              have hA4 : A + 4 ≤ s.length := by have := HLK.out; omega
              by_cases h6 : sk2.length < 4
              · have F3 := Lib.hid (show peekV sk2 = 0 by unfold peekV; rw [if_pos h6])
                have F4 := Lib.hid (show decide (4 ≤ sk2.length) = false from decide_eq_false (by omega))
                have hGe : getL s = ([], 3, sk2) := getL_bad HR0.out (by rw [← HRD.out, readL_bad2 HW1.out (by rw [numR_eq, if_pos h6]) (by decide)]) (by decide)
                have HGE := Lib.hid hGe
                clear hGe
                go_wp2_with (first
                  | (go_at_call 60; ((with_reducible refine (refGet01_any sk hln1 _).mono ?_); rintro e w1 ⟨rfl, rfl⟩; rw [F1.out, F2.out]))
                  | (go_at_call 60; ((with_reducible refine (refGet01_any sk2 hln2 _).mono ?_); rintro e w1 ⟨rfl, rfl⟩; rw [F3.out, F4.out]))
                  )
                exact bodyPost_ret (v := .tuple #[.slice none 0 0, .int .i64 0, .int .i64 3]) (by simp [results, Tryd.results32, go_sem]) rfl ⟨_, 0, by rw [HGE.out], by rw [HGE.out]; exact RowsAt.nil, by rw [HGE.out]; intro h; simp at h, by repeat (first | with_reducible exact Grew.refl _ | apply Grew.more | apply Grew.alloc | apply Grew.drew | apply Grew.drewN)⟩
              · have F3 := Lib.hid (show peekV sk2 = Oc.num sk2 by unfold peekV; rw [if_neg h6])
                have F4 := Lib.hid (show decide (4 ≤ sk2.length) = true from decide_eq_true (by omega))
                have hN := numR_eq sk2
                rw [if_neg h6] at hN
                generalize Oc.num sk2 = y at *
                have HN := Lib.hid hN
                clear hN
                have hA8 : A + 8 ≤ s.length := by have := HLK2.out; have := HLK.out; omega
                go_wp2_with (first
                  | (go_at_call 60; ((with_reducible refine (refGet01_any sk hln1 _).mono ?_); rintro e w1 ⟨rfl, rfl⟩; rw [F1.out, F2.out]))
                  | (go_at_call 60; ((with_reducible refine (refGet01_any sk2 hln2 _).mono ?_); rintro e w1 ⟨rfl, rfl⟩; rw [F3.out, F4.out]))
                  | (at_builtin; refine wpList_own1 rfl (.tmp 57) (.tmp 61) 33 _ _ _ _ (z, y) rfl Tryd.underlying33 infoIns rfl (by decide) encI_len encI_one rfl (HO.out.grew (by repeat (first | with_reducible exact Grew.refl _ | apply Grew.more | apply Grew.alloc | apply Grew.drew | apply Grew.drewN))) (by repeat (first | with_reducible exact Grew.refl _ | apply Grew.more | apply Grew.alloc | apply Grew.drew | apply Grew.drewN)) rfl (encI_at _ (z, y) _ _ rfl (by simp [go_sem])) (by rw [HACC.out]; omega) (by decide) ?_; intro v9 R9 n9 hown9; (have HO9 := Lib.hid hown9); clear hown9)
                  )
                go_roundw
                case rel =>
                  refine ⟨k + 1, A + 8, acc ++ [(z, y)], by omega, by go_num, by go_num, by have := HA.out; omega, hA8, by rw [List.length_append, HACC.out]; rfl, ?_, HO9.out, by repeat (first | with_reducible exact Grew.refl _ | apply Grew.more | apply Grew.alloc | apply Grew.drew | apply Grew.drewN)⟩
                  have h1 := HRD.out
                  rw [readL_ok HW1.out HN.out] at h1
                  rw [← h1, HD8.out]
                  congr 1
                  have := HM.out
                  omega
                case measure => first | (simp [intOf]; done) | (simp [intOf]; omega)
        · obtain rfl : k = N := by omega
          have hrd2 : readL k (s.drop 4) [] = (acc, 0, s.drop A) := by rw [← hrd, Nat.sub_self]; rfl
          have hGe := getL_fit HR0.out hrd2
          have hrows : ValsAt (w.more R n) u7 acc := hown.rows encI_len
          have HRO := Lib.hid hrows
          have hld : (A : Int) = (s.length : Int) - (s.drop A).length := by rw [List.length_drop]; omega
          have HLD := Lib.hid hld
          clear hrd hrd2 hown hrows hld hA hacc
          cases hf : Co.fitsI acc
          · rw [hf] at hGe
            have hGe2 : getL s = ([], 4, s.drop A) := hGe.trans (if_neg (by decide))
            have HGE := Lib.hid hGe2
            have HF := Lib.hid hf
            clear hGe hGe2 hf
            go_wp2_with (go_at_call 20; refine (refFits_any _ acc _ HRO.out).mono ?_; rintro e w2 ⟨rfl, R5, n5, rfl⟩; rw [HF.out])
            exact bodyPost_ret (v := .tuple #[.slice none 0 0, .int .i64 0, .int .i64 4]) (by simp [results, Tryd.results32, go_sem]) rfl ⟨_, 0, by rw [HGE.out], by rw [HGE.out]; exact RowsAt.nil, by rw [HGE.out]; intro h; simp at h, by repeat (first | with_reducible exact Grew.refl _ | apply Grew.more | apply Grew.alloc | apply Grew.drew | apply Grew.drewN)⟩
          · rw [hf] at hGe
            have hGe2 : getL s = (acc, 0, s.drop A) := hGe.trans (if_pos rfl)
            have HGE := Lib.hid hGe2
            have HF := Lib.hid hf
            clear hGe hGe2 hf
            go_wp2_with (go_at_call 20; refine (refFits_any _ acc _ HRO.out).mono ?_; rintro e w2 ⟨rfl, R5, n5, rfl⟩; rw [HF.out])
            exact bodyPost_ret (v := .tuple #[u7, .int .i64 A, .int .i64 0]) (by simp [results, Tryd.results32, go_sem]) rfl ⟨_, (A : Int), by rw [HGE.out], by rw [HGE.out]; exact HRO.out.grew (by repeat (first | with_reducible exact Grew.refl _ | apply Grew.more | apply Grew.alloc | apply Grew.drew | apply Grew.drewN)), by rw [HGE.out]; intro _; exact HLD.out, by repeat (first | with_reducible exact Grew.refl _ | apply Grew.more | apply Grew.alloc | apply Grew.drew | apply Grew.drewN)⟩
end Go.Proofs.YtiocdmfmghanmaaDoor
