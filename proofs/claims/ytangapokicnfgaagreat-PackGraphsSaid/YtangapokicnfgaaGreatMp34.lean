import Derived.Test.YtangapokicnfgaaGreatMp11
import Derived.Test.YtangapokicnfgaaGreatMp27
import Derived.Test.YtangapokicnfgaaGreatMp16
/-! code.Get and forebayref04.Get. -/
namespace Go.Proofs.YtangapokicnfgaaGreat
set_option linter.unusedSimpArgs false
set_option linter.unusedVariables false
open Go.RowKit Ga
set_option maxRecDepth 100000

def numR (s : List UInt8) : Int × Int × List UInt8 := within s (-2147483648) 2147483647
theorem numR_eq (s : List UInt8) : numR s = if s.length < 4 then (0, 3, s) else (Oc.num s, 0, s.drop 4) := by
  have h := Oc.num_range s
  unfold numR within
  by_cases h4 : s.length < 4
  · rw [if_pos h4, if_pos h4]
  · rw [if_neg h4, if_neg h4, if_neg (by omega)]
/-- The rounds of Get: the program, the error, what is left. -/
def readL : Nat → List UInt8 → List Val → List Val × Int × List UInt8
  | 0, s, acc => (acc, 0, s)
  | n + 1, s, acc =>
    if (within s 0 17).2.1 ≠ 0 then ([], (within s 0 17).2.1, (within s 0 17).2.2)
    else if (numR (within s 0 17).2.2).2.1 ≠ 0 then ([], (numR (within s 0 17).2.2).2.1, (numR (within s 0 17).2.2).2.2)
    else readL n (numR (within s 0 17).2.2).2.2 (acc ++ [((within s 0 17).1, (numR (within s 0 17).2.2).1)])
def getL (s : List UInt8) : List Val × Int × List UInt8 :=
  if (within s 0 24).2.1 ≠ 0 then ([], (within s 0 24).2.1, (within s 0 24).2.2)
  else if (readL (within s 0 24).1.toNat (within s 0 24).2.2 []).2.1 ≠ 0 then readL (within s 0 24).1.toNat (within s 0 24).2.2 []
  else if Co.fitsI (readL (within s 0 24).1.toNat (within s 0 24).2.2 []).1 then readL (within s 0 24).1.toNat (within s 0 24).2.2 []
  else ([], 4, (readL (within s 0 24).1.toNat (within s 0 24).2.2 []).2.2)

theorem within_len (s : List UInt8) (a b : Int) : (within s a b).2.2.length ≤ s.length := by
  unfold within; split
  · exact Nat.le_refl _
  · split
    · exact Nat.le_refl _
    · simp
theorem within_ok {s : List UInt8} {a b : Int} (h : (within s a b).2.1 = 0) : a ≤ (within s a b).1 ∧ (within s a b).1 ≤ b := by
  unfold within at *
  by_cases h4 : s.length < 4
  · rw [if_pos h4] at h; simp at h
  · rw [if_neg h4] at h ⊢
    by_cases hr : Oc.num s < a ∨ b < Oc.num s
    · rw [if_pos hr] at h; simp at h
    · rw [if_neg hr]; simp only; omega
theorem within_err (s : List UInt8) (a b : Int) : (within s a b).2.1 = 0 ∨ (within s a b).2.1 = 2 ∨ (within s a b).2.1 = 3 := by
  unfold within; split
  · exact .inr (.inr rfl)
  · split
    · exact .inr (.inl rfl)
    · exact .inl rfl

theorem getL_of {s : List UInt8} {n e1 : Int} {s1 : List UInt8} (h : within s 0 24 = (n, e1, s1)) :
    getL s = if e1 ≠ 0 then ([], e1, s1) else if (readL n.toNat s1 []).2.1 ≠ 0 then readL n.toNat s1 [] else if Co.fitsI (readL n.toNat s1 []).1 then readL n.toNat s1 [] else ([], 4, (readL n.toNat s1 []).2.2) := by
  unfold getL; rw [h]
theorem readL_bad1 {n : Nat} {s s2 : List UInt8} {acc : List Val} {op e2 : Int} (h : within s 0 17 = (op, e2, s2)) (he : e2 ≠ 0) : readL (n + 1) s acc = ([], e2, s2) := by
  unfold readL; rw [h, if_pos he]
theorem readL_bad2 {n : Nat} {s s2 s3 : List UInt8} {acc : List Val} {op a e3 : Int} (h : within s 0 17 = (op, 0, s2)) (h2 : numR s2 = (a, e3, s3)) (he : e3 ≠ 0) : readL (n + 1) s acc = ([], e3, s3) := by
  unfold readL; rw [h]; simp only; rw [h2, if_neg (by simp), if_pos he]
theorem readL_ok {n : Nat} {s s2 s3 : List UInt8} {acc : List Val} {op a : Int} (h : within s 0 17 = (op, 0, s2)) (h2 : numR s2 = (a, 0, s3)) : readL (n + 1) s acc = readL n s3 (acc ++ [(op, a)]) := by
  rw [readL, h]; simp only; rw [h2, if_neg (by simp), if_neg (by simp)]
/-- .. what is handed back where the rounds fail. -/
theorem getL_bad {s s1 s2 : List UInt8} {N : Nat} {e : Int} (h : within s 0 24 = ((N : Int), 0, s1)) (hr : readL N s1 [] = ([], e, s2)) (he : e ≠ 0) : getL s = ([], e, s2) := by
  rw [getL_of h, if_neg (by simp), Int.toNat_natCast, hr, if_pos he]
theorem getL_fit {s s1 s2 : List UInt8} {N : Nat} {acc : List Val} (h : within s 0 24 = ((N : Int), 0, s1)) (hr : readL N s1 [] = (acc, 0, s2)) : getL s = if Co.fitsI acc then (acc, 0, s2) else ([], 4, s2) := by
  rw [getL_of h, if_neg (by simp), Int.toNat_natCast, hr, if_neg (by simp)]

set_option maxHeartbeats 8000000 in
theorem codeGet_any (w0 : World) (B : Nat) (s : List UInt8) (w : World) (h : ReaderAt w0.heap.size B w s) (hg : Grew w0 w) (hs : s.length ≤ 1000000) :
    Calls Tryz.prog 118 #[.pointer (some ⟨B, 0, none⟩)] w fun e w' => ∃ v, e = .returned (.tuple #[v, .int .i64 (getL s).2.1]) ∧ ValsAt w' v (getL s).1 ∧ ReaderAt w0.heap.size B w' (getL s).2.2 ∧ Grew w0 w' := by
  have hW := octWithin_any w0 B s 0 24 w h hg hs
  have hl1 := within_len s 0 24
  have hwo := within_ok (s := s) (a := 0) (b := 24)
  generalize hr : within s 0 24 = r at *
  obtain ⟨n, e1, s1⟩ := r
  simp only at hW hl1 hwo
  have HW := Lib.hid hW
  have HR0 := Lib.hid hr
  clear hW hr
  by_cases he : e1 = 0
  · subst he
    obtain ⟨n0, n24⟩ := hwo rfl
    obtain ⟨N, rfl⟩ : ∃ N : Nat, n = N := ⟨n.toNat, by omega⟩
    clear hwo
    go_enter Tryz.func118, Tryz.ntmps118
    go_wp2_with (go_at_call 88; refine HW.out.mono ?_; rintro e w1 ⟨rfl, hr1, hg1, hk1⟩; (have HR1 := Lib.hid hr1); (have HG1 := Lib.hid hg1); clear hr1 hg1 hk1)
    go_loopw [6, 19] (fun v6 i wr => ∃ (k : Nat) (acc : List Val) (sk : List UInt8), k ≤ N ∧ i = .int .i64 k ∧ acc.length = k ∧ readL (N - k) sk acc = readL N s1 [] ∧ sk.length ≤ 1000000 ∧ OwnAt w0.heap.size 123 2 encI wr v6 acc ∧ ReaderAt w0.heap.size B wr sk ∧ Grew w0 wr) (fun _ i _ => N - (intOf i).toNat)
    case atStart => exact ⟨0, [], s1, Nat.zero_le _, rfl, rfl, rfl, by omega, OwnAt.nil _, HR1.out, HG1.out⟩
    case round =>
      obtain ⟨k, acc, sk, hk, rfl, hacc, hrd, hsk, hown, hrk, hgk⟩ := hrel
      by_cases hlt : k < N
      · have hW2 := octWithin_any w0 B sk 0 17 wr hrk hgk hsk
        have hl2 := within_len sk 0 17
        obtain ⟨m, hm⟩ : ∃ m, N - k = m + 1 := ⟨N - k - 1, by omega⟩
        rw [hm] at hrd
        generalize hr2 : within sk 0 17 = r2 at *
        obtain ⟨op, e2, s2⟩ := r2
        simp only at hW2 hl2
        have hne1 := own_ne hown hrk.2 (by decide)
        have HW2 := Lib.hid hW2
        have HRD := Lib.hid hrd
        have HO := Lib.hid hown
        have HNE := Lib.hid hne1
        have HR2 := Lib.hid hr2
        have HACC := Lib.hid hacc
        have HM := Lib.hid hm
        clear hW2 hrd hown hne1 hr2 hacc hm hrk hgk
        by_cases he2 : e2 = 0
        · subst he2
          have hl3 := within_len s2 (-2147483648) 2147483647
          obtain ⟨a, e3, s3, hr3⟩ : ∃ a e3 s3, numR s2 = (a, e3, s3) := ⟨_, _, _, rfl⟩
          have hr3' : within s2 (-2147483648) 2147483647 = (a, e3, s3) := hr3
          have HN3 : Hid (∀ w2, ReaderAt w0.heap.size B w2 s2 → Grew w0 w2 → Calls Tryz.prog 133 #[.pointer (some ⟨B, 0, none⟩)] w2 fun e w' => e = .returned (.tuple #[.int .i64 a, .int .i64 e3]) ∧ ReaderAt w0.heap.size B w' s3 ∧ Grew w0 w' ∧ Keep B w2 w') := Lib.hid (fun w2 h1 h2 => by
            have := octNum_any w0 B s2 w2 h1 h2 (by omega)
            rw [hr3'] at this
            exact this)
          rw [hr3'] at hl3
          simp only at hl3
          have HR3 := Lib.hid hr3
          clear hr3 hr3'
          by_cases he3 : e3 = 0
          · subst he3
            go_wp2_with (first
              | (go_at_call 88; refine HW2.out.mono ?_; rintro e w2 ⟨rfl, hq2, hg2, hk2⟩; (have HQ2 := Lib.hid hq2); (have HG2 := Lib.hid hg2); (have HK2 := Lib.hid hk2); clear hq2 hg2 hk2)
              | (go_at_call 133; refine (HN3.out _ HQ2.out HG2.out).mono ?_; rintro e w3 ⟨rfl, hq3, hg3, hk3⟩; (have HQ3 := Lib.hid hq3); (have HG3 := Lib.hid hg3); (have HO3 := Lib.hid ((HK2.out.trans hk3).own HO.out HNE.out)); clear hq3 hg3 hk3)
              | (at_builtin; refine wpList_ownG (w0 := w0) rfl (.tmp 37) (.tmp 41) 42 _ _ _ _ [(op, a)] rfl Tryz.underlying42 infoIns rfl (by decide) encI_len encI_one rfl (HO3.out.grew (by repeat (first | with_reducible exact Grew.refl _ | apply Grew.more | apply Grew.alloc | apply Grew.drew | apply Grew.drewN))) (HG3.out.alloc _) rfl (fun j u hu => encI_at _ (op, a) _ _ rfl rfl j u (by simpa using hu)) (by simp [HACC.out]; omega) (by decide) ?_; intro v9 R9 n9 hown9 hkeep9; (have HQ9 : Hid (ReaderAt w0.heap.size B (w0.more R9 n9) s3) := Lib.hid ⟨HQ3.out.1, by rw [hkeep9 B (by have := (Array.getElem?_eq_some_iff.1 HQ3.out.2).1; simp [go_sem]; omega) (own_ne HO3.out HQ3.out.2 (by decide))]; exact heap_alloc_old HQ3.out.2 _⟩); (have HO9 := Lib.hid hown9); clear hown9 hkeep9)
              )
            go_roundw
            case rel =>
              refine ⟨k + 1, acc ++ [(op, a)], s3, by omega, by go_num, by rw [List.length_append, HACC.out]; rfl, ?_, by omega, HO9.out, HQ9.out, ⟨R9, n9, rfl⟩⟩
              have h1 := HRD.out
              rw [readL_ok HR2.out HR3.out] at h1
              rw [← h1]
              congr 1
              have := HM.out
              omega
            case measure => first | (simp [intOf]; done) | (simp [intOf]; omega)
          · have hne3 : (e3 != 0) = true := by rw [bne_iff_ne]; exact he3
            have hGe : getL s = ([], e3, s3) := getL_bad HR0.out (by rw [← HRD.out, readL_bad2 HR2.out HR3.out he3]) he3
            have HGE := Lib.hid hGe
            clear hGe he3
            go_wp2_with (first
              | (go_at_call 88; refine HW2.out.mono ?_; rintro e w2 ⟨rfl, hq2, hg2, hk2⟩; (have HQ2 := Lib.hid hq2); (have HG2 := Lib.hid hg2); clear hq2 hg2 hk2)
              | (go_at_call 133; refine (HN3.out _ HQ2.out HG2.out).mono ?_; rintro e w3 ⟨rfl, hq3, hg3, hk3⟩; (have HQ3 := Lib.hid hq3); (have HG3 := Lib.hid hg3); clear hq3 hg3 hk3)
              )
            exact bodyPost_ret (v := .tuple #[.slice none 0 0, .int .i64 e3]) (by simp [results, Tryz.results118, go_sem]) rfl ⟨_, by rw [HGE.out], by rw [HGE.out]; exact RowsAt.nil, by rw [HGE.out]; exact HQ3.out, HG3.out⟩
        · have hne2 : (e2 != 0) = true := by rw [bne_iff_ne]; exact he2
          have hGe : getL s = ([], e2, s2) := getL_bad HR0.out (by rw [← HRD.out, readL_bad1 HR2.out he2]) he2
          have HGE := Lib.hid hGe
          clear hGe he2
          go_wp2_with (go_at_call 88; refine HW2.out.mono ?_; rintro e w2 ⟨rfl, hq2, hg2, hk2⟩; (have HQ2 := Lib.hid hq2); (have HG2 := Lib.hid hg2); clear hq2 hg2 hk2)
          exact bodyPost_ret (v := .tuple #[.slice none 0 0, .int .i64 e2]) (by simp [results, Tryz.results118, go_sem]) rfl ⟨_, by rw [HGE.out], by rw [HGE.out]; exact RowsAt.nil, by rw [HGE.out]; exact HQ2.out, HG2.out⟩
      · obtain rfl : k = N := by omega
        have hrd2 : readL k s1 [] = (acc, 0, sk) := by rw [← hrd, Nat.sub_self]; rfl
        have hGe := getL_fit HR0.out hrd2
        have hrows : ValsAt wr u6 acc := hown.rows encI_len
        have HRO := Lib.hid hrows
        have HRK := Lib.hid hrk
        have HGK := Lib.hid hgk
        clear hrd hrd2 hown hrows hrk hgk
        cases hf : Co.fitsI acc
        · rw [hf] at hGe
          have hGe2 : getL s = ([], 4, sk) := hGe.trans (if_neg (by decide))
          have HGE := Lib.hid hGe2
          have HF := Lib.hid hf
          clear hGe hGe2 hf
          go_wp2_with (go_at_call 132; refine (codeFits_any _ acc _ HRO.out).mono ?_; rintro e w2 ⟨rfl, R5, n5, rfl⟩; rw [HF.out])
          exact bodyPost_ret (v := .tuple #[.slice none 0 0, .int .i64 4]) (by simp [results, Tryz.results118, go_sem]) rfl ⟨_, by rw [HGE.out], by rw [HGE.out]; exact RowsAt.nil, by rw [HGE.out]; exact HRK.out.grew (by repeat (first | with_reducible exact Grew.refl _ | apply Grew.more | apply Grew.alloc | apply Grew.drew | apply Grew.drewN)), HGK.out.more _ _⟩
        · rw [hf] at hGe
          have hGe2 : getL s = (acc, 0, sk) := hGe.trans (if_pos rfl)
          have HGE := Lib.hid hGe2
          have HF := Lib.hid hf
          clear hGe hGe2 hf
          go_wp2_with (go_at_call 132; refine (codeFits_any _ acc _ HRO.out).mono ?_; rintro e w2 ⟨rfl, R5, n5, rfl⟩; rw [HF.out])
          exact bodyPost_ret (v := .tuple #[u6, .int .i64 0]) (by simp [results, Tryz.results118, go_sem]) rfl ⟨_, by rw [HGE.out], by rw [HGE.out]; exact HRO.out.grew (by repeat (first | with_reducible exact Grew.refl _ | apply Grew.more | apply Grew.alloc | apply Grew.drew | apply Grew.drewN)), by rw [HGE.out]; exact HRK.out.grew (by repeat (first | with_reducible exact Grew.refl _ | apply Grew.more | apply Grew.alloc | apply Grew.drew | apply Grew.drewN)), HGK.out.more _ _⟩
  · have hGe : getL s = ([], e1, s1) := by rw [getL_of HR0.out, if_pos he]
    have HGE := Lib.hid hGe
    have hne : (e1 != 0) = true := by rw [bne_iff_ne]; exact he
    clear hGe hwo he
    go_enter Tryz.func118, Tryz.ntmps118
    go_wp2_with (go_at_call 88; refine HW.out.mono ?_; rintro e w1 ⟨rfl, hr1, hg1, hk1⟩; (have HR1 := Lib.hid hr1); (have HG1 := Lib.hid hg1); clear hr1 hg1 hk1)
    exact bodyPost_ret (v := .tuple #[.slice none 0 0, .int .i64 e1]) (by simp [results, Tryz.results118, go_sem]) rfl ⟨_, by rw [HGE.out], by rw [HGE.out]; exact RowsAt.nil, by rw [HGE.out]; exact HR1.out, HG1.out⟩
end Go.Proofs.YtangapokicnfgaaGreat
