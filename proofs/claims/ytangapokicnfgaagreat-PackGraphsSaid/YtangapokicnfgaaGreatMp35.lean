import Derived.Test.YtangapokicnfgaaGreatMp33
import Derived.Test.YtangapokicnfgaaGreatMp34
/-! code.Get, with what else it leaves; pack's reader. -/
namespace Go.Proofs.YtangapokicnfgaaGreat
set_option linter.unusedSimpArgs false
set_option linter.unusedVariables false
open Go.RowKit Ga
set_option maxRecDepth 100000

theorem OwnAt.up {α : Type} {base base' : Nat} {e : TypeId} {k : Nat} {enc : α → List Value} {w : World} {v : Value} {l : List α} (h : OwnAt base e k enc w v l) (hb : ∀ q, v.ownBlock = some q → base' ≤ q) : OwnAt base' e k enc w v l := by
  obtain ⟨h1, h2⟩ := h
  refine ⟨h1, ?_⟩
  rcases h2 with h | ⟨g, cap, cur, rfl, h3, r⟩
  · exact .inl h
  · exact .inr ⟨g, cap, cur, rfl, hb g rfl, r⟩
theorem Keep.app {α : Type} {e : TypeId} {k : Nat} {enc : α → List Value} {B : Nat} {w0 w W W' : World} {v v' : Value} {l : List α} (hk : Keep B w W) (hA : Appended w0 e k enc W v l v' W') (hi : ∀ q, v.ownBlock = some q → w.heap.size ≤ q) : Keep B w W' :=
  ⟨Nat.le_trans hk.1 hA.2.2.1, fun q hq hn => (hA.2.2.2.1 q (Nat.lt_of_lt_of_le hq hk.1) fun h => by have := hi q h; omega).trans (hk.2 q hq hn)⟩
theorem app_hi {α : Type} {e : TypeId} {k : Nat} {enc : α → List Value} {B : Nat} {w0 w W W' : World} {v v' : Value} {l : List α} (hk : Keep B w W) (hA : Appended w0 e k enc W v l v' W') (hi : ∀ q, v.ownBlock = some q → w.heap.size ≤ q) : ∀ q, v'.ownBlock = some q → w.heap.size ≤ q := fun q hq => by
  rcases hA.2.2.2.2 q hq with h | h
  · exact hi q h
  · exact Nat.le_trans hk.1 h
def GotProg (w0 w w' : World) (B : Nat) (v : Value) (r : List Val × Int × List UInt8) : Prop := OwnAt w.heap.size 123 2 encI w' v r.1 ∧ ReaderAt w0.heap.size B w' r.2.2 ∧ Grew w0 w' ∧ Keep B w w'
theorem GotProg.none {w0 w w' : World} {B : Nat} {r : List Val × Int × List UInt8} {e : Int} {s : List UInt8} (h : r = ([], e, s)) (h1 : ReaderAt w0.heap.size B w' s) (h2 : Grew w0 w') (h3 : Keep B w w') : GotProg w0 w w' B (.slice none 0 0) r := by
  subst h; exact ⟨OwnAt.nil _, h1, h2, h3⟩
theorem GotProg.some {w0 w w' : World} {B : Nat} {v : Value} {r : List Val × Int × List UInt8} {l : List Val} {e : Int} {s : List UInt8} (h : r = (l, e, s)) (h0 : OwnAt w.heap.size 123 2 encI w' v l) (h1 : ReaderAt w0.heap.size B w' s) (h2 : Grew w0 w') (h3 : Keep B w w') : GotProg w0 w w' B v r := by
  subst h; exact ⟨h0, h1, h2, h3⟩
set_option maxHeartbeats 8000000 in
theorem codeGet_keep (w0 : World) (B : Nat) (s : List UInt8) (w : World) (h : ReaderAt w0.heap.size B w s) (hg : Grew w0 w) (hs : s.length ≤ 1000000) :
    Calls Tryz.prog 118 #[.pointer (some ⟨B, 0, none⟩)] w fun e w' => ∃ v, e = .returned (.tuple #[v, .int .i64 (getL s).2.1]) ∧ GotProg w0 w w' B v (getL s) := by
  have hW := octWithin_any w0 B s 0 24 w h hg hs
  have hl1 := within_len s 0 24
  have hwo := within_ok (s := s) (a := 0) (b := 24)
  generalize hr : within s 0 24 = r at *
  obtain ⟨n, e1, s1⟩ := r
  simp only at hW hl1 hwo
  have HW := Lib.hid hW
  have HR0 := Lib.hid hr
  clear hW hr
  by_cases he : e1 = 0
  · subst he
    obtain ⟨n0, n24⟩ := hwo rfl
    obtain ⟨N, rfl⟩ : ∃ N : Nat, n = N := ⟨n.toNat, by omega⟩
    clear hwo
    go_enter Tryz.func118, Tryz.ntmps118
    go_wp2_with (go_at_call 88; refine HW.out.mono ?_; rintro e w1 ⟨rfl, hr1, hg1, hk1⟩; (have HR1 := Lib.hid hr1); (have HG1 := Lib.hid hg1); (have HK1 := Lib.hid hk1); clear hr1 hg1 hk1)
    go_loopw [6, 19] (fun v6 i wr => ∃ (k : Nat) (acc : List Val) (sk : List UInt8), k ≤ N ∧ i = .int .i64 k ∧ acc.length = k ∧ readL (N - k) sk acc = readL N s1 [] ∧ sk.length ≤ 1000000 ∧ OwnAt w0.heap.size 123 2 encI wr v6 acc ∧ ReaderAt w0.heap.size B wr sk ∧ Grew w0 wr ∧ Hid (Keep B w wr) ∧ Hid (∀ q, v6.ownBlock = some q → w.heap.size ≤ q)) (fun _ i _ => N - (intOf i).toNat)
    case atStart => exact ⟨0, [], s1, Nat.zero_le _, rfl, rfl, rfl, by omega, OwnAt.nil _, HR1.out, HG1.out, HK1, Lib.hid (fun q h => by cases h)⟩
    case round =>
      obtain ⟨k, acc, sk, hk, rfl, hacc, hrd, hsk, hown, hrk, hgk, HKW, HHI⟩ := hrel
      by_cases hlt : k < N
      · have hW2 := octWithin_any w0 B sk 0 17 wr hrk hgk hsk
        have hl2 := within_len sk 0 17
        obtain ⟨m, hm⟩ : ∃ m, N - k = m + 1 := ⟨N - k - 1, by omega⟩
        rw [hm] at hrd
        generalize hr2 : within sk 0 17 = r2 at *
        obtain ⟨op, e2, s2⟩ := r2
        simp only at hW2 hl2
        have hne1 := own_ne hown hrk.2 (by decide)
        have HW2 := Lib.hid hW2
        have HRD := Lib.hid hrd
        have HO := Lib.hid hown
        have HNE := Lib.hid hne1
        have HR2 := Lib.hid hr2
        have HACC := Lib.hid hacc
        have HM := Lib.hid hm
        clear hW2 hrd hown hne1 hr2 hacc hm hrk hgk
        by_cases he2 : e2 = 0
        · subst he2
          have hl3 := within_len s2 (-2147483648) 2147483647
          obtain ⟨a, e3, s3, hr3⟩ : ∃ a e3 s3, numR s2 = (a, e3, s3) := ⟨_, _, _, rfl⟩
          have hr3' : within s2 (-2147483648) 2147483647 = (a, e3, s3) := hr3
          have HN3 : Hid (∀ w2, ReaderAt w0.heap.size B w2 s2 → Grew w0 w2 → Calls Tryz.prog 133 #[.pointer (some ⟨B, 0, none⟩)] w2 fun e w' => e = .returned (.tuple #[.int .i64 a, .int .i64 e3]) ∧ ReaderAt w0.heap.size B w' s3 ∧ Grew w0 w' ∧ Keep B w2 w') := Lib.hid (fun w2 h1 h2 => by
            have := octNum_any w0 B s2 w2 h1 h2 (by omega)
            rw [hr3'] at this
            exact this)
          rw [hr3'] at hl3
          simp only at hl3
          have HR3 := Lib.hid hr3
          clear hr3 hr3'
          by_cases he3 : e3 = 0
          · subst he3
            go_wp2_with (first
              | (go_at_call 88; refine HW2.out.mono ?_; rintro e w2 ⟨rfl, hq2, hg2, hk2⟩; (have HQ2 := Lib.hid hq2); (have HG2 := Lib.hid hg2); (have HK2 := Lib.hid hk2); clear hq2 hg2 hk2)
              | (go_at_call 133; refine (HN3.out _ HQ2.out HG2.out).mono ?_; rintro e w3 ⟨rfl, hq3, hg3, hk3⟩; (have HQ3 := Lib.hid hq3); (have HG3 := Lib.hid hg3); (have HO3 := Lib.hid ((HK2.out.trans hk3).own HO.out HNE.out)); (have HK3 := Lib.hid (HKW.out.trans (HK2.out.trans hk3))); clear hq3 hg3 hk3)
              | (at_builtin; refine wpList_ownK (w0 := w0) rfl (.tmp 37) (.tmp 41) 42 _ _ _ _ [(op, a)] rfl Tryz.underlying42 infoIns rfl (by decide) encI_len encI_one rfl (HO3.out.grew (by repeat (first | with_reducible exact Grew.refl _ | apply Grew.more | apply Grew.alloc | apply Grew.drew | apply Grew.drewN))) (HG3.out.alloc _) rfl (fun j u hu => encI_at _ (op, a) _ _ rfl rfl j u (by simpa using hu)) (by simp [HACC.out]; omega) (by decide) (by simp) ?_; intro v9 W9 hA9; (have hkeep9 := hA9.2.2.2.1); (have HQ9 : Hid (ReaderAt w0.heap.size B W9 s3) := Lib.hid ⟨HQ3.out.1, by rw [hkeep9 B (by have := (Array.getElem?_eq_some_iff.1 HQ3.out.2).1; simp [go_sem]; omega) (own_ne HO3.out HQ3.out.2 (by decide))]; exact heap_alloc_old HQ3.out.2 _⟩); (have HK9 := Lib.hid (Keep.app (HK3.out.trans (Keep.ofGrew (by repeat (first | with_reducible exact Grew.refl _ | apply Grew.more | apply Grew.alloc | apply Grew.drew | apply Grew.drewN)))) hA9 HHI.out)); (have HHI9 := Lib.hid (app_hi (HK3.out.trans (Keep.ofGrew (by repeat (first | with_reducible exact Grew.refl _ | apply Grew.more | apply Grew.alloc | apply Grew.drew | apply Grew.drewN)))) hA9 HHI.out)); (have HA9 := Lib.hid hA9); clear hkeep9 hA9)
              )
            go_roundw
            case rel =>
              refine ⟨k + 1, acc ++ [(op, a)], s3, by omega, by go_num, by rw [List.length_append, HACC.out]; rfl, ?_, by omega, HA9.out.2.1, HQ9.out, HA9.out.1, HK9, HHI9⟩
              have h1 := HRD.out
              rw [readL_ok HR2.out HR3.out] at h1
              rw [← h1]
              congr 1
              have := HM.out
              omega
            case measure => first | (simp [intOf]; done) | (simp [intOf]; omega)
          · have hne3 : (e3 != 0) = true := by rw [bne_iff_ne]; exact he3
            have hGe : getL s = ([], e3, s3) := getL_bad HR0.out (by rw [← HRD.out, readL_bad2 HR2.out HR3.out he3]) he3
            have HGE := Lib.hid hGe
            clear hGe he3
            go_wp2_with (first
              | (go_at_call 88; refine HW2.out.mono ?_; rintro e w2 ⟨rfl, hq2, hg2, hk2⟩; (have HQ2 := Lib.hid hq2); (have HG2 := Lib.hid hg2); (have HK2 := Lib.hid hk2); clear hq2 hg2 hk2)
              | (go_at_call 133; refine (HN3.out _ HQ2.out HG2.out).mono ?_; rintro e w3 ⟨rfl, hq3, hg3, hk3⟩; (have HQ3 := Lib.hid hq3); (have HG3 := Lib.hid hg3); (have HK3 := Lib.hid hk3); clear hq3 hg3 hk3)
              )
            exact bodyPost_ret (v := .tuple #[.slice none 0 0, .int .i64 e3]) (by simp [results, Tryz.results118, go_sem]) rfl ⟨_, by rw [HGE.out], GotProg.none HGE.out HQ3.out HG3.out (HKW.out.trans (HK2.out.trans HK3.out))⟩
        · have hne2 : (e2 != 0) = true := by rw [bne_iff_ne]; exact he2
          have hGe : getL s = ([], e2, s2) := getL_bad HR0.out (by rw [← HRD.out, readL_bad1 HR2.out he2]) he2
          have HGE := Lib.hid hGe
          clear hGe he2
          go_wp2_with (go_at_call 88; refine HW2.out.mono ?_; rintro e w2 ⟨rfl, hq2, hg2, hk2⟩; (have HQ2 := Lib.hid hq2); (have HG2 := Lib.hid hg2); (have HK2 := Lib.hid hk2); clear hq2 hg2 hk2)
          exact bodyPost_ret (v := .tuple #[.slice none 0 0, .int .i64 e2]) (by simp [results, Tryz.results118, go_sem]) rfl ⟨_, by rw [HGE.out], GotProg.none HGE.out HQ2.out HG2.out (HKW.out.trans HK2.out)⟩
      · obtain rfl : k = N := by omega
        have hrd2 : readL k s1 [] = (acc, 0, sk) := by rw [← hrd, Nat.sub_self]; rfl
        have hGe := getL_fit HR0.out hrd2
        have hrows : ValsAt wr u6 acc := hown.rows encI_len
        have HRO := Lib.hid hrows
        have HOW := Lib.hid hown
        have HRK := Lib.hid hrk
        have HGK := Lib.hid hgk
        clear hrd hrd2 hown hrows hrk hgk
        cases hf : Co.fitsI acc
        · rw [hf] at hGe
          have hGe2 : getL s = ([], 4, sk) := hGe.trans (if_neg (by decide))
          have HGE := Lib.hid hGe2
          have HF := Lib.hid hf
          clear hGe hGe2 hf
          go_wp2_with (go_at_call 132; refine (codeFits_any _ acc _ HRO.out).mono ?_; rintro e w2 ⟨rfl, R5, n5, rfl⟩; rw [HF.out])
          exact bodyPost_ret (v := .tuple #[.slice none 0 0, .int .i64 4]) (by simp [results, Tryz.results118, go_sem]) rfl ⟨_, by rw [HGE.out], GotProg.none HGE.out (HRK.out.grew (by repeat (first | with_reducible exact Grew.refl _ | apply Grew.more | apply Grew.alloc | apply Grew.drew | apply Grew.drewN))) (HGK.out.more _ _) (HKW.out.trans (Keep.ofGrew (by repeat (first | with_reducible exact Grew.refl _ | apply Grew.more | apply Grew.alloc | apply Grew.drew | apply Grew.drewN))))⟩
        · rw [hf] at hGe
          have hGe2 : getL s = (acc, 0, sk) := hGe.trans (if_pos rfl)
          have HGE := Lib.hid hGe2
          have HF := Lib.hid hf
          clear hGe hGe2 hf
          go_wp2_with (go_at_call 132; refine (codeFits_any _ acc _ HRO.out).mono ?_; rintro e w2 ⟨rfl, R5, n5, rfl⟩; rw [HF.out])
          exact bodyPost_ret (v := .tuple #[u6, .int .i64 0]) (by simp [results, Tryz.results118, go_sem]) rfl ⟨_, by rw [HGE.out], GotProg.some HGE.out (OwnAt.up (HOW.out.grew (by repeat (first | with_reducible exact Grew.refl _ | apply Grew.more | apply Grew.alloc | apply Grew.drew | apply Grew.drewN))) HHI.out) (HRK.out.grew (by repeat (first | with_reducible exact Grew.refl _ | apply Grew.more | apply Grew.alloc | apply Grew.drew | apply Grew.drewN))) (HGK.out.more _ _) (HKW.out.trans (Keep.ofGrew (by repeat (first | with_reducible exact Grew.refl _ | apply Grew.more | apply Grew.alloc | apply Grew.drew | apply Grew.drewN))))⟩
  · have hGe : getL s = ([], e1, s1) := by rw [getL_of HR0.out, if_pos he]
    have HGE := Lib.hid hGe
    have hne : (e1 != 0) = true := by rw [bne_iff_ne]; exact he
    clear hGe hwo he
    go_enter Tryz.func118, Tryz.ntmps118
    go_wp2_with (go_at_call 88; refine HW.out.mono ?_; rintro e w1 ⟨rfl, hr1, hg1, hk1⟩; (have HR1 := Lib.hid hr1); (have HG1 := Lib.hid hg1); (have HK1 := Lib.hid hk1); clear hr1 hg1 hk1)
    exact bodyPost_ret (v := .tuple #[.slice none 0 0, .int .i64 e1]) (by simp [results, Tryz.results118, go_sem]) rfl ⟨_, by rw [HGE.out], GotProg.none HGE.out HR1.out HG1.out HK1.out⟩
end Go.Proofs.YtangapokicnfgaaGreat
