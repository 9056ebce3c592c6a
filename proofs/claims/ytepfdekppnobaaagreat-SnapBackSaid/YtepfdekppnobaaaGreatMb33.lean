import Derived.Test.YtepfdekppnobaaaGreatMb29
import Derived.Test.YtepfdekppnobaaaGreatMb18
/-! code.Get, with what else it leaves; pack's reader. -/
namespace Go.Proofs.YtepfdekppnobaaaGreat
set_option linter.unusedSimpArgs false
set_option linter.unusedVariables false
open Go.RowKit Ga
set_option maxRecDepth 100000

theorem OwnAt.up {α : Type} {base base' : Nat} {e : TypeId} {k : Nat} {enc : α → List Value} {w : World} {v : Value} {l : List α} (h : OwnAt base e k enc w v l) (hb : ∀ q, v.ownBlock = some q → base' ≤ q) : OwnAt base' e k enc w v l := by
  obtain ⟨h1, h2⟩ := h
  refine ⟨h1, ?_⟩
  rcases h2 with h | ⟨g, cap, cur, rfl, h3, r⟩
  · exact .inl h
  · exact .inr ⟨g, cap, cur, rfl, hb g rfl, r⟩
theorem Keep.app {α : Type} {e : TypeId} {k : Nat} {enc : α → List Value} {B : Nat} {w0 w W W' : World} {v v' : Value} {l : List α} (hk : Keep B w W) (hA : Appended w0 e k enc W v l v' W') (hi : ∀ q, v.ownBlock = some q → w.heap.size ≤ q) : Keep B w W' :=
  ⟨Nat.le_trans hk.1 hA.2.2.1, fun q hq hn => (hA.2.2.2.1 q (Nat.lt_of_lt_of_le hq hk.1) fun h => by have := hi q h; omega).trans (hk.2 q hq hn)⟩
theorem app_hi {α : Type} {e : TypeId} {k : Nat} {enc : α → List Value} {B : Nat} {w0 w W W' : World} {v v' : Value} {l : List α} (hk : Keep B w W) (hA : Appended w0 e k enc W v l v' W') (hi : ∀ q, v.ownBlock = some q → w.heap.size ≤ q) : ∀ q, v'.ownBlock = some q → w.heap.size ≤ q := fun q hq => by
  rcases hA.2.2.2.2 q hq with h | h
  · exact hi q h
  · exact Nat.le_trans hk.1 h
def GotProg (w0 w w' : World) (B : Nat) (v : Value) (r : List Val × Int × List UInt8) : Prop := OwnAt w.heap.size 140 2 encI w' v r.1 ∧ ReaderAt w0.heap.size B w' r.2.2 ∧ Grew w0 w' ∧ Keep B w w'
theorem GotProg.none {w0 w w' : World} {B : Nat} {r : List Val × Int × List UInt8} {e : Int} {s : List UInt8} (h : r = ([], e, s)) (h1 : ReaderAt w0.heap.size B w' s) (h2 : Grew w0 w') (h3 : Keep B w w') : GotProg w0 w w' B (.slice none 0 0) r := by
  subst h; exact ⟨OwnAt.nil _, h1, h2, h3⟩
theorem GotProg.some {w0 w w' : World} {B : Nat} {v : Value} {r : List Val × Int × List UInt8} {l : List Val} {e : Int} {s : List UInt8} (h : r = (l, e, s)) (h0 : OwnAt w.heap.size 140 2 encI w' v l) (h1 : ReaderAt w0.heap.size B w' s) (h2 : Grew w0 w') (h3 : Keep B w w') : GotProg w0 w w' B v r := by
  subst h; exact ⟨h0, h1, h2, h3⟩
set_option maxHeartbeats 8000000 in
theorem codeGet_keep (w0 : World) (B : Nat) (s : List UInt8) (w : World) (h : ReaderAt w0.heap.size B w s) (hg : Grew w0 w) (hs : s.length ≤ 1000000) :
    Calls Tryz.prog 167 #[.pointer (some ⟨B, 0, none⟩)] w fun e w' => ∃ v, e = .returned (.tuple #[v, .int .i64 (getL s).2.1]) ∧ GotProg w0 w w' B v (getL s) := by
  have hW := octWithin_any w0 B s 0 24 w h hg hs
  have hl1 := within_len s 0 24
  have hwo := within_ok (s := s) (a := 0) (b := 24)
  generalize hr : within s 0 24 = r at *
  obtain ⟨n, e1, s1⟩ := r
  simp only at hW hl1 hwo
  have HW := Lib.hid hW
  have HR0 := Lib.hid hr
  clear hW hr
  by_cases he : e1 = 0
  · subst he
    obtain ⟨n0, n24⟩ := hwo rfl
    obtain ⟨N, rfl⟩ : ∃ N : Nat, n = N := ⟨n.toNat, by omega⟩
    clear hwo
    go_enter Tryz.func167, Tryz.ntmps167
    go_wp2_with (go_at_call 140; refine HW.out.mono ?_; rintro e w1 ⟨rfl, hr1, hg1, hk1⟩; (have HR1 := Lib.hid hr1); (have HG1 := Lib.hid hg1); (have HK1 := Lib.hid hk1); clear hr1 hg1 hk1)
    go_loopw [6, 19] (fun v6 i wr => ∃ (k : Nat) (acc : List Val) (sk : List UInt8), k ≤ N ∧ i = .int .i64 k ∧ acc.length = k ∧ readL (N - k) sk acc = readL N s1 [] ∧ sk.length ≤ 1000000 ∧ OwnAt w0.heap.size 140 2 encI wr v6 acc ∧ ReaderAt w0.heap.size B wr sk ∧ Grew w0 wr ∧ Hid (Keep B w wr) ∧ Hid (∀ q, v6.ownBlock = some q → w.heap.size ≤ q)) (fun _ i _ => N - (intOf i).toNat)
    case atStart => exact ⟨0, [], s1, Nat.zero_le _, rfl, rfl, rfl, by omega, OwnAt.nil _, HR1.out, HG1.out, HK1, Lib.hid (fun q h => by cases h)⟩
    case round =>
      obtain ⟨k, acc, sk, hk, rfl, hacc, hrd, hsk, hown, hrk, hgk, HKW, HHI⟩ := hrel
      by_cases hlt : k < N
      · have hW2 := octWithin_any w0 B sk 0 17 wr hrk hgk hsk
        have hl2 := within_len sk 0 17
        obtain ⟨m, hm⟩ : ∃ m, N - k = m + 1 := ⟨N - k - 1, by omega⟩
        rw [hm] at hrd
        generalize hr2 : within sk 0 17 = r2 at *
        obtain ⟨op, e2, s2⟩ := r2
        simp only at hW2 hl2
        have hne1 := own_ne hown hrk.2 (by decide)
        have HW2 := Lib.hid hW2
        have HRD := Lib.hid hrd
        have HO := Lib.hid hown
        have HNE := Lib.hid hne1
        have HR2 := Lib.hid hr2
        have HACC := Lib.hid hacc
        have HM := Lib.hid hm
        clear hW2 hrd hown hne1 hr2 hacc hm hrk hgk
        by_cases he2 : e2 = 0
        · subst he2
          have hl3 := within_len s2 (-2147483648) 2147483647
          obtain ⟨a, e3, s3, hr3⟩ : ∃ a e3 s3, numR s2 = (a, e3, s3) := ⟨_, _, _, rfl⟩
          have hr3' : within s2 (-2147483648) 2147483647 = (a, e3, s3) := hr3
          have HN3 : Hid (∀ w2, ReaderAt w0.heap.size B w2 s2 → Grew w0 w2 → Calls Tryz.prog 192 #[.pointer (some ⟨B, 0, none⟩)] w2 fun e w' => e = .returned (.tuple #[.int .i64 a, .int .i64 e3]) ∧ ReaderAt w0.heap.size B w' s3 ∧ Grew w0 w' ∧ Keep B w2 w') := Lib.hid (fun w2 h1 h2 => by
            have := octNum_any w0 B s2 w2 h1 h2 (by omega)
            rw [hr3'] at this
            exact this)
          rw [hr3'] at hl3
          simp only at hl3
          have HR3 := Lib.hid hr3
          clear hr3 hr3'
          by_cases he3 : e3 = 0
          · subst he3
            go_wp2_with (first
              | (go_at_call 140; refine HW2.out.mono ?_; rintro e w2 ⟨rfl, hq2, hg2, hk2⟩; (have HQ2 := Lib.hid hq2); (have HG2 := Lib.hid hg2); (have HK2 := Lib.hid hk2); clear hq2 hg2 hk2)
              | (go_at_call 192; refine (HN3.out _ HQ2.out HG2.out).mono ?_; rintro e w3 ⟨rfl, hq3, hg3, hk3⟩; (have HQ3 := Lib.hid hq3); (have HG3 := Lib.hid hg3); (have HO3 := Lib.hid ((HK2.out.trans hk3).own HO.out HNE.out)); (have HK3 := Lib.hid (HKW.out.trans (HK2.out.trans hk3))); clear hq3 hg3 hk3)
              | (at_builtin; refine wpList_ownK (w0 := w0) rfl (.tmp 37) (.tmp 41) 61 _ _ _ _ [(op, a)] rfl Tryz.underlying61 infoIns rfl (by decide) encI_len encI_one rfl (HO3.out.grew (by repeat (first | with_reducible exact Grew.refl _ | apply Grew.more | apply Grew.alloc | apply Grew.drew | apply Grew.drewN))) (HG3.out.alloc _) rfl (fun j u hu => encI_at _ (op, a) _ _ rfl rfl j u (by simpa using hu)) (by simp [HACC.out]; omega) (by decide) (by simp) ?_; intro v9 W9 hA9; (have hkeep9 := hA9.2.2.2.1); (have HQ9 : Hid (ReaderAt w0.heap.size B W9 s3) := Lib.hid ⟨HQ3.out.1, by rw [hkeep9 B (by have := (Array.getElem?_eq_some_iff.1 HQ3.out.2).1; simp [go_sem]; omega) (own_ne HO3.out HQ3.out.2 (by decide))]; exact heap_alloc_old HQ3.out.2 _⟩); (have HK9 := Lib.hid (Keep.app (HK3.out.trans (Keep.ofGrew (by repeat (first | with_reducible exact Grew.refl _ | apply Grew.more | apply Grew.alloc | apply Grew.drew | apply Grew.drewN)))) hA9 HHI.out)); (have HHI9 := Lib.hid (app_hi (HK3.out.trans (Keep.ofGrew (by repeat (first | with_reducible exact Grew.refl _ | apply Grew.more | apply Grew.alloc | apply Grew.drew | apply Grew.drewN)))) hA9 HHI.out)); (have HA9 := Lib.hid hA9); clear hkeep9 hA9)
              )
            go_roundw
            case rel =>
              refine ⟨k + 1, acc ++ [(op, a)], s3, by omega, by go_num, by rw [List.length_append, HACC.out]; rfl, ?_, by omega, HA9.out.2.1, HQ9.out, HA9.out.1, HK9, HHI9⟩
              have h1 := HRD.out
              rw [readL_ok HR2.out HR3.out] at h1
              rw [← h1]
              congr 1
              have := HM.out
              omega
            case measure => first | (simp [intOf]; done) | (simp [intOf]; omega)
          · have hne3 : (e3 != 0) = true := by rw [bne_iff_ne]; exact he3
            have hGe : getL s = ([], e3, s3) := getL_bad HR0.out (by rw [← HRD.out, readL_bad2 HR2.out HR3.out he3]) he3
            have HGE := Lib.hid hGe
            clear hGe he3
            go_wp2_with (first
              | (go_at_call 140; refine HW2.out.mono ?_; rintro e w2 ⟨rfl, hq2, hg2, hk2⟩; (have HQ2 := Lib.hid hq2); (have HG2 := Lib.hid hg2); (have HK2 := Lib.hid hk2); clear hq2 hg2 hk2)
              | (go_at_call 192; refine (HN3.out _ HQ2.out HG2.out).mono ?_; rintro e w3 ⟨rfl, hq3, hg3, hk3⟩; (have HQ3 := Lib.hid hq3); (have HG3 := Lib.hid hg3); (have HK3 := Lib.hid hk3); clear hq3 hg3 hk3)
              )
            exact bodyPost_ret (v := .tuple #[.slice none 0 0, .int .i64 e3]) (by simp [results, Tryz.results167, go_sem]) rfl ⟨_, by rw [HGE.out], GotProg.none HGE.out HQ3.out HG3.out (HKW.out.trans (HK2.out.trans HK3.out))⟩
        · have hne2 : (e2 != 0) = true := by rw [bne_iff_ne]; exact he2
          have hGe : getL s = ([], e2, s2) := getL_bad HR0.out (by rw [← HRD.out, readL_bad1 HR2.out he2]) he2
          have HGE := Lib.hid hGe
          clear hGe he2
          go_wp2_with (go_at_call 140; refine HW2.out.mono ?_; rintro e w2 ⟨rfl, hq2, hg2, hk2⟩; (have HQ2 := Lib.hid hq2); (have HG2 := Lib.hid hg2); (have HK2 := Lib.hid hk2); clear hq2 hg2 hk2)
          exact bodyPost_ret (v := .tuple #[.slice none 0 0, .int .i64 e2]) (by simp [results, Tryz.results167, go_sem]) rfl ⟨_, by rw [HGE.out], GotProg.none HGE.out HQ2.out HG2.out (HKW.out.trans HK2.out)⟩
      · obtain rfl : k = N := by omega
        have hrd2 : readL k s1 [] = (acc, 0, sk) := by rw [← hrd, Nat.sub_self]; rfl
        have hGe := getL_fit HR0.out hrd2
        have hrows : ValsAt wr u6 acc := hown.rows encI_len
        have HRO := Lib.hid hrows
        have HOW := Lib.hid hown
        have HRK := Lib.hid hrk
        have HGK := Lib.hid hgk
        clear hrd hrd2 hown hrows hrk hgk
        cases hf : Co.fitsI acc
        · rw [hf] at hGe
          have hGe2 : getL s = ([], 4, sk) := hGe.trans (if_neg (by decide))
          have HGE := Lib.hid hGe2
          have HF := Lib.hid hf
          clear hGe hGe2 hf
          go_wp2_with (go_at_call 180; refine (codeFits_any _ acc _ HRO.out).mono ?_; rintro e w2 ⟨rfl, R5, n5, rfl⟩; rw [HF.out])
          exact bodyPost_ret (v := .tuple #[.slice none 0 0, .int .i64 4]) (by simp [results, Tryz.results167, go_sem]) rfl ⟨_, by rw [HGE.out], GotProg.none HGE.out (HRK.out.grew (by repeat (first | with_reducible exact Grew.refl _ | apply Grew.more | apply Grew.alloc | apply Grew.drew | apply Grew.drewN))) (HGK.out.more _ _) (HKW.out.trans (Keep.ofGrew (by repeat (first | with_reducible exact Grew.refl _ | apply Grew.more | apply Grew.alloc | apply Grew.drew | apply Grew.drewN))))⟩
        · rw [hf] at hGe
          have hGe2 : getL s = (acc, 0, sk) := hGe.trans (if_pos rfl)
          have HGE := Lib.hid hGe2
          have HF := Lib.hid hf
          clear hGe hGe2 hf
          go_wp2_with (go_at_call 180; refine (codeFits_any _ acc _ HRO.out).mono ?_; rintro e w2 ⟨rfl, R5, n5, rfl⟩; rw [HF.out])
          exact bodyPost_ret (v := .tuple #[u6, .int .i64 0]) (by simp [results, Tryz.results167, go_sem]) rfl ⟨_, by rw [HGE.out], GotProg.some HGE.out (OwnAt.up (HOW.out.grew (by repeat (first | with_reducible exact Grew.refl _ | apply Grew.more | apply Grew.alloc | apply Grew.drew | apply Grew.drewN))) HHI.out) (HRK.out.grew (by repeat (first | with_reducible exact Grew.refl _ | apply Grew.more | apply Grew.alloc | apply Grew.drew | apply Grew.drewN))) (HGK.out.more _ _) (HKW.out.trans (Keep.ofGrew (by repeat (first | with_reducible exact Grew.refl _ | apply Grew.more | apply Grew.alloc | apply Grew.drew | apply Grew.drewN))))⟩
  · have hGe : getL s = ([], e1, s1) := by rw [getL_of HR0.out, if_pos he]
    have HGE := Lib.hid hGe
    have hne : (e1 != 0) = true := by rw [bne_iff_ne]; exact he
    clear hGe hwo he
    go_enter Tryz.func167, Tryz.ntmps167
    go_wp2_with (go_at_call 140; refine HW.out.mono ?_; rintro e w1 ⟨rfl, hr1, hg1, hk1⟩; (have HR1 := Lib.hid hr1); (have HG1 := Lib.hid hg1); (have HK1 := Lib.hid hk1); clear hr1 hg1 hk1)
    exact bodyPost_ret (v := .tuple #[.slice none 0 0, .int .i64 e1]) (by simp [results, Tryz.results167, go_sem]) rfl ⟨_, by rw [HGE.out], GotProg.none HGE.out HR1.out HG1.out HK1.out⟩
end Go.Proofs.YtepfdekppnobaaaGreat

/-! pack's reader: num, prog, list, end. -/
namespace Go.Proofs.YtepfdekppnobaaaGreat
set_option linter.unusedSimpArgs false
set_option linter.unusedVariables false
open Go.RowKit Ga
set_option maxRecDepth 100000

/-- pack's reader at block A: octet's at block B; what is left, and the first error -/
def RdAt (base A B : Nat) (W : World) (s : Gr.Rs) : Prop := base ≤ A ∧ W.heap[A]? = some (.cells #[.pointer (some ⟨B, 0, none⟩), .int .i64 s.2] 185) ∧ ReaderAt base B W s.1
def Keep2 (A B : Nat) (w w' : World) : Prop := w.heap.size ≤ w'.heap.size ∧ ∀ q, q < w.heap.size → q ≠ A → q ≠ B → w'.heap[q]? = w.heap[q]?
theorem Keep2.refl (A B : Nat) (w : World) : Keep2 A B w w := ⟨Nat.le_refl _, fun _ _ _ _ => rfl⟩
theorem Keep2.trans {A B : Nat} {a b c : World} (h : Keep2 A B a b) (k : Keep2 A B b c) : Keep2 A B a c :=
  ⟨Nat.le_trans h.1 k.1, fun q hq h1 h2 => (k.2 q (Nat.lt_of_lt_of_le hq h.1) h1 h2).trans (h.2 q hq h1 h2)⟩
theorem Keep2.ofGrew {A B : Nat} {w w' : World} (g : Grew w w') : Keep2 A B w w' := ⟨g.below.size, fun q hq _ _ => g.below.block q hq⟩
theorem Keep2.ofKeep {A B : Nat} {w w' : World} (k : Keep B w w') : Keep2 A B w w' := ⟨k.1, fun q hq _ h => k.2 q hq h⟩
theorem Keep2.set {A B : Nat} {w : World} {o : Nat} {v : Value} : Keep2 A B w (w.setCell ⟨A, o, none⟩ v) := ⟨by rw [World.size_setCell]; exact Nat.le_refl _, fun q hq h _ => set_other fun e => h e.symm⟩
theorem RdAt.ne {base A B : Nat} {W : World} {s : Gr.Rs} (h : RdAt base A B W s) : A ≠ B := fun e => by
  have h1 := h.2.1
  rw [e, h.2.2.2] at h1
  cases h1
theorem RdAt.grew {base A B : Nat} {W W' : World} {s : Gr.Rs} (h : RdAt base A B W s) (g : Grew W W') : RdAt base A B W' s := ⟨h.1, grew_heap g h.2.1, h.2.2.grew g⟩
theorem RdAt.put {base A B : Nat} {W W1 : World} {s : Gr.Rs} {z : List UInt8} {e : Int} (h : RdAt base A B W s) (hr : ReaderAt base B W1 z) (hk : Keep B W W1) : W1.heap[A]? = some (.cells #[.pointer (some ⟨B, 0, none⟩), .int .i64 s.2] 185) ∧ RdAt base A B (W1.setCell ⟨A, 1, none⟩ (.int .i64 e)) (z, e) := by
  have hA : W1.heap[A]? = some (.cells #[.pointer (some ⟨B, 0, none⟩), .int .i64 s.2] 185) := by rw [hk.2 A (heap_lt h.2.1) h.ne]; exact h.2.1
  exact ⟨hA, h.1, by rw [set_self hA]; rfl, hr.1, by rw [set_other h.ne]; exact hr.2⟩
theorem wn_len (s : List UInt8) (a b : Int) : (Gr.wn s a b).2.2.length ≤ s.length := within_len s a b
theorem numS_len (a b : Int) (s : Gr.Rs) : (Gr.numS a b s).2.1.length ≤ s.1.length := by
  unfold Gr.numS
  split
  · exact Nat.le_refl _
  · exact wn_len _ _ _
theorem numS_range {a b : Int} (s : Gr.Rs) (ha : a ≤ 0) (hb : 0 ≤ b) : a ≤ (Gr.numS a b s).1 ∧ (Gr.numS a b s).1 ≤ b := by
  unfold Gr.numS
  split
  · exact ⟨ha, hb⟩
  · unfold Gr.wn
    split
    · exact ⟨ha, hb⟩
    · split
      · exact ⟨ha, hb⟩
      · simp only; omega
def RdPost (w0 W : World) (A B : Nat) (v : Value) (s : Gr.Rs) (e : Ending) (W' : World) : Prop := e = .returned v ∧ RdAt w0.heap.size A B W' s ∧ Grew w0 W' ∧ Keep2 A B W W'
set_option maxHeartbeats 4000000 in
theorem rdNum_any (w0 : World) (A B : Nat) (s : Gr.Rs) (a b : Int) (W : World) (h : RdAt w0.heap.size A B W s) (hg : Grew w0 W) (hs : s.1.length ≤ 1000000) :
    Calls Tryz.prog 113 #[.pointer (some ⟨A, 0, none⟩), .int .i64 a, .int .i64 b] W (RdPost w0 W A B (.int .i64 (Gr.numS a b s).1) (Gr.numS a b s).2) := by
  have H := Lib.hid h
  have HG := Lib.hid hg
  have c0 := cell_of (o := 0) h.2.1
  have c1 := cell_of (o := 1) h.2.1
  have f1 := frozen_of (o := 1) h.2.1
  have hpA := Pre.mk (heap_lt h.2.1)
  simp at c0 c1
  obtain ⟨z, x⟩ := s
  simp only at hs c1
  by_cases he : x = 0
  · subst he
    have hn : Gr.numS a b (z, 0) = ((within z a b).1, ((within z a b).2.2, (within z a b).2.1)) := by unfold Gr.numS; rw [if_neg (by simp)]; rfl
    rw [hn]
    have hw := octWithin_any w0 B z a b W h.2.2 hg hs
    generalize within z a b = r at *
    obtain ⟨y, er, z'⟩ := r
    simp only at hw ⊢
    have HW := Lib.hid hw
    clear h hg hw hn
    go_enter Tryz.func113, Tryz.ntmps113
    go_wp2_with (go_at_call 140; refine HW.out.mono ?_; rintro e w1 ⟨rfl, hr1, hg1, hk1⟩; obtain ⟨hA1, hR1⟩ := RdAt.put (e := er) H.out hr1 hk1; (have d1 := cell_of (o := 1) hA1); (have g1 := frozen_of (o := 1) hA1); (have pA1 := Pre.mk (heap_lt hA1)); simp at d1; (have HR1 := Lib.hid hR1); (have HG1 := Lib.hid hg1); (have HK1 := Lib.hid hk1); clear hr1 hg1 hk1 hA1 hR1)
    go_ret
    exact ⟨rfl, HR1.out, HG1.out.set H.out.1 _, (Keep2.ofKeep HK1.out).trans Keep2.set⟩
  · rw [Gr.numS_err a b (s := (z, x)) he]
    have he2 : (x != 0) = true := by rw [bne_iff_ne]; exact he
    clear h hg he
    go_enter Tryz.func113, Tryz.ntmps113
    go_wp2
    go_ret
    exact ⟨rfl, H.out, HG.out, Keep2.refl _ _ _⟩
/-- a list's numbers, one behind the other -/
theorem listS_succ (a b : Int) : ∀ (k : Nat) (s : Gr.Rs), Gr.listS a b (k + 1) s = ((Gr.listS a b k s).1 ++ [(Gr.numS a b (Gr.listS a b k s).2).1], (Gr.numS a b (Gr.listS a b k s).2).2)
  | 0, s => rfl
  | k + 1, s => by
    have ih := listS_succ a b k (Gr.numS a b s).2
    rw [Gr.listS, ih]
    rfl
theorem listS_len (a b : Int) : ∀ (k : Nat) (s : Gr.Rs), (Gr.listS a b k s).1.length = k ∧ (Gr.listS a b k s).2.1.length ≤ s.1.length
  | 0, s => ⟨rfl, Nat.le_refl _⟩
  | k + 1, s => by
    obtain ⟨h1, h2⟩ := listS_len a b k (Gr.numS a b s).2
    have h3 := numS_len a b s
    refine ⟨?_, ?_⟩
    · rw [Gr.listS, List.length_cons, h1]
    · rw [Gr.listS]
      exact Nat.le_trans h2 h3
theorem OwnAt.keep2 {α : Type} {base base0 A B : Nat} {e : TypeId} {k : Nat} {enc : α → List Value} {w w' : World} {v : Value} {l : List α} {s : Gr.Rs} (h : OwnAt base e k enc w v l) (hk : Keep2 A B w w') (hr : RdAt base0 A B w s) (h1 : e ≠ 185 := by decide) (h2 : e ≠ 214 := by decide) : OwnAt base e k enc w' v l :=
  OwnAt.same h fun b hb => by
    obtain ⟨_, cs, hc⟩ := OwnAt.block h hb
    refine hk.2 b (heap_lt hc) (fun q => ?_) fun q => ?_
    · subst q
      have := hr.2.1
      rw [hc] at this
      cases this
      exact h1 rfl
    · subst q
      have := hr.2.2.2
      rw [hc] at this
      cases this
      exact h2 rfl
theorem RdAt.app {α : Type} {base base0 A B : Nat} {e : TypeId} {k : Nat} {enc : α → List Value} {w0 W W' : World} {v v' : Value} {l l2 : List α} {s : Gr.Rs} (h : RdAt base A B W s) (ho : OwnAt base0 e k enc W v l) (hA : Appended w0 e k enc W v l2 v' W') (h1 : 185 ≠ e := by decide) (h2 : 214 ≠ e := by decide) : RdAt base A B W' s :=
  ⟨h.1, by rw [hA.2.2.2.1 A (heap_lt h.2.1) (OwnAt.other ho h.2.1 h1)]; exact h.2.1, h.2.2.1, by rw [hA.2.2.2.1 B (heap_lt h.2.2.2) (OwnAt.other ho h.2.2.2 h2)]; exact h.2.2.2⟩
theorem Keep2.app {α : Type} {e : TypeId} {k : Nat} {enc : α → List Value} {A B : Nat} {w0 w W W' : World} {v v' : Value} {l : List α} (hk : Keep2 A B w W) (hA : Appended w0 e k enc W v l v' W') (hi : ∀ q, v.ownBlock = some q → w.heap.size ≤ q) : Keep2 A B w W' ∧ ∀ q, v'.ownBlock = some q → w.heap.size ≤ q :=
  ⟨⟨Nat.le_trans hk.1 hA.2.2.1, fun q hq h1 h2 => (hA.2.2.2.1 q (Nat.lt_of_lt_of_le hq hk.1) fun h => by have := hi q h; omega).trans (hk.2 q hq h1 h2)⟩, fun q hq => by
    rcases hA.2.2.2.2 q hq with h | h
    · exact hi q h
    · exact Nat.le_trans hk.1 h⟩
/-- a list comes back in memory of the call's own -/
def RdList (w0 W : World) (A B : Nat) (l : List Int) (s : Gr.Rs) (e : Ending) (W' : World) : Prop := ∃ v, e = .returned v ∧ OwnAt W.heap.size 3 1 encN W' v l ∧ RdAt w0.heap.size A B W' s ∧ Grew w0 W' ∧ Keep2 A B W W'
set_option maxHeartbeats 4000000 in
theorem rdList_any (w0 : World) (A B : Nat) (s : Gr.Rs) (m a b : Int) (W : World) (h : RdAt w0.heap.size A B W s) (hg : Grew w0 W) (hs : s.1.length ≤ 1000000) (hm : 0 ≤ m) (hm2 : m ≤ 1000) :
    Calls Tryz.prog 141 #[.pointer (some ⟨A, 0, none⟩), .int .i64 m, .int .i64 a, .int .i64 b] W (RdList w0 W A B (Gr.listS a b (Gr.numS 0 m s).1.toNat (Gr.numS 0 m s).2).1 (Gr.listS a b (Gr.numS 0 m s).1.toNat (Gr.numS 0 m s).2).2) := by
  have hn := rdNum_any w0 A B s 0 m W h hg hs
  have hr := numS_range (a := 0) (b := m) s (by omega) hm
  have hl := numS_len 0 m s
  generalize Gr.numS 0 m s = r at *
  obtain ⟨n, s1⟩ := r
  simp only at hn hr hl ⊢
  obtain ⟨N, rfl⟩ : ∃ N : Nat, n = N := ⟨n.toNat, by omega⟩
  rw [Int.toNat_natCast]
  have HN := Lib.hid hn
  have hBlt := heap_lt h.2.2.2
  clear h hg hn
  go_enter Tryz.func141, Tryz.ntmps141
  go_wp2_with (go_at_call 113; refine HN.out.mono ?_; rintro e w1 ⟨rfl, hr1, hg1, hk1⟩; (have HR1 := Lib.hid hr1); (have HG1 := Lib.hid hg1); (have HK1 := Lib.hid hk1); clear hr1 hg1 hk1)
  go_loopg [9, 13] N (fun gg s9 s13 wr => ∃ (k : Nat) (vk : Value), k ≤ N ∧ N - k ≤ gg ∧ s13 = .int .i64 k ∧ vk = s9 ∧ Hid (OwnAt w0.heap.size 3 1 encN wr vk (Gr.listS a b k s1).1) ∧ Hid (RdAt w0.heap.size A B wr (Gr.listS a b k s1).2) ∧ Hid (Grew w0 wr) ∧ Hid (Keep2 A B W wr) ∧ Hid (∀ q, vk.ownBlock = some q → W.heap.size ≤ q))
  case atStart => exact ⟨0, _, Nat.zero_le _, by omega, rfl, rfl, Lib.hid (OwnAt.nil _), HR1, HG1, HK1, Lib.hid fun q h => by cases h⟩
  case round =>
    obtain ⟨k, vk, hk, hgg, rfl, rfl, HO, HR, HG, HK, HI⟩ := hrel
    obtain ⟨hl1, hl2⟩ := listS_len a b k s1
    by_cases hlt : k < N
    · have hsc := listS_succ a b k s1
      have hnum := rdNum_any w0 A B (Gr.listS a b k s1).2 a b wr HR.out HG.out (by omega)
      have HSC := Lib.hid hsc
      have HNUM := Lib.hid hnum
      obtain ⟨ak, ck, rfl⟩ := (HO.out.rows encN_len).len
      have HL1 := Lib.hid hl1
      clear hsc hnum hl1 hl2
      generalize Gr.numS a b (Gr.listS a b k s1).2 = y at *
      obtain ⟨y1, y2⟩ := y
      simp only at HNUM HSC
      generalize hLS : Gr.listS a b k s1 = LS at *
      have HLS := Lib.hid hLS
      clear hLS
      go_wp2_with (first
        | (go_at_call 113; refine HNUM.out.mono ?_; rintro e w2 ⟨rfl, hr2, hg2, hk2⟩; (have HR2 := Lib.hid hr2); (have HG2 := Lib.hid hg2); (have HK2 := Lib.hid hk2); (have HO2 := Lib.hid (OwnAt.keep2 HO.out hk2 HR.out)); clear hr2 hg2 hk2)
        | (at_builtin; go_loud (refine wpList_ownK (w0 := w0) rfl (.tmp 15) (.tmp 20) 40 _ _ _ _ [y1] rfl Tryz.underlying40 infoInt1 rfl (by decide) encN_len encN_one rfl (OwnAt.grew HO2.out (by repeat (first | with_reducible exact Grew.refl _ | apply Grew.more | apply Grew.alloc | apply Grew.drew | apply Grew.drewN))) (HG2.out.trans (by repeat (first | with_reducible exact Grew.refl _ | apply Grew.more | apply Grew.alloc | apply Grew.drew | apply Grew.drewN))) rfl (int_at _ _ _ _ rfl (by simp [go_sem])) (by rw [HL1.out]; simp; omega) (by decide) (by simp) ?_; intro v5 W5 hA; (have HA := Lib.hid hA); clear hA)))
      obtain ⟨q4, q5⟩ := Keep2.app (HK.out.trans (HK2.out.trans (Keep2.ofGrew (by repeat (first | with_reducible exact Grew.refl _ | apply Grew.more | apply Grew.alloc | apply Grew.drew | apply Grew.drewN))))) HA.out HI.out
      have q2 := RdAt.app (HR2.out.grew (by repeat (first | with_reducible exact Grew.refl _ | apply Grew.more | apply Grew.alloc | apply Grew.drew | apply Grew.drewN))) (OwnAt.grew HO2.out (by repeat (first | with_reducible exact Grew.refl _ | apply Grew.more | apply Grew.alloc | apply Grew.drew | apply Grew.drewN))) HA.out
      have Q2 := Lib.hid q2
      have Q4 := Lib.hid q4
      have Q5 := Lib.hid q5
      clear q2 q4 q5
      go_roundg (N - (k + 1))
      case measure => omega
      case rel => exact ⟨k + 1, _, by omega, by omega, by go_num, rfl, Lib.hid (by rw [HSC.out]; exact HA.out.2.1), Lib.hid (by rw [HSC.out]; exact Q2.out), Lib.hid HA.out.1, Q4, Q5⟩
    · obtain rfl : k = N := by omega
      obtain ⟨ak, ck, rfl⟩ := (HO.out.rows encN_len).len
      go_wp2
      go_ret
      exact ⟨_, rfl, OwnAt.up HO.out HI.out, HR.out, HG.out, HK.out⟩
end Go.Proofs.YtepfdekppnobaaaGreat
