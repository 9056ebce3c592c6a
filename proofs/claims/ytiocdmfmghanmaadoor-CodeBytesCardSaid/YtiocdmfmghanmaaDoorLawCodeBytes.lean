import Derived.Test.YtiocdmfmghanmaaDoorCodeRefGet
import Derived.Test.YtiocdmfmghanmaaDoorLawCodeTexts
/-! The law CodeBytes, walked. -/
namespace Go.Proofs.YtiocdmfmghanmaaDoor
set_option linter.unusedSimpArgs false
set_option linter.unusedVariables false
open Go.RowKit Ga
set_option maxRecDepth 100000

theorem within_be {n a b : Int} (t : List UInt8) (hf : Oc.fitsN n = true) (h1 : a ≤ n) (h2 : n ≤ b) : within (Oc.be n ++ t) a b = (n, 0, t) := by
  have hl : ¬ (Oc.be n ++ t).length < 4 := by rw [List.length_append, Oc.be_len]; omega
  have hn := Oc.num_be n hf t
  rw [within_in hl (by rw [hn]; omega), hn]
  rfl
theorem numR_be {n : Int} (t : List UInt8) (hf : Oc.fitsN n = true) : numR (Oc.be n ++ t) = (n, 0, t) := by
  have h := hf
  unfold Oc.fitsN at h
  simp only [Bool.and_eq_true, decide_eq_true_eq] at h
  exact within_be t hf h.1 h.2
theorem readL_put : ∀ (l : List Val) (s : List UInt8) (acc : List Val), (∀ i ∈ l, Co.rightI i = true) → readL l.length (Oc.bes (nums l) ++ s) acc = (acc ++ l, 0, s)
  | [], s, acc, _ => by show readL 0 s acc = _; rw [readL, List.append_nil]
  | (x, y) :: l, s, acc, h => by
    have hr := h (x, y) List.mem_cons_self
    obtain ⟨fx, fy⟩ := right_fitsN hr
    obtain ⟨x0, x1, _, _⟩ := Co.right_parts hr
    simp only at x0 x1
    have e : Oc.bes (nums ((x, y) :: l)) ++ s = Oc.be x ++ (Oc.be y ++ (Oc.bes (nums l) ++ s)) := by
      have : nums ((x, y) :: l) = [x] ++ ([y] ++ nums l) := rfl
      rw [this, Oc.bes_append, Oc.bes_append]
      have e1 : ∀ z, Oc.bes [z] = Oc.be z := fun z => by unfold Oc.bes; simp
      rw [e1, e1]
      simp only [List.append_assoc]
    rw [e, List.length_cons, readL_ok (within_be _ fx x0 (by omega)) (numR_be _ fy), readL_put l s _ fun i hi => h i (List.mem_cons_of_mem _ hi)]
    simp
theorem get_put {l : List Val} (h : Co.fitsI l = true) (s : List UInt8) : getL (putI l ++ s) = (l, 0, s) := by
  obtain ⟨h24, hr⟩ := Co.fits_parts h
  have hf : Oc.fitsN (l.length : Int) = true := by unfold Oc.fitsN; simp; omega
  have e : putI l ++ s = Oc.be l.length ++ (Oc.bes (nums l) ++ s) := by unfold putI; simp only [List.append_assoc]
  have hw : within (putI l ++ s) 0 24 = ((l.length : Int), 0, Oc.bes (nums l) ++ s) := by rw [e]; exact within_be _ hf (by omega) (by omega)
  rw [getL_fit hw (readL_put l s [] hr), List.nil_append, h, if_pos rfl]
theorem putI_len (l : List Val) : (putI l).length = 4 + l.length * 8 := by
  unfold putI
  rw [List.length_append, Oc.be_len, Oc.bes_len, nums_len]; omega

theorem writer_new (w W : World) (g : Grew w W) (b : Nat) (hb : b = W.heap.size) : WriterAt w.heap.size b (W.alloc (.cells #[.slice none 0 0] 46)) (.slice none 0 0) [] := by
  subst hb
  exact ⟨g.below.size, heap_new_at W _ _ rfl, OwnAt.nil _⟩
theorem reader_new (W : World) (s : List UInt8) : ReaderAt W.heap.size W.heap.size (W.alloc (.cells #[.string ⟨s.toArray⟩] 90)) s :=
  ⟨Nat.le_refl _, heap_new_at W _ _ rfl⟩

theorem readL_len : ∀ (n : Nat) (s : List UInt8) (acc : List Val), (readL n s acc).2.2.length ≤ s.length
  | 0, s, acc => Nat.le_refl _
  | n + 1, s, acc => by
    have h1 := within_len s 0 17
    have h2 : (numR (within s 0 17).2.2).2.2.length ≤ (within s 0 17).2.2.length := within_len _ _ _
    rw [readL]
    split
    · exact h1
    · split
      · exact Nat.le_trans h2 h1
      · exact Nat.le_trans (readL_len n _ _) (Nat.le_trans h2 h1)
theorem getL_len (s : List UInt8) : (getL s).2.2.length ≤ s.length := by
  have h1 := within_len s 0 24
  have h2 := readL_len (within s 0 24).1.toNat (within s 0 24).2.2 []
  unfold getL
  split
  · exact h1
  · split
    · exact Nat.le_trans h2 h1
    · split
      · exact Nat.le_trans h2 h1
      · exact Nat.le_trans h2 h1
theorem reader_new' (W : World) (s : List UInt8) (b : Nat) (hb : b = W.heap.size) : ReaderAt W.heap.size b (W.alloc (.cells #[.string ⟨s.toArray⟩] 90)) s := by
  subst hb; exact reader_new W s

set_option maxHeartbeats 8000000 in
theorem codeBytes_any (v : Value) (l : List Val) (s : List UInt8) (w : World) (hv : ValsAt w v l) (h : Env4 w) :
    Calls Tryd.prog 7 #[v, .string ⟨s.toArray⟩] w (Gives (.bool true) w) := by
  obtain ⟨a, cap, rfl, hm, -⟩ := hv.open2
  have HV := Lib.hid hv
  have HE := Lib.hid h
  clear hv h
  have hsz : (⟨s.toArray⟩ : ByteArray).size = s.length := rfl
  by_cases h60 : l.length ≤ 60 ∧ s.length ≤ 1000
  · obtain ⟨h6, h10⟩ := h60
    have htl := getL_len s
    obtain ⟨q, c, t, hq⟩ : ∃ q c t, getL s = (q, c, t) := ⟨_, _, _, rfl⟩
    rw [hq] at htl
    simp only at htl
    have htl2 : t.length ≤ 1000 := by omega
    have HQ := Lib.hid hq
    clear hq
    cases hf : Co.fitsI l
    · have HF := Lib.hid hf
      clear hf
      go_enter Tryd.func7, Tryd.ntmps7
      go_wp2_with (first
        | (go_at_call 17; refine (awake04_any _ (HE.out.grew (by repeat (first | with_reducible exact Grew.refl _ | apply Grew.more | apply Grew.alloc | apply Grew.drew | apply Grew.drewN)))).mono ?_; rintro e w1 ⟨rfl, Ra, na, rfl⟩)
        | (go_at_call 26; ((with_reducible refine (codePut_nil _ _).mono ?_); rintro e w1 ⟨rfl, rfl⟩))
        | (go_at_call 26; ((with_reducible refine (codePut_no w _ _ _ l (by repeat (first | with_reducible exact Grew.refl _ | apply Grew.more | apply Grew.alloc | apply Grew.drew | apply Grew.drewN)) (HV.out.grew (by repeat (first | with_reducible exact Grew.refl _ | apply Grew.more | apply Grew.alloc | apply Grew.drew | apply Grew.drewN))) HF.out).mono ?_); rintro e w1 ⟨rfl, R3, n3, rfl⟩))
        | (go_at_call 20; refine (refFits_any _ l _ (HV.out.grew (by repeat (first | with_reducible exact Grew.refl _ | apply Grew.more | apply Grew.alloc | apply Grew.drew | apply Grew.drewN)))).mono ?_; rintro e w1 ⟨rfl, R5, n5, rfl⟩; rw [HF.out])
        | (go_at_call 27; refine (octOut_any w.heap.size _ _ [] _ ((writer_new w (w.more Ra na) ⟨Ra, na, rfl⟩ _ (by simp [go_sem])).grew (by repeat (first | with_reducible exact Grew.refl _ | apply Grew.more | apply Grew.alloc | apply Grew.drew | apply Grew.drewN))) (by simp)).mono ?_; rintro e w1 ⟨rfl, R4, n4, rfl⟩)
        )
      by_cases hc : c = 0
      · subst hc
        go_wp2_with (first
          | (go_at_call 28; refine (octNew_any s _).mono ?_; rintro e w1 ⟨rfl, rfl⟩)
          | (go_at_call 29; ((with_reducible refine (codeGet_any _ _ s _ (reader_new' _ _ _ (by simp [go_sem])) ((Grew.refl _).alloc _) (by omega)).mono ?_); rintro e w1 ⟨v5, rfl, hv5, hr5, Rb, nb, rfl⟩; rw [HQ.out] at hv5 hr5 ⊢; (have HV5 : Hid (ValsAt _ v5 q) := Lib.hid hv5); (have HR5 := Lib.hid hr5); clear hv5 hr5))
          | (go_at_call 32; refine (refGet04_any s (by omega) _).mono ?_; rintro e w1 ⟨v6, at6, rfl, hv6, hat6, Rc, nc, rfl⟩; rw [HQ.out] at hv6 hat6 ⊢; (have HV6 : Hid (ValsAt _ v6 q) := Lib.hid hv6); (have hsub : (s.length : Int) - at6 = t.length := by have := hat6 rfl; simp only at this; omega); clear hv6 hat6)
          | (go_at_call 25; refine (refSame_any _ _ q q _ (HV5.out.grew (by repeat (first | with_reducible exact Grew.refl _ | apply Grew.more | apply Grew.alloc | apply Grew.drew | apply Grew.drewN))) (HV6.out.grew (by repeat (first | with_reducible exact Grew.refl _ | apply Grew.more | apply Grew.alloc | apply Grew.drew | apply Grew.drewN)))).mono ?_; rintro e w1 ⟨rfl, Rd, nd, rfl⟩)
          | (go_at_call 31; refine (octLeft_any _ _ t _ (HR5.out.grew (by repeat (first | with_reducible exact Grew.refl _ | apply Grew.more | apply Grew.alloc | apply Grew.drew | apply Grew.drewN)))).mono ?_; rintro e w1 ⟨rfl, rfl⟩)
          )
        all_goals
          go_ret
          refine ⟨rfl, ?_⟩
          repeat (first | with_reducible exact Grew.refl _ | apply Grew.more | apply Grew.alloc | apply Grew.drew | apply Grew.drewN)
      · have hcn : (c != 0) = true := by rw [bne_iff_ne]; exact hc
        clear hc
        go_wp2_with (first
          | (go_at_call 28; refine (octNew_any s _).mono ?_; rintro e w1 ⟨rfl, rfl⟩)
          | (go_at_call 29; ((with_reducible refine (codeGet_any _ _ s _ (reader_new' _ _ _ (by simp [go_sem])) ((Grew.refl _).alloc _) (by omega)).mono ?_); rintro e w1 ⟨v5, rfl, hv5, hr5, Rb, nb, rfl⟩; rw [HQ.out] at hv5 hr5 ⊢; (have HV5 : Hid (ValsAt _ v5 q) := Lib.hid hv5); (have HR5 := Lib.hid hr5); clear hv5 hr5))
          | (go_at_call 32; refine (refGet04_any s (by omega) _).mono ?_; rintro e w1 ⟨v6, at6, rfl, hv6, hat6, Rc, nc, rfl⟩; rw [HQ.out] at hv6 hat6 ⊢; (have HV6 : Hid (ValsAt _ v6 q) := Lib.hid hv6); skip; clear hv6 hat6)
          | (go_at_call 25; refine (refSame_any _ _ q q _ (HV5.out.grew (by repeat (first | with_reducible exact Grew.refl _ | apply Grew.more | apply Grew.alloc | apply Grew.drew | apply Grew.drewN))) (HV6.out.grew (by repeat (first | with_reducible exact Grew.refl _ | apply Grew.more | apply Grew.alloc | apply Grew.drew | apply Grew.drewN)))).mono ?_; rintro e w1 ⟨rfl, Rd, nd, rfl⟩)
          | (go_at_call 31; refine (octLeft_any _ _ t _ (HR5.out.grew (by repeat (first | with_reducible exact Grew.refl _ | apply Grew.more | apply Grew.alloc | apply Grew.drew | apply Grew.drewN)))).mono ?_; rintro e w1 ⟨rfl, rfl⟩)
          )
        all_goals
          go_ret
          refine ⟨rfl, ?_⟩
          repeat (first | with_reducible exact Grew.refl _ | apply Grew.more | apply Grew.alloc | apply Grew.drew | apply Grew.drewN)
    · have hgp := get_put hf s
      have hpl := putI_len l
      have h24 := (Co.fits_parts hf).1
      have hpl2 : (putI l).length ≤ 500 := by omega
      have HGP := Lib.hid hgp
      have HF := Lib.hid hf
      clear hf hgp hpl
      go_enter Tryd.func7, Tryd.ntmps7
      go_wp2_with (first
        | (go_at_call 17; refine (awake04_any _ (HE.out.grew (by repeat (first | with_reducible exact Grew.refl _ | apply Grew.more | apply Grew.alloc | apply Grew.drew | apply Grew.drewN)))).mono ?_; rintro e w1 ⟨rfl, Ra, na, rfl⟩)
        | (go_at_call 26; ((with_reducible refine (codePut_nil _ _).mono ?_); rintro e w1 ⟨rfl, rfl⟩))
        | (go_at_call 26; ((refine (codePut_any w _ _ _ [] _ l (writer_new w (w.more Ra na) ⟨Ra, na, rfl⟩ _ (by simp [go_sem])) (by repeat (first | with_reducible exact Grew.refl _ | apply Grew.more | apply Grew.alloc | apply Grew.drew | apply Grew.drewN)) HV.out HF.out (by simp)).mono ?_); rintro e w1 ⟨rfl, ⟨R3, n3, rfl⟩, vb3, hw3⟩; rw [List.nil_append] at hw3; (have HW3 := Lib.hid hw3); clear hw3))
        | (go_at_call 20; refine (refFits_any _ l _ (HV.out.grew (by repeat (first | with_reducible exact Grew.refl _ | apply Grew.more | apply Grew.alloc | apply Grew.drew | apply Grew.drewN)))).mono ?_; rintro e w1 ⟨rfl, R5, n5, rfl⟩; rw [HF.out])
        | (go_at_call 27; refine (octOut_any w.heap.size _ vb3 (putI l) _ (HW3.out.grew (by repeat (first | with_reducible exact Grew.refl _ | apply Grew.more | apply Grew.alloc | apply Grew.drew | apply Grew.drewN))) (by omega)).mono ?_; rintro e w1 ⟨rfl, R4, n4, rfl⟩)
        | (go_at_call 28; rw [str_cat]; refine (octNew_any (putI l ++ s) _).mono ?_; rintro e w1 ⟨rfl, rfl⟩)
        | (go_at_call 29; ((with_reducible refine (codeGet_any _ _ (putI l ++ s) _ (reader_new' _ _ _ (by simp [go_sem])) ((Grew.refl _).alloc _) (by rw [List.length_append]; omega)).mono ?_); rintro e w1 ⟨v7, rfl, hv7, hr7, R7, n7, rfl⟩; rw [HGP.out] at hv7 hr7 ⊢; (have HV7 : Hid (ValsAt _ v7 l) := Lib.hid hv7); (have HR7 := Lib.hid hr7); clear hv7 hr7))
        | (go_at_call 30; refine (refPut04_any _ l _ (HV.out.grew (by repeat (first | with_reducible exact Grew.refl _ | apply Grew.more | apply Grew.alloc | apply Grew.drew | apply Grew.drewN))) HF.out).mono ?_; rintro e w1 ⟨rfl, R8, n8, rfl⟩)
        | (go_at_call 25; refine (refSame_any _ _ l l _ (HV.out.grew (by repeat (first | with_reducible exact Grew.refl _ | apply Grew.more | apply Grew.alloc | apply Grew.drew | apply Grew.drewN))) (HV7.out.grew (by repeat (first | with_reducible exact Grew.refl _ | apply Grew.more | apply Grew.alloc | apply Grew.drew | apply Grew.drewN)))).mono ?_; rintro e w1 ⟨rfl, R9, n9, rfl⟩)
        | (go_at_call 31; refine (octLeft_any _ _ s _ (HR7.out.grew (by repeat (first | with_reducible exact Grew.refl _ | apply Grew.more | apply Grew.alloc | apply Grew.drew | apply Grew.drewN)))).mono ?_; rintro e w1 ⟨rfl, rfl⟩)
        )
      by_cases hc : c = 0
      · subst hc
        go_wp2_with (first
          | (go_at_call 28; refine (octNew_any s _).mono ?_; rintro e w1 ⟨rfl, rfl⟩)
          | (go_at_call 29; ((with_reducible refine (codeGet_any _ _ s _ (reader_new' _ _ _ (by simp [go_sem])) ((Grew.refl _).alloc _) (by omega)).mono ?_); rintro e w1 ⟨v5, rfl, hv5, hr5, Rb, nb, rfl⟩; rw [HQ.out] at hv5 hr5 ⊢; (have HV5 : Hid (ValsAt _ v5 q) := Lib.hid hv5); (have HR5 := Lib.hid hr5); clear hv5 hr5))
          | (go_at_call 32; refine (refGet04_any s (by omega) _).mono ?_; rintro e w1 ⟨v6, at6, rfl, hv6, hat6, Rc, nc, rfl⟩; rw [HQ.out] at hv6 hat6 ⊢; (have HV6 : Hid (ValsAt _ v6 q) := Lib.hid hv6); (have hsub : (s.length : Int) - at6 = t.length := by have := hat6 rfl; simp only at this; omega); clear hv6 hat6)
          | (go_at_call 25; refine (refSame_any _ _ q q _ (HV5.out.grew (by repeat (first | with_reducible exact Grew.refl _ | apply Grew.more | apply Grew.alloc | apply Grew.drew | apply Grew.drewN))) (HV6.out.grew (by repeat (first | with_reducible exact Grew.refl _ | apply Grew.more | apply Grew.alloc | apply Grew.drew | apply Grew.drewN)))).mono ?_; rintro e w1 ⟨rfl, Rd, nd, rfl⟩)
          | (go_at_call 31; refine (octLeft_any _ _ t _ (HR5.out.grew (by repeat (first | with_reducible exact Grew.refl _ | apply Grew.more | apply Grew.alloc | apply Grew.drew | apply Grew.drewN)))).mono ?_; rintro e w1 ⟨rfl, rfl⟩)
          )
        all_goals
          go_ret
          refine ⟨rfl, ?_⟩
          repeat (first | with_reducible exact Grew.refl _ | apply Grew.more | apply Grew.alloc | apply Grew.drew | apply Grew.drewN)
      · have hcn : (c != 0) = true := by rw [bne_iff_ne]; exact hc
        clear hc
        go_wp2_with (first
          | (go_at_call 28; refine (octNew_any s _).mono ?_; rintro e w1 ⟨rfl, rfl⟩)
          | (go_at_call 29; ((with_reducible refine (codeGet_any _ _ s _ (reader_new' _ _ _ (by simp [go_sem])) ((Grew.refl _).alloc _) (by omega)).mono ?_); rintro e w1 ⟨v5, rfl, hv5, hr5, Rb, nb, rfl⟩; rw [HQ.out] at hv5 hr5 ⊢; (have HV5 : Hid (ValsAt _ v5 q) := Lib.hid hv5); (have HR5 := Lib.hid hr5); clear hv5 hr5))
          | (go_at_call 32; refine (refGet04_any s (by omega) _).mono ?_; rintro e w1 ⟨v6, at6, rfl, hv6, hat6, Rc, nc, rfl⟩; rw [HQ.out] at hv6 hat6 ⊢; (have HV6 : Hid (ValsAt _ v6 q) := Lib.hid hv6); skip; clear hv6 hat6)
          | (go_at_call 25; refine (refSame_any _ _ q q _ (HV5.out.grew (by repeat (first | with_reducible exact Grew.refl _ | apply Grew.more | apply Grew.alloc | apply Grew.drew | apply Grew.drewN))) (HV6.out.grew (by repeat (first | with_reducible exact Grew.refl _ | apply Grew.more | apply Grew.alloc | apply Grew.drew | apply Grew.drewN)))).mono ?_; rintro e w1 ⟨rfl, Rd, nd, rfl⟩)
          | (go_at_call 31; refine (octLeft_any _ _ t _ (HR5.out.grew (by repeat (first | with_reducible exact Grew.refl _ | apply Grew.more | apply Grew.alloc | apply Grew.drew | apply Grew.drewN)))).mono ?_; rintro e w1 ⟨rfl, rfl⟩)
          )
        all_goals
          go_ret
          refine ⟨rfl, ?_⟩
          repeat (first | with_reducible exact Grew.refl _ | apply Grew.more | apply Grew.alloc | apply Grew.drew | apply Grew.drewN)
  · by_cases h6 : l.length ≤ 60
    · have h10 : 1000 < s.length := by omega
      go_enter Tryd.func7, Tryd.ntmps7
      go_wp2_with (go_at_call 17; refine (awake04_any _ (HE.out.grew (by repeat (first | with_reducible exact Grew.refl _ | apply Grew.more | apply Grew.alloc | apply Grew.drew | apply Grew.drewN)))).mono ?_; rintro e w1 ⟨rfl, Ra, na, rfl⟩)
      all_goals
        go_ret
        refine ⟨rfl, ?_⟩
        repeat (first | with_reducible exact Grew.refl _ | apply Grew.more | apply Grew.alloc | apply Grew.drew | apply Grew.drewN)
    · go_enter Tryd.func7, Tryd.ntmps7
      go_wp2_with (go_at_call 17; refine (awake04_any _ (HE.out.grew (by repeat (first | with_reducible exact Grew.refl _ | apply Grew.more | apply Grew.alloc | apply Grew.drew | apply Grew.drewN)))).mono ?_; rintro e w1 ⟨rfl, Ra, na, rfl⟩)
      all_goals
        go_ret
        refine ⟨rfl, ?_⟩
        repeat (first | with_reducible exact Grew.refl _ | apply Grew.more | apply Grew.alloc | apply Grew.drew | apply Grew.drewN)
end Go.Proofs.YtiocdmfmghanmaaDoor
