import Derived.Test.YtmdmbimfdpngaaaGreatMs27
import Derived.Test.YtmdmbimfdpngaaaGreatMs8
/-! pack's reader: prog, end. -/
namespace Go.Proofs.YtmdmbimfdpngaaaGreat
set_option linter.unusedSimpArgs false
set_option linter.unusedVariables false
open Go.RowKit Ga
set_option maxRecDepth 100000

theorem RdAt.setOther {base A B C : Nat} {W : World} {s : Gr.Rs} {o : Nat} {v : Value} (h : RdAt base A B W s) (hA : C ≠ A) (hB : C ≠ B) : RdAt base A B (W.setCell ⟨C, o, none⟩ v) s :=
  ⟨h.1, by rw [set_other hA]; exact h.2.1, h.2.2.1, by rw [set_other hB]; exact h.2.2.2⟩
theorem OwnAt.setOther {α : Type} {base C : Nat} {e t : TypeId} {k : Nat} {enc : α → List Value} {W : World} {v x : Value} {l : List α} {o : Nat} {c : Array Value} {f : Nat × Nat} (h : OwnAt base e k enc W v l) (hC : W.heap[C]? = some (.cells c t f)) (ht : t ≠ e) : OwnAt base e k enc (W.setCell ⟨C, o, none⟩ x) v l :=
  OwnAt.same h fun b hb => set_other fun q => by
    subst q
    exact own_ne h hC ht hb
def RdProg (w0 W : World) (A B : Nat) (l : List Vm.Ins) (s : Gr.Rs) (e : Ending) (W' : World) : Prop := ∃ v, e = .returned v ∧ OwnAt W.heap.size 153 2 encI W' v l ∧ RdAt w0.heap.size A B W' s ∧ Grew w0 W' ∧ Keep2 A B W W'
set_option maxHeartbeats 4000000 in
theorem rdProg_any (w0 : World) (A B : Nat) (s : Gr.Rs) (W : World) (h : RdAt w0.heap.size A B W s) (hg : Grew w0 W) (hs : s.1.length ≤ 1000000) :
    Calls Tryz.prog 152 #[.pointer (some ⟨A, 0, none⟩)] W (RdProg w0 W A B (Gr.progS getL s).1 (Gr.progS getL s).2) := by
  have H := Lib.hid h
  have HG := Lib.hid hg
  have c0 := cell_of (o := 0) h.2.1
  have c1 := cell_of (o := 1) h.2.1
  have hpA := Pre.mk (heap_lt h.2.1)
  simp at c0 c1
  obtain ⟨z, x⟩ := s
  simp only at hs c1
  by_cases he : x = 0
  · subst he
    have hn : Gr.progS getL (z, 0) = ((getL z).1, ((getL z).2.2, (getL z).2.1)) := by unfold Gr.progS; rw [if_neg (by simp)]
    rw [hn]
    have hw := codeGet_keep w0 B z W h.2.2 hg hs
    generalize getL z = r at *
    obtain ⟨y, er, z'⟩ := r
    simp only at hw ⊢
    have HW := Lib.hid hw
    clear h hg hw hn
    go_enter Tryz.func152, Tryz.ntmps152
    go_wp2_with (go_at_call 183; refine HW.out.mono ?_; rintro e w1 ⟨v1, rfl, ho1, hr1, hg1, hk1⟩; simp only at ho1 hr1; obtain ⟨a1, cc1, rfl⟩ := (ho1.rows encI_len).len; obtain ⟨hA1, hR1⟩ := RdAt.put (e := er) H.out hr1 hk1; (have d1 := cell_of (o := 1) hA1); (have g1 := frozen_of (o := 1) hA1); (have pA1 := Pre.mk (heap_lt hA1)); simp at d1; (have HO1 := Lib.hid (OwnAt.setOther (o := 1) (x := .int .i64 er) ho1 hA1 (by decide))); (have HR1 := Lib.hid hR1); (have HG1 := Lib.hid hg1); (have HK1 := Lib.hid hk1); clear ho1 hr1 hg1 hk1 hA1 hR1)
    go_ret
    exact ⟨_, rfl, HO1.out, HR1.out, HG1.out.set H.out.1 _, (Keep2.ofKeep HK1.out).trans Keep2.set⟩
  · have hn : Gr.progS getL (z, x) = ([], (z, x)) := by unfold Gr.progS; rw [if_pos he]
    rw [hn]
    have he2 : (x != 0) = true := by rw [bne_iff_ne]; exact he
    clear h hg he hn
    go_enter Tryz.func152, Tryz.ntmps152
    go_wp2
    go_ret
    exact ⟨_, rfl, OwnAt.nil _, H.out, HG.out, Keep2.refl _ _ _⟩
/-- the error of all that was read -/
def endE (s : Gr.Rs) (fine : Bool) : Int := if s.2 ≠ 0 then s.2 else if decide (0 < s.1.length) || !fine then 4 else 0
set_option maxHeartbeats 4000000 in
theorem rdEnd_any (base A B : Nat) (s : Gr.Rs) (fine : Bool) (W : World) (h : RdAt base A B W s) :
    Calls Tryz.prog 128 #[.pointer (some ⟨A, 0, none⟩), .bool fine] W fun e w' => e = .returned (.int .i64 (endE s fine)) ∧ w' = W := by
  have c0 := cell_of (o := 0) h.2.1
  have c1 := cell_of (o := 1) h.2.1
  have hpA := Pre.mk (heap_lt h.2.1)
  simp at c0 c1
  obtain ⟨z, x⟩ := s
  simp only at c1
  have hL := octLeft_any base B z W h.2.2
  have HL := Lib.hid hL
  clear h hL
  by_cases he : x = 0
  · subst he
    by_cases hz : 0 < z.length
    · have hn : endE (z, 0) fine = 4 := by unfold endE; rw [if_neg (by simp)]; simp [hz]
      rw [hn]
      have hz' : (0 : Int) < (z.length : Int) := by omega
      clear hn
      go_enter Tryz.func128, Tryz.ntmps128
      go_wp2_with (go_at_call 153; refine HL.out.mono ?_; rintro e w1 ⟨rfl, rfl⟩)
      go_ret
      exact ⟨rfl, rfl⟩
    · have hz' : ¬ (0 : Int) < (z.length : Int) := by omega
      cases fine with
      | true =>
        have hn : endE (z, 0) true = 0 := by unfold endE; rw [if_neg (by simp)]; simp [hz]
        rw [hn]
        clear hn
        go_enter Tryz.func128, Tryz.ntmps128
        go_wp2_with (go_at_call 153; refine HL.out.mono ?_; rintro e w1 ⟨rfl, rfl⟩)
        go_ret
        exact ⟨rfl, rfl⟩
      | false =>
        have hn : endE (z, 0) false = 4 := by unfold endE; rw [if_neg (by simp)]; simp
        rw [hn]
        clear hn
        go_enter Tryz.func128, Tryz.ntmps128
        go_wp2_with (go_at_call 153; refine HL.out.mono ?_; rintro e w1 ⟨rfl, rfl⟩)
        go_ret
        exact ⟨rfl, rfl⟩
  · have he2 : (x != 0) = true := by rw [bne_iff_ne]; exact he
    have hn : endE (z, x) fine = x := by unfold endE; rw [if_pos he]
    rw [hn]
    clear hn he
    go_enter Tryz.func128, Tryz.ntmps128
    go_wp2
    go_ret
    exact ⟨rfl, rfl⟩
end Go.Proofs.YtmdmbimfdpngaaaGreat

/-! A program's bytes: what is put is got, what is got was put. -/
namespace Go.Proofs.YtmdmbimfdpngaaaGreat
set_option linter.unusedSimpArgs false
set_option linter.unusedVariables false
open Go.RowKit Ga
set_option maxRecDepth 100000

theorem cd_be {n a b : Int} (t : List UInt8) (hf : Oc.fitsN n = true) (h1 : a ≤ n) (h2 : n ≤ b) : within (Oc.be n ++ t) a b = (n, 0, t) := Gr.wn_put h1 h2 hf t
theorem cd_numR {n : Int} (t : List UInt8) (hf : Oc.fitsN n = true) : numR (Oc.be n ++ t) = (n, 0, t) := by
  have h := hf
  unfold Oc.fitsN at h
  simp only [Bool.and_eq_true, decide_eq_true_eq] at h
  exact cd_be t hf h.1 h.2
theorem cd_nums (x y : Int) (l : List Val) (s : List UInt8) : Oc.bes (nums ((x, y) :: l)) ++ s = Oc.be x ++ (Oc.be y ++ (Oc.bes (nums l) ++ s)) := by
  have : nums ((x, y) :: l) = [x] ++ ([y] ++ nums l) := rfl
  rw [this, Oc.bes_append, Oc.bes_append]
  have e1 : ∀ z, Oc.bes [z] = Oc.be z := fun z => by unfold Oc.bes; simp
  rw [e1, e1]
  simp only [List.append_assoc]
theorem cd_readL_put : ∀ (l : List Val) (s : List UInt8) (acc : List Val), (∀ i ∈ l, Co.rightI i = true) → readL l.length (Oc.bes (nums l) ++ s) acc = (acc ++ l, 0, s)
  | [], s, acc, _ => by show readL 0 s acc = _; rw [readL, List.append_nil]
  | (x, y) :: l, s, acc, h => by
    have hr := h (x, y) List.mem_cons_self
    obtain ⟨fx, fy⟩ := right_fitsN hr
    obtain ⟨x0, x1, _, _⟩ := Co.right_parts hr
    simp only at x0 x1
    rw [cd_nums, List.length_cons, readL_ok (cd_be _ fx x0 (by omega)) (cd_numR _ fy), cd_readL_put l s _ fun i hi => h i (List.mem_cons_of_mem _ hi)]
    simp
theorem cd_put {l : List Val} (h : Co.fitsI l = true) (s : List UInt8) : getL (putI l ++ s) = (l, 0, s) := by
  obtain ⟨h24, hr⟩ := Co.fits_parts h
  have hf : Oc.fitsN (l.length : Int) = true := by unfold Oc.fitsN; simp; omega
  have e : putI l ++ s = Oc.be l.length ++ (Oc.bes (nums l) ++ s) := by unfold putI; simp only [List.append_assoc]
  have hw : within (putI l ++ s) 0 24 = ((l.length : Int), 0, Oc.bes (nums l) ++ s) := by rw [e]; exact cd_be _ hf (by omega) (by omega)
  rw [getL_fit hw (cd_readL_put l s [] hr), List.nil_append, h, if_pos rfl]
theorem cd_readL_len : ∀ (n : Nat) (s : List UInt8) (acc : List Val), (readL n s acc).2.2.length ≤ s.length
  | 0, s, acc => Nat.le_refl _
  | n + 1, s, acc => by
    have h1 := within_len s 0 17
    have h2 : (numR (within s 0 17).2.2).2.2.length ≤ (within s 0 17).2.2.length := within_len _ _ _
    rw [readL]
    split
    · exact h1
    · split
      · exact Nat.le_trans h2 h1
      · exact Nat.le_trans (cd_readL_len n _ _) (Nat.le_trans h2 h1)
theorem cd_len (s : List UInt8) : (getL s).2.2.length ≤ s.length := by
  have h1 := within_len s 0 24
  have h2 := cd_readL_len (within s 0 24).1.toNat (within s 0 24).2.2 []
  unfold getL
  split
  · exact h1
  · split
    · exact Nat.le_trans h2 h1
    · split
      · exact Nat.le_trans h2 h1
      · exact Nat.le_trans h2 h1
theorem cd_readL_can : ∀ (n : Nat) (s : List UInt8) (acc r : List Val) (t : List UInt8), readL n s acc = (r, 0, t) → ∃ l, r = acc ++ l ∧ l.length = n ∧ s = Oc.bes (nums l) ++ t
  | 0, s, acc, r, t, h => by
    rw [readL] at h
    cases h
    exact ⟨[], by simp, rfl, rfl⟩
  | n + 1, s, acc, r, t, h => by
    rw [readL] at h
    obtain ⟨x, e1, s1, hx⟩ : ∃ x e1 s1, within s 0 17 = (x, e1, s1) := ⟨_, _, _, rfl⟩
    rw [hx] at h
    simp only at h
    by_cases h1 : e1 = 0
    · subst h1
      rw [if_neg (by simp)] at h
      obtain ⟨y, e2, s2, hy⟩ : ∃ y e2 s2, numR s1 = (y, e2, s2) := ⟨_, _, _, rfl⟩
      rw [hy] at h
      simp only at h
      by_cases h2 : e2 = 0
      · subst h2
        rw [if_neg (by simp)] at h
        obtain ⟨l, h3, h4, h5⟩ := cd_readL_can n s2 _ r t h
        obtain ⟨q1, -, -⟩ := Gr.wn_can (a := 0) (b := 17) hx
        obtain ⟨q2, -, -⟩ := Gr.wn_can (a := -2147483648) (b := 2147483647) hy
        refine ⟨(x, y) :: l, by rw [h3]; simp, by rw [List.length_cons, h4], ?_⟩
        rw [cd_nums, q1, q2, h5]
      · rw [if_pos h2] at h
        cases h
        exact absurd rfl h2
    · rw [if_pos h1] at h
      cases h
      exact absurd rfl h1
theorem cd_can {s : List UInt8} {l : List Val} {t : List UInt8} (h : getL s = (l, 0, t)) : s = putI l ++ t ∧ Co.fitsI l = true := by
  unfold getL at h
  obtain ⟨n, e1, s1, hx⟩ : ∃ n e1 s1, within s 0 24 = (n, e1, s1) := ⟨_, _, _, rfl⟩
  rw [hx] at h
  simp only at h
  by_cases h1 : e1 = 0
  · subst h1
    rw [if_neg (by simp)] at h
    obtain ⟨r, e2, t2, hr⟩ : ∃ r e2 t2, readL n.toNat s1 [] = (r, e2, t2) := ⟨_, _, _, rfl⟩
    rw [hr] at h
    simp only at h
    by_cases h2 : e2 = 0
    · subst h2
      rw [if_neg (by simp)] at h
      by_cases h3 : Co.fitsI r = true
      · rw [if_pos h3] at h
        cases h
        obtain ⟨l2, h4, h5, h6⟩ := cd_readL_can _ _ _ _ _ hr
        rw [List.nil_append] at h4
        subst h4
        obtain ⟨q1, q2, q3⟩ := Gr.wn_can (a := 0) (b := 24) hx
        refine ⟨?_, h3⟩
        unfold putI
        rw [q1, h6, show (l.length : Int) = n by omega, List.append_assoc]
      · rw [if_neg h3] at h
        cases h
    · rw [if_pos h2] at h
      cases h
      exact absurd rfl h2
  · rw [if_pos h1] at h
    cases h
    exact absurd rfl h1
theorem codecI : Gr.Codec getL putI (fun p => Co.fitsI p = true) := ⟨fun l t h => cd_put h t, fun s l t h => cd_can h⟩
theorem progS_len (s : Gr.Rs) : (Gr.progS getL s).2.1.length ≤ s.1.length := by
  unfold Gr.progS
  split
  · exact Nat.le_refl _
  · exact cd_len _
end Go.Proofs.YtmdmbimfdpngaaaGreat
