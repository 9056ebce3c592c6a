import Derived.Test.YtangapokicnfgaaGreatMr46
import Derived.Test.YtangapokicnfgaaGreatMr26
import Derived.Test.YtangapokicnfgaaGreatMr9
import Derived.Test.YtangapokicnfgaaGreatMr25
import Derived.Test.YtangapokicnfgaaGreatMr30
import Derived.Test.YtangapokicnfgaaGreatMr32
import Derived.Test.YtangapokicnfgaaGreatMr45
/-! pack's reader: val; plain laws of what a reader reads. -/
namespace Go.Proofs.YtangapokicnfgaaGreat
set_option linter.unusedSimpArgs false
set_option linter.unusedVariables false
open Go.RowKit Ga
set_option maxRecDepth 100000

theorem pairS_eq {α β : Type} {ra : Gr.Rs → α × Gr.Rs} {rb : Gr.Rs → β × Gr.Rs} {s t u : Gr.Rs} {x : α} {y : β} (h1 : ra s = (x, t)) (h2 : rb t = (y, u)) : Gr.pairS ra rb s = ((x, y), u) := by
  unfold Gr.pairS
  rw [h1]
  simp only
  rw [h2]
theorem valS_eq {s t u : Gr.Rs} {x y : Int} (h1 : Gr.numS (-2147483648) 2147483647 s = (x, t)) (h2 : Gr.numS (-2147483648) 2147483647 t = (y, u)) : Gr.valS s = ((x, y), u) := pairS_eq h1 h2
theorem valS_len (s : Gr.Rs) : (Gr.valS s).2.1.length ≤ s.1.length := by
  have h1 := numS_len (-2147483648) 2147483647 s
  have h2 := numS_len (-2147483648) 2147483647 (Gr.numS (-2147483648) 2147483647 s).2
  exact Nat.le_trans h2 h1
set_option maxHeartbeats 4000000 in
theorem rdVal_any (w0 : World) (A B : Nat) (s : Gr.Rs) (W : World) (h : RdAt w0.heap.size A B W s) (hg : Grew w0 W) (hs : s.1.length ≤ 1000000) :
    Calls Tryz.prog 65 #[.pointer (some ⟨A, 0, none⟩)] W (RdPost w0 W A B (.agg #[.int .i64 (Gr.valS s).1.1, .int .i64 (Gr.valS s).1.2]) (Gr.valS s).2) := by
  have n1 := fun W h g => rdNum_any w0 A B s (-2147483648) 2147483647 W h g hs
  have z1 := numS_len (-2147483648) 2147483647 s
  obtain ⟨x, sa, e1⟩ : ∃ x t, Gr.numS (-2147483648) 2147483647 s = (x, t) := ⟨_, _, rfl⟩
  rw [e1] at n1 z1
  simp only at z1
  have n2 := fun W h g => rdNum_any w0 A B sa (-2147483648) 2147483647 W h g (by omega)
  obtain ⟨y, sb, e2⟩ : ∃ x t, Gr.numS (-2147483648) 2147483647 sa = (x, t) := ⟨_, _, rfl⟩
  rw [e2] at n2
  rw [valS_eq e1 e2]
  simp only at n1 n2 ⊢
  have N1 := Lib.hid n1
  have N2 := Lib.hid n2
  have H := Lib.hid h
  have HG := Lib.hid hg
  have hAl := heap_lt h.2.1
  have hBl := heap_lt h.2.2.2
  have hWl := hg.below.size
  clear n1 n2 e1 e2 h hg
  go_enter Tryz.func65, Tryz.ntmps65
  have H5 := Lib.hid (heap_new_at W (.cells #[.int .i64 0, .int .i64 0] 94) _ rfl)
  go_wp2_with fail
  refine (N1.out _ (H.out.grew (by repeat (first | with_reducible exact Grew.refl _ | apply Grew.more | apply Grew.alloc | apply Grew.drew | apply Grew.drewN))) (HG.out.trans (by repeat (first | with_reducible exact Grew.refl _ | apply Grew.more | apply Grew.alloc | apply Grew.drew | apply Grew.drewN)))).mono ?_
  rintro e W1 ⟨rfl, r1, g1, k1⟩
  have R1 := Lib.hid r1
  have G1 := Lib.hid g1
  have K1 := Lib.hid k1
  clear r1 g1 k1
  go_wp2_with fail
  refine (N2.out _ R1.out G1.out).mono ?_
  rintro e W2 ⟨rfl, r2, g2, k2⟩
  have R2 := Lib.hid r2
  have G2 := Lib.hid g2
  have K2 := Lib.hid (K1.out.trans k2)
  clear r2 g2 k2
  have h5 := K2.out.2 W.heap.size (by rw [World.size_alloc]; omega) (by omega) (by omega)
  rw [H5.out] at h5
  have q0 := cell_of (o := 0) h5
  have f0 := frozen_of (o := 0) h5
  have q1 := cell_of (o := 1) h5
  have f1 := frozen_of (o := 1) h5
  simp at q0 q1
  have p3 := Pre.mk (heap_lt h5)
  go_wp2_with fail
  have hT1 := set_self (o := 0) (v := .int .i64 x) h5
  simp at hT1
  have hT2 := set_self (o := 1) (v := .int .i64 y) hT1
  simp at hT2
  have hA : W.heap.size ≠ A := by omega
  have hB : W.heap.size ≠ B := by omega
  have hR := (R2.out.setOther (C := W.heap.size) (o := 0) (v := .int .i64 x) hA hB).setOther (C := W.heap.size) (o := 1) (v := .int .i64 y) hA hB
  have hG := (G2.out.set hWl (.int .i64 x) (o := 0)).set hWl (.int .i64 y) (o := 1)
  have hK := Keep2.setNew (o := 1) (v := .int .i64 y) (Keep2.setNew (o := 0) (v := .int .i64 x) ((Keep2.ofGrew (by repeat (first | with_reducible exact Grew.refl _ | apply Grew.more | apply Grew.alloc | apply Grew.drew | apply Grew.drewN))).trans K2.out) (Nat.le_refl W.heap.size)) (Nat.le_refl _)
  generalize (W2.setCell ⟨W.heap.size, 0, none⟩ (.int .i64 x)).setCell ⟨W.heap.size, 1, none⟩ (.int .i64 y) = W3 at *
  clear q0 q1 f0 f1
  have c0 := cell_of (o := 0) hT2
  have c1 := cell_of (o := 1) hT2
  simp at c0 c1
  exact bodyPost_ret (v := .agg #[.int .i64 x, .int .i64 y]) (by simp [results, Tryz.results65, go_sem, c0, c1]) rfl ⟨rfl, hR, hG, hK⟩
end Go.Proofs.YtangapokicnfgaaGreat

/-! pack's reader: plan. -/
namespace Go.Proofs.YtangapokicnfgaaGreat
set_option linter.unusedSimpArgs false
set_option linter.unusedVariables false
open Go.RowKit Ga
set_option maxRecDepth 100000

theorem textR_tx {most : Int} (hm : 0 ≤ most) (z : List UInt8) : (Gr.txS most (z, 0)).1 = (textR most z).1 ∧ (Gr.txS most (z, 0)).2.2 = (textR most z).2.1 ∧ ((textR most z).2.1 = 0 → (Gr.txS most (z, 0)).2.1 = (textR most z).2.2) ∧ ((textR most z).1 ≠ [] → (textR most z).2.1 = 0) ∧ ((textR most z).1.length : Int) ≤ most := by
  have hn : Gr.numS 0 most (z, 0) = ((within z 0 most).1, ((within z 0 most).2.2, (within z 0 most).2.1)) := by unfold Gr.numS; rw [if_neg (by simp)]; rfl
  unfold Gr.txS
  rw [hn]
  unfold within textR
  by_cases h4 : z.length < 4
  · simp [h4, hm]
  · rw [if_neg h4, if_neg h4]
    by_cases h5 : Oc.num z < 0 ∨ most < Oc.num z
    · rw [if_pos h5, if_pos h5]
      simp [hm]
    · rw [if_neg h5, if_neg h5]
      by_cases h6 : (z.length : Int) - 4 < Oc.num z
      · rw [if_pos h6]
        have h7 : z.length - 4 < (Oc.num z).toNat := by omega
        simp [hm, h7]
      · rw [if_neg h6]
        have h7 : ¬ z.length - 4 < (Oc.num z).toNat := by omega
        simp [h7, List.drop_drop]
        omega
theorem StepsIn.lower {base base' : Nat} {w : World} {lc : List StC} {l : List Gr.Stp} (h : StepsIn base w lc l) (hb : base' ≤ base) : StepsIn base' w lc l :=
  Rel.mono (fun c s ⟨h1, h2⟩ => ⟨h1, h2.low hb⟩) h
def RdPlan (w0 W : World) (A B : Nat) (r : List Gr.Stp × Gr.Rs) (e : Ending) (W' : World) : Prop := ∃ v lc s', e = .returned v ∧ StepsOwn W.heap.size W' v lc ∧ StepsIn W.heap.size W' lc r.1 ∧ RdAt w0.heap.size A B W' s' ∧ s'.2 = r.2.2 ∧ (s'.2 = 0 → s' = r.2) ∧ Grew w0 W' ∧ Keep2 A B W W'
set_option maxHeartbeats 8000000 in
theorem rdPlan_any (w0 : World) (A B : Nat) (s : Gr.Rs) (W : World) (h : RdAt w0.heap.size A B W s) (hg : Grew w0 W) (hs : s.1.length ≤ 1000000) :
    Calls Tryz.prog 66 #[.pointer (some ⟨A, 0, none⟩)] W (RdPlan w0 W A B (Gr.plS getL s)) := by
  have H := Lib.hid h
  have HG := Lib.hid hg
  have c0 := cell_of (o := 0) h.2.1
  have c1 := cell_of (o := 1) h.2.1
  have hAl := heap_lt h.2.1
  have hpA := Pre.mk (heap_lt h.2.1)
  simp at c0 c1
  obtain ⟨z, x⟩ := s
  simp only at hs c1
  by_cases he : x = 0
  · subst he
    have ht := textR_tx (most := 8000) (by decide) z
    have hw := octGetText_any w0 B z 8000 W h.2.2 hg hs
    obtain ⟨t, er, z', hr⟩ : ∃ t er z', textR 8000 z = (t, er, z') := ⟨_, _, _, rfl⟩
    obtain ⟨T, S, hS⟩ : ∃ T S, Gr.txS 8000 (z, 0) = (T, S) := ⟨_, _, rfl⟩
    rw [hr, hS] at ht
    rw [hr] at hw
    simp only at ht hw
    obtain ⟨rfl, t2, t3, t4, t5⟩ := ht
    have HW := Lib.hid hw
    clear h hg hw hr
    cases hb : T.isEmpty
    · have hne : T ≠ [] := by rintro rfl; cases hb
      obtain rfl := t4 hne
      obtain ⟨S1, S2⟩ := S
      simp only at t2 t3
      obtain rfl := t2
      obtain rfl : S1 = z' := by simpa using t3
      have hpl : Gr.plS getL (z, 0) = ((Gr.getPl getL T).1, (S1, (Gr.getPl getL T).2)) := by
        unfold Gr.plS
        rw [hS]
        simp only
        rw [if_neg hne]
      rw [hpl]
      have HP := Lib.hid fun w => getPlanO_any T w (by omega)
      obtain ⟨l, e2, hl⟩ : ∃ l e2, Gr.getPl getL T = (l, e2) := ⟨_, _, rfl⟩
      rw [hl] at HP ⊢
      simp only at HP ⊢
      clear hpl hS hne t3 t4 t5 hl
      go_enter Tryz.func66, Tryz.ntmps66
      go_wp2_with (first
        | (go_at_call 103; refine HW.out.mono ?_; rintro e w1 ⟨rfl, hr1, hg1, hk1⟩; obtain ⟨hA1, hR1⟩ := RdAt.put (e := 0) H.out hr1 hk1; (have d1 := cell_of (o := 1) hA1); (have g1 := frozen_of (o := 1) hA1); (have pA1 := Pre.mk (heap_lt hA1)); simp at d1; (have HR1 := Lib.hid hR1); (have HG1 := Lib.hid hg1); (have HK1 := Lib.hid hk1); clear hr1 hg1 hk1 hA1 hR1)
        | (go_at_call 18; refine (HP.out _).mono ?_; rintro e w2 ⟨v2, lc, rfl, o2, i2, q2⟩; (have HR2 := Lib.hid (HR1.out.grew q2)); (have HQ2 := Lib.hid q2); (have e1 := cell_of (o := 1) HR2.out.2.1); (have f1 := frozen_of (o := 1) HR2.out.2.1); (have pA2 := Pre.mk (heap_lt HR2.out.2.1)); simp at e1; (have O2 := Lib.hid o2); (have I2 := Lib.hid i2); clear o2 i2 q2))
      have hA0 : w0.heap.size ≤ A := H.out.1
      have hbut : But A w2 (w2.setCell ⟨A, 1, none⟩ (.int .i64 e2)) := fun q hq => set_other fun e => hq e.symm
      have hR3 : RdAt w0.heap.size A B (w2.setCell ⟨A, 1, none⟩ (.int .i64 e2)) (S1, e2) := ⟨hA0, by rw [set_self HR2.out.2.1]; rfl, HR2.out.2.2.1, by rw [set_other HR2.out.ne]; exact HR2.out.2.2.2⟩
      refine bodyPost_ret (v := v2) ?_ rfl ⟨v2, lc, (S1, e2), rfl, ?_, ?_, hR3, rfl, fun _ => rfl, ?_, ?_⟩
      · simp [results, Tryz.results66, go_sem]
      · exact OwnAt.low (OwnAt.but O2.out hbut HR2.out.2.1 (by decide)) (by rw [World.size_setCell]; exact HK1.out.1)
      · exact StepsIn.lower (I2.out.map fun _ _ o => o.but hbut HR2.out.2.1) (by rw [World.size_setCell]; exact HK1.out.1)
      · exact ((HG1.out.set hA0 _).trans HQ2.out).set hA0 _
      · exact (((Keep2.ofKeep HK1.out).trans Keep2.set).trans (Keep2.ofGrew HQ2.out)).trans Keep2.set
    · obtain rfl : T = [] := List.isEmpty_iff.1 hb
      have hpl : Gr.plS getL (z, 0) = ([], S) := by
        unfold Gr.plS
        rw [hS]
        simp only
        rw [if_pos trivial]
      rw [hpl]
      clear hpl hS t4 t5
      go_enter Tryz.func66, Tryz.ntmps66
      go_wp2_with (go_at_call 103; refine HW.out.mono ?_; rintro e w1 ⟨rfl, hr1, hg1, hk1⟩; obtain ⟨hA1, hR1⟩ := RdAt.put (e := er) H.out hr1 hk1; (have d1 := cell_of (o := 1) hA1); (have g1 := frozen_of (o := 1) hA1); (have pA1 := Pre.mk (heap_lt hA1)); simp at d1; (have HR1 := Lib.hid hR1); (have HG1 := Lib.hid hg1); (have HK1 := Lib.hid hk1); clear hr1 hg1 hk1 hA1 hR1)
      go_ret
      exact ⟨_, [], (z', er), rfl, OwnAt.nil _, trivial, HR1.out, t2.symm, fun q => by obtain ⟨S1, S2⟩ := S; simp only at t2 t3 q ⊢; rw [t2, t3 q], HG1.out.set H.out.1 _, (Keep2.ofKeep HK1.out).trans Keep2.set⟩
  · have hpl : Gr.plS getL (z, x) = ([], (z, x)) := by
      have ht : Gr.txS 8000 (z, x) = ([], (z, x)) := by
        unfold Gr.txS
        rw [Gr.numS_err _ _ (s := (z, x)) he]
        exact if_pos he
      unfold Gr.plS
      rw [ht]
      exact if_pos rfl
    rw [hpl]
    have he2 : (x != 0) = true := by rw [bne_iff_ne]; exact he
    clear h hg he
    go_enter Tryz.func66, Tryz.ntmps66
    go_wp2
    go_ret
    exact ⟨_, [], (z, x), rfl, OwnAt.nil _, trivial, H.out, rfl, fun _ => rfl, HG.out, Keep2.refl _ _ _⟩
end Go.Proofs.YtangapokicnfgaaGreat

/-! pack.GetManifest: what it reads; what it holds on its way. -/
namespace Go.Proofs.YtangapokicnfgaaGreat
set_option linter.unusedSimpArgs false
set_option linter.unusedVariables false
open Go.RowKit Ga
set_option maxRecDepth 100000

theorem manyS_succ {α : Type} (rd : Gr.Rs → α × Gr.Rs) : ∀ (k : Nat) (s : Gr.Rs), Gr.manyS rd (k + 1) s = ((Gr.manyS rd k s).1 ++ [(rd (Gr.manyS rd k s).2).1], (rd (Gr.manyS rd k s).2).2)
  | 0, s => rfl
  | k + 1, s => by
    have ih := manyS_succ rd k (rd s).2
    rw [Gr.manyS, ih]
    rfl
theorem manyS_len {α : Type} {rd : Gr.Rs → α × Gr.Rs} (h : ∀ s, (rd s).2.1.length ≤ s.1.length) : ∀ (k : Nat) (s : Gr.Rs), (Gr.manyS rd k s).1.length = k ∧ (Gr.manyS rd k s).2.1.length ≤ s.1.length
  | 0, s => ⟨rfl, Nat.le_refl _⟩
  | k + 1, s => by
    obtain ⟨h1, h2⟩ := manyS_len h k (rd s).2
    refine ⟨?_, ?_⟩
    · rw [Gr.manyS, List.length_cons, h1]
    · rw [Gr.manyS]
      exact Nat.le_trans h2 (h s)
theorem manyS_list (a b : Int) : ∀ (k : Nat) (s : Gr.Rs), Gr.manyS (Gr.numS a b) k s = Gr.listS a b k s
  | 0, s => rfl
  | k + 1, s => by rw [Gr.manyS, Gr.listS, manyS_list a b k]
theorem manyS_nodes (lp : Int) : ∀ (k : Nat) (s : Gr.Rs), Gr.manyS (Gr.nodeS getL lp) k s = Gr.nodesS getL lp k s
  | 0, s => rfl
  | k + 1, s => by rw [Gr.manyS, Gr.nodesS, manyS_nodes lp k]
theorem enS_eq {s s1 s2 s3 s4 : Gr.Rs} {a b : Int} {c d : Int × Int} (h1 : Gr.numS 0 7 s = (a, s1)) (h2 : Gr.numS 0 63 s1 = (b, s2)) (h3 : Gr.valS s2 = (c, s3)) (h4 : Gr.valS s3 = (d, s4)) : Gr.enS s = (⟨a, b, c, d⟩, s4) := by
  unfold Gr.enS Gr.mapS
  rw [pairS_eq (pairS_eq (pairS_eq h1 h2) h3) h4]
theorem lnS_eq {s s1 s2 s3 s4 : Gr.Rs} {a b c : Int} {d : Int × Int} (h1 : Gr.numS 0 7 s = (a, s1)) (h2 : Gr.numS 0 7 s1 = (b, s2)) (h3 : Gr.numS 0 63 s2 = (c, s3)) (h4 : Gr.valS s3 = (d, s4)) : Gr.lnS s = (⟨a, b, c, d⟩, s4) := by
  unfold Gr.lnS Gr.mapS
  rw [pairS_eq (pairS_eq (pairS_eq h1 h2) h3) h4]
theorem enS_len (s : Gr.Rs) : (Gr.enS s).2.1.length ≤ s.1.length := by
  rw [enS_eq rfl rfl rfl rfl]
  exact Nat.le_trans (valS_len _) (Nat.le_trans (valS_len _) (Nat.le_trans (numS_len _ _ _) (numS_len _ _ _)))
theorem lnS_len (s : Gr.Rs) : (Gr.lnS s).2.1.length ≤ s.1.length := by
  rw [lnS_eq rfl rfl rfl rfl]
  exact Nat.le_trans (valS_len _) (Nat.le_trans (numS_len _ _ _) (Nat.le_trans (numS_len _ _ _) (numS_len _ _ _)))
theorem manS_eq {s s1 s2 s3 s4 s5 s6 s7 s8 s9 s10 s11 : Gr.Rs} {ep pl n3 n5 n7 n9 : Int} {os : List Int} {gr : List Gr.Nd} {es : List Tab.En} {ls : List Gr.Ln} {p : List Gr.Stp}
    (h1 : Gr.numS 0 2147483647 s = (ep, s1)) (h2 : Gr.numS 0 2147483647 s1 = (pl, s2)) (h3 : Gr.numS 0 3 s2 = (n3, s3)) (h4 : Gr.listS 0 400 n3.toNat s3 = (os, s4)) (h5 : Gr.numS 0 8 s4 = (n5, s5)) (h6 : Gr.nodesS getL 1 n5.toNat s5 = (gr, s6))
    (h7 : Gr.numS 0 512 s6 = (n7, s7)) (h8 : Gr.manyS Gr.enS n7.toNat s7 = (es, s8)) (h9 : Gr.numS 0 4000 s8 = (n9, s9)) (h10 : Gr.manyS Gr.lnS n9.toNat s9 = (ls, s10)) (h11 : Gr.plS getL s10 = (p, s11)) :
    Gr.manS getL s = (⟨ep, pl, os, gr, es, ls, p⟩, s11) := by
  have c4 : Gr.cntS (Gr.numS 0 400) 3 s2 = (os, s4) := by unfold Gr.cntS; rw [h3, manyS_list]; exact h4
  have c6 : Gr.cntS (Gr.nodeS getL 1) 8 s4 = (gr, s6) := by unfold Gr.cntS; rw [h5, manyS_nodes]; exact h6
  have c8 : Gr.cntS Gr.enS 512 s6 = (es, s8) := by unfold Gr.cntS; rw [h7]; exact h8
  have c10 : Gr.cntS Gr.lnS 4000 s8 = (ls, s10) := by unfold Gr.cntS; rw [h9]; exact h10
  unfold Gr.manS Gr.mapS
  rw [pairS_eq h1 (pairS_eq h2 (pairS_eq c4 (pairS_eq c6 (pairS_eq c8 (pairS_eq c10 h11)))))]
theorem getPl_small3 (s : List UInt8) : ∀ x ∈ (Gr.getPl getL s).1, x.nd.frm.length ≤ 3 ∧ x.nd.prog.length ≤ 24 := by
  obtain ⟨l, ⟨z, x⟩, hg⟩ : ∃ l t, Gr.planS getL s = (l, t) := ⟨_, _, rfl⟩
  rw [getPl_end hg]
  have h := stepsS_small (Gr.numS 1 6 (s, 0)).1.toNat (Gr.numS 1 6 (s, 0)).2
  unfold Gr.planS at hg
  rw [hg] at h
  split
  · exact h
  · intro y hy
    cases hy
theorem plS_small (s : Gr.Rs) : ∀ x ∈ (Gr.plS getL s).1, x.nd.frm.length ≤ 3 ∧ x.nd.prog.length ≤ 24 := by
  unfold Gr.plS
  split
  · intro y hy
    cases hy
  · exact getPl_small3 _
/-- a block is as it was if it holds the one type or the other -/
def Same (t : TypeId) (w w' : World) : Prop := ∀ (q : Nat) (c : Array Value), w.heap[q]? = some (.cells c t) → w'.heap[q]? = w.heap[q]?
/-- what GetManifest holds: its block, its slices, its reader -/
def zeroM : Array Value := #[.int .i64 0, .int .i64 0, .slice none 0 0, .slice none 0 0, .slice none 0 0, .slice none 0 0, .slice none 0 0]
structure ManSt (w0 : World) (Z T A B : Nat) (W : World) (cs : Array Value) (vo vg ve vl : Value) (os : List Int) (lc : List NdC) (gr : List Gr.Nd) (es : List Tab.En) (ls : List Gr.Ln) (s : Gr.Rs) : Prop where
  t : W.heap[T]? = some (.cells cs 55)
  b : w0.heap.size ≤ T
  o : OwnAt w0.heap.size 3 1 encN W vo os
  g : NodesOwn w0.heap.size W vg lc
  gi : NodesIn w0.heap.size W lc gr
  e : OwnAt w0.heap.size 97 6 encEn W ve es
  l : OwnAt w0.heap.size 100 5 encLn W vl ls
  r : RdAt w0.heap.size A B W s
  w : Grew w0 W
  z : W.heap[Z]? = some (.cells zeroM 55)
  zt : T ≠ Z
section
variable {w0 : World} {Z T A B : Nat} {W W' : World} {cs : Array Value} {vo vg ve vl : Value} {os : List Int} {lc : List NdC} {gr : List Gr.Nd} {es : List Tab.En} {ls : List Gr.Ln} {s s' : Gr.Rs}
theorem NodesIn.sameT {base : Nat} {w w' : World} {lc : List NdC} {l : List Gr.Nd} (h : NodesIn base w lc l) (h1 : Same 3 w w') (h2 : Same 123 w w') : NodesIn base w' lc l :=
  Rel.mono (fun c n ⟨a, o⟩ => by
    have o' : OwnsNd base w' c n := ⟨OwnAt.same o.1 fun b hb => by obtain ⟨-, x, hx⟩ := OwnAt.block o.1 hb; exact h1 b x hx, OwnAt.same o.2 fun b hb => by obtain ⟨-, x, hx⟩ := OwnAt.block o.2 hb; exact h2 b x hx⟩
    exact ⟨o'.is a, o'⟩) h
theorem OwnAt.sameT {α : Type} {base : Nat} {e : TypeId} {k : Nat} {enc : α → List Value} {w w' : World} {v : Value} {l : List α} (h : OwnAt base e k enc w v l) (hs : Same e w w') : OwnAt base e k enc w' v l :=
  OwnAt.same h fun b hb => by obtain ⟨-, x, hx⟩ := OwnAt.block h hb; exact hs b x hx
theorem Same.keep2 {t : TypeId} (k : Keep2 A B W W') (h : RdAt w0.heap.size A B W s) (h1 : t ≠ 82 := by decide) (h2 : t ≠ 135 := by decide) : Same t W W' := fun q c hq =>
  k.2 q (heap_lt hq) (fun e => by subst e; have := h.2.1; rw [hq] at this; cases this; exact h1 rfl) fun e => by subst e; have := h.2.2.2; rw [hq] at this; cases this; exact h2 rfl
theorem ManSt.keep2 (M : ManSt w0 Z T A B W cs vo vg ve vl os lc gr es ls s) (k : Keep2 A B W W') (r : RdAt w0.heap.size A B W' s') (g : Grew w0 W') : ManSt w0 Z T A B W' cs vo vg ve vl os lc gr es ls s' :=
  ⟨by rw [(Same.keep2 k M.r : Same _ W W') T cs M.t]; exact M.t, M.b, OwnAt.sameT M.o (Same.keep2 k M.r), OwnAt.sameT M.g (Same.keep2 k M.r), M.gi.sameT (Same.keep2 k M.r) (Same.keep2 k M.r), OwnAt.sameT M.e (Same.keep2 k M.r), OwnAt.sameT M.l (Same.keep2 k M.r), r, g, by rw [(Same.keep2 k M.r : Same _ W W') Z _ M.z]; exact M.z, M.zt⟩
theorem ManSt.grew (M : ManSt w0 Z T A B W cs vo vg ve vl os lc gr es ls s) (g : Grew W W') : ManSt w0 Z T A B W' cs vo vg ve vl os lc gr es ls s :=
  ⟨grew_heap g M.t, M.b, OwnAt.grew M.o g, OwnAt.grew M.g g, M.gi.grew g, OwnAt.grew M.e g, OwnAt.grew M.l g, M.r.grew g, M.w.trans g, grew_heap g M.z, M.zt⟩
theorem Same.but {N : Nat} {t t2 : TypeId} {c : Array Value} (k : But N W W') (h : W.heap[N]? = some (.cells c t2)) (h1 : t2 ≠ t := by decide) : Same t W W' := fun q x hq =>
  k q fun e => by subst e; rw [hq] at h; cases h; exact h1 rfl
/-- another block is written, of an entry or a line, made later -/
theorem ManSt.new {N : Nat} {t : TypeId} {c : Array Value} (M : ManSt w0 Z T A B W cs vo vg ve vl os lc gr es ls s) (k : But N W W') (h : W.heap[N]? = some (.cells c t)) (ht : t = 97 ∨ t = 100) (he : ve.ownBlock ≠ some N) (hl : vl.ownBlock ≠ some N) (g : Grew w0 W') : ManSt w0 Z T A B W' cs vo vg ve vl os lc gr es ls s := by
  have hne : ∀ u : TypeId, u ≠ 97 → u ≠ 100 → t ≠ u := fun u h1 h2 e => by subst e; exact ht.elim h1 h2
  have hk : ∀ u : TypeId, u ≠ 97 → u ≠ 100 → Same u W W' := fun u h1 h2 => Same.but k h (hne u h1 h2)
  refine ⟨by rw [hk _ (by decide) (by decide) T cs M.t]; exact M.t, M.b, OwnAt.sameT M.o (hk _ (by decide) (by decide)), OwnAt.sameT M.g (hk _ (by decide) (by decide)), M.gi.sameT (hk _ (by decide) (by decide)) (hk _ (by decide) (by decide)), OwnAt.butNe M.e k he, OwnAt.butNe M.l k hl, ?_, g, by rw [hk _ (by decide) (by decide) Z _ M.z]; exact M.z, M.zt⟩
  exact ⟨M.r.1, by rw [hk _ (by decide) (by decide) A _ M.r.2.1]; exact M.r.2.1, M.r.2.2.1, by rw [hk _ (by decide) (by decide) B _ M.r.2.2.2]; exact M.r.2.2.2⟩
/-- its block is written -/
theorem ManSt.put {i : Nat} {v : Value} (M : ManSt w0 Z T A B W cs vo vg ve vl os lc gr es ls s) : ManSt w0 Z T A B (W.setCell ⟨T, i, none⟩ v) (cs.setIfInBounds i v) vo vg ve vl os lc gr es ls s := by
  have hb : But T W (W.setCell ⟨T, i, none⟩ v) := fun q hq => set_other fun e => hq e.symm
  have hk : ∀ u : TypeId, 55 ≠ u → Same u W (W.setCell ⟨T, i, none⟩ v) := fun u hu => Same.but hb M.t hu
  refine ⟨set_self M.t, M.b, OwnAt.sameT M.o (hk _ (by decide)), OwnAt.sameT M.g (hk _ (by decide)), M.gi.sameT (hk _ (by decide)) (hk _ (by decide)), OwnAt.sameT M.e (hk _ (by decide)), OwnAt.sameT M.l (hk _ (by decide)), ?_, M.w.set M.b _, by rw [set_other M.zt]; exact M.z, M.zt⟩
  exact ⟨M.r.1, by rw [hk _ (by decide) A _ M.r.2.1]; exact M.r.2.1, M.r.2.2.1, by rw [hk _ (by decide) B _ M.r.2.2.2]; exact M.r.2.2.2⟩
theorem Same.app {α : Type} {t e : TypeId} {k : Nat} {enc : α → List Value} {v v' : Value} {l l2 : List α} {base : Nat} (ho : OwnAt base e k enc W v l) (hA : Appended w0 e k enc W v l2 v' W') (h1 : t ≠ e := by decide) : Same t W W' := fun q _ hq => hA.2.2.2.1 q (heap_lt hq) (OwnAt.other ho hq h1)
theorem ManSt.appE {v' : Value} {es' : List Tab.En} (M : ManSt w0 Z T A B W cs vo vg ve vl os lc gr es ls s) (hA : Appended w0 97 6 encEn W ve es' v' W') : ManSt w0 Z T A B W' cs vo vg v' vl os lc gr es' ls s :=
  ⟨by rw [Same.app M.e hA (by decide) T cs M.t]; exact M.t, M.b, OwnAt.sameT M.o (Same.app M.e hA), OwnAt.sameT M.g (Same.app M.e hA), M.gi.sameT (Same.app M.e hA) (Same.app M.e hA), hA.2.1, OwnAt.sameT M.l (Same.app M.e hA), RdAt.app M.r M.e hA, hA.1, by rw [Same.app M.e hA (by decide) Z _ M.z]; exact M.z, M.zt⟩
theorem ManSt.appL {v' : Value} {ls' : List Gr.Ln} (M : ManSt w0 Z T A B W cs vo vg ve vl os lc gr es ls s) (hA : Appended w0 100 5 encLn W vl ls' v' W') : ManSt w0 Z T A B W' cs vo vg ve v' os lc gr es ls' s :=
  ⟨by rw [Same.app M.l hA (by decide) T cs M.t]; exact M.t, M.b, OwnAt.sameT M.o (Same.app M.l hA), OwnAt.sameT M.g (Same.app M.l hA), M.gi.sameT (Same.app M.l hA) (Same.app M.l hA), OwnAt.sameT M.e (Same.app M.l hA), hA.2.1, RdAt.app M.r M.l hA, hA.1, by rw [Same.app M.l hA (by decide) Z _ M.z]; exact M.z, M.zt⟩
theorem ManSt.setO {vo' : Value} {os' : List Int} (M : ManSt w0 Z T A B W cs vo vg ve vl os lc gr es ls s) (h : OwnAt w0.heap.size 3 1 encN W vo' os') : ManSt w0 Z T A B W cs vo' vg ve vl os' lc gr es ls s := ⟨M.t, M.b, h, M.g, M.gi, M.e, M.l, M.r, M.w, M.z, M.zt⟩
theorem ManSt.setG {vg' : Value} {lc' : List NdC} {gr' : List Gr.Nd} (M : ManSt w0 Z T A B W cs vo vg ve vl os lc gr es ls s) (h : NodesOwn w0.heap.size W vg' lc') (hi : NodesIn w0.heap.size W lc' gr') : ManSt w0 Z T A B W cs vo vg' ve vl os lc' gr' es ls s := ⟨M.t, M.b, M.o, h, hi, M.e, M.l, M.r, M.w, M.z, M.zt⟩
theorem NodesIn.lower {base base' : Nat} {w : World} {lc : List NdC} {l : List Gr.Nd} (h : NodesIn base w lc l) (hb : base' ≤ base) : NodesIn base' w lc l := Rel.mono (fun c s ⟨h1, h2⟩ => ⟨h1, h2.low hb⟩) h
theorem ManSt.neE (M : ManSt w0 Z T A B W cs vo vg ve vl os lc gr es ls s) {N : Nat} (h : W.heap.size ≤ N) : ve.ownBlock ≠ some N ∧ vl.ownBlock ≠ some N := by
  refine ⟨fun e => ?_, fun e => ?_⟩
  · obtain ⟨-, x, hx⟩ := OwnAt.block M.e e
    have := heap_lt hx
    omega
  · obtain ⟨-, x, hx⟩ := OwnAt.block M.l e
    have := heap_lt hx
    omega
end
end Go.Proofs.YtangapokicnfgaaGreat
