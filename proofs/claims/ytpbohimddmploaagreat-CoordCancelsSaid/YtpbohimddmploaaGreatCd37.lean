import Derived.Test.YtpbohimddmploaaGreatCd32
import Derived.Deep.DeepCutAuto
import Derived.Deep.CutBlock
set_option linter.unusedSimpArgs false
set_option linter.unusedVariables false
set_option maxRecDepth 100000
set_option maxHeartbeats 64000000
namespace Go.Proofs.YtpbohimddmploaaGreat
open Go.RowKit Ga

theorem step_err {l l' : List Gr.Nd} {s : Gr.Stp} {w w' : World} (hp : l'.Perm l) (r : Int) (hr : r ≠ 0) (h : (Gr.stepE checkR l' s).1 = r) (g : Grew w w') : StepPost (Gr.stepE checkR l s) w (.returned (.tuple #[.slice none 0 0, .int .i64 r])) w' := by
  have e := (Gr.stepE_perm chkR hp s).1
  rw [h] at e
  exact ⟨g, .inl ⟨by rw [← e]; exact hr, by rw [← e]⟩⟩
theorem step_good {l l' l2 : List Gr.Nd} {s : Gr.Stp} {w w' : World} {e : Ending} {W : World} (hp : l'.Perm l) (h : Gr.stepE checkR l' s = (0, l2)) (hn : NormGives l2 W e w') (g : Grew w W) : ∃ v, e = .returned v ∧ StepPost (Gr.stepE checkR l s) w (.returned (.tuple #[v, .int .i64 0])) w' := by
  obtain ⟨v, lc, l3, rfl, h1, h2, h3, h4, h5⟩ := hn
  obtain ⟨e1, e2⟩ := Gr.stepE_perm chkR hp s
  rw [h] at e1 e2
  exact ⟨v, rfl, g.trans h5, .inr ⟨e1.symm, v, lc, l3, rfl, OwnAt.low h1 g.below.size, NodesIn.low h2 g.below.size, h3.trans e2, h4⟩⟩
theorem step_ok (v : Value) (l : List Gr.Nd) (c : StC) (s : Gr.Stp) (w : World) (hv : NodesAt w v l) (hs : Small l) (hst : StepIs w c s) (hss : smallS s) (hc : checkR l = 0) (hk : 1 ≤ s.kind ∧ s.kind ≤ 5) : Calls Tryz.prog 51 #[v, .agg #[.int .i64 c.kind, .int .i64 c.c.id, .int .i64 c.c.kind, .slice c.c.af c.c.nf c.c.cf, .slice c.c.ap c.c.np c.c.cp, .int .i64 c.c.par, .int .i64 c.c.r0, .int .i64 c.c.r1, .int .i64 c.c.r2, .int .i64 c.c.r3, .int .i64 c.c.r4, .int .i64 c.c.r5, .int .i64 c.c.r6, .int .i64 c.c.r7, .bool c.reset]] w (StepPost (Gr.stepE checkR l s) w) := by
  have hl8 := (checkR_right hc).len
  have HCK := Lib.hid fun W2 (g : Grew w W2) => check_graph v l W2 (hv.grew g) hs
  rw [hc] at HCK
  have HN := Lib.hid fun W2 (g : Grew w W2) => norm_any v l W2 (hv.grew g) hs (by omega)
  have HCL := Lib.hid fun W2 (g : Grew w W2) => clean49_any c s W2 (hst.grew g) hss
  have hsk := hst.kind
  have hsi := hst.nd.id
  obtain ⟨a, cap, rfl, hm, -⟩ := hv.openC
  have HST := Lib.hid hst
  clear hv hst
  obtain ⟨kd, ⟨id, kind, af, nf, cf, ap, np, cp, par, r0, r1, r2, r3, r4, r5, r6, r7⟩, rs⟩ := c
  simp only at hsk hsi HCL
  have hk1 : ¬ (kd < 1) := by omega
  have hk5 : ¬ (5 < kd) := by omega
  have HK := Lib.hid hk
  have HC := Lib.hid hc
  have HSM := Lib.hid hs
  have HSS := Lib.hid hss
  have HL8 := Lib.hid hl8
  have HSK := Lib.hid hsk
  have HSI := Lib.hid hsi
  have hbx := heap_new_at w (.cells #[.int .i64 kd, .int .i64 id, .int .i64 kind, .slice af nf cf, .slice ap np cp, .int .i64 par, .int .i64 r0, .int .i64 r1, .int .i64 r2, .int .i64 r3, .int .i64 r4, .int .i64 r5, .int .i64 r6, .int .i64 r7, .bool rs] 73) _ rfl
  have HBX := Lib.hid hbx
  clear hk hc hs hss hl8 hsk hsi hbx
  go_enter Tryz.func51, Tryz.ntmps51
  go_upto_region 5 with (go_at_call 8; refine (HCK.out _ (by repeat (first | with_reducible exact Grew.refl _ | apply Grew.more | apply Grew.alloc | apply Grew.drew | apply Grew.drewN))).mono ?_; rintro e w1 ⟨rfl, R3, n3, rfl⟩)
  go_cut [6] (fun s6 wx => ∃ B v' lc l' d, s6 = .pointer (some ⟨B, 0, none⟩) ∧ Work w wx B v' lc l' d (Gr.cleanS s) 0 ∧ l'.Perm l ∧ wx.heap[w.heap.size]? = some (.cells #[.int .i64 kd, .int .i64 id, .int .i64 kind, .slice af nf cf, .slice ap np cp, .int .i64 par, .int .i64 r0, .int .i64 r1, .int .i64 r2, .int .i64 r3, .int .i64 r4, .int .i64 r5, .int .i64 r6, .int .i64 r7, .bool rs] 73))
  case first =>
    refine wp_region_noPanic ?_
    go_region_law (first
      | (go_simp; go_at_call 58; refine (HN.out _ (by repeat (first | with_reducible exact Grew.refl _ | apply Grew.more | apply Grew.alloc | apply Grew.drew | apply Grew.drewN))).mono ?_; rintro e1 w1 ⟨v1, lc1, l1, rfl, ho1, hn1, hp1, -, R1, m1, rfl⟩; obtain ⟨av, cv, rfl⟩ := (OwnAt.rows ho1 encNd_len).len; (have HO1 := Lib.hid ho1); (have HN1 := Lib.hid hn1); (have HP1 := Lib.hid hp1); clear ho1 hn1 hp1)
      | (go_simp; go_at_call 108; refine (HCL.out _ (by repeat (first | with_reducible exact Grew.refl _ | apply Grew.more | apply Grew.alloc | apply Grew.drew | apply Grew.drewN))).mono ?_; rintro e2 w2 ⟨⟨kd2, ⟨id2, kind2, af2, nf2, cf2, ap2, np2, cp2, par2, s0, s1, s2, s3, s4, s5, s6, s7⟩, rs2⟩, rfl, hd2, ho2, R2, m2, rfl⟩; (have HD2 := Lib.hid hd2); (have HO2 := Lib.hid ho2); clear hd2 ho2))
    all_goals
      refine NoPanic.normal ?_
      go_wp2
      go_meet
      refine ⟨_, .slice av lc1.length cv, lc1, l1, ⟨kd2, ⟨id2, kind2, af2, nf2, cf2, ap2, np2, cp2, par2, s0, s1, s2, s3, s4, s5, s6, s7⟩, rs2⟩, rfl, ?_, HP1.out, grew_heap (by repeat (first | with_reducible exact Grew.refl _ | apply Grew.more | apply Grew.alloc | apply Grew.drew | apply Grew.drewN)) HBX.out⟩
      exact Work.made (by simp [go_sem]) (by repeat (first | with_reducible exact Grew.refl _ | apply Grew.more | apply Grew.alloc | apply Grew.drew | apply Grew.drewN)) (OwnAt.grew (OwnAt.low HO1.out (by simp [go_sem]; omega)) (by repeat (first | with_reducible exact Grew.refl _ | apply Grew.more | apply Grew.alloc | apply Grew.drew | apply Grew.drewN))) (NodesIn.grew (NodesIn.low HN1.out (by simp [go_sem]; omega)) (by repeat (first | with_reducible exact Grew.refl _ | apply Grew.more | apply Grew.alloc | apply Grew.drew | apply Grew.drewN))) (HD2.out.grew (by repeat (first | with_reducible exact Grew.refl _ | apply Grew.more | apply Grew.alloc | apply Grew.drew | apply Grew.drewN))) (OwnsNd.grew (base := w.heap.size) ⟨OwnAt.low HO2.out.1 (by simp [go_sem]; omega), OwnAt.low HO2.out.2 (by simp [go_sem]; omega)⟩ (by repeat (first | with_reducible exact Grew.refl _ | apply Grew.more | apply Grew.alloc | apply Grew.drew | apply Grew.drewN))) rfl
  obtain ⟨B, v', lc, l', d, rfl, hw, hp, hbx⟩ := hcut
  have hlen := Rel.len hw.inn
  have hl9 : l'.length ≤ 8 := by rw [hp.length_eq]; exact HL8.out
  have hck' : checkR l' = 0 := (chkR.perm hp).trans HC.out
  have hsm' : Small l' := fun m hm => HSM.out m (hp.mem_iff.1 hm)
  have HW := Lib.hid hw
  have HP := Lib.hid hp
  have HBX2 := Lib.hid hbx
  have HL9 := Lib.hid hl9
  have HCK2 := Lib.hid hck'
  have HSM2 := Lib.hid hsm'
  have HIX := Lib.hid fun W2 (g : Grew wc W2) => indexNodes_any v' l' 113 #[.pointer (some ⟨w.heap.size, 0, none⟩)] (fun n => n.id == s.nd.id) W2 ((NodesIn.at hw.inn hw.own).grew g) enters113 (step1_pred s.nd.id w.heap.size W2 (Pre.mk (heap_lt (grew_heap g hbx))) (by rw [cell_of (grew_heap g hbx), HSI.out]; rfl))
  have x0 := cell_of (o := 0) hw.blk
  have x16 := cell_of (o := 16) hw.blk
  have f16 := frozen_of (o := 16) hw.blk
  have pB := Pre.mk (heap_lt hw.blk)
  obtain ⟨av, cv, rfl⟩ := (OwnAt.rows hw.own encNd_len).len
  simp [wkC, encSt] at x0 x16
  have y0 := cell_of (o := 0) hbx
  simp at y0
  have pX := Pre.mk (heap_lt hbx)
  have hBX : ¬ (B = w.heap.size) := fun e => by
    have := hw.blk
    rw [e, hbx] at this
    cases this
  have hBX2 : ¬ (w.heap.size = B) := fun e => hBX e.symm
  have HW6 : Hid (∀ W2, Grew wc W2 → Work w (W2.setCell ⟨B, 16, none⟩ (.int .i64 (findI l' s.nd.id))) B (.slice av lc.length cv) lc l' d (Gr.cleanS s) (findI l' s.nd.id)) := Lib.hid fun W2 g => (HW.out.grew g).setIx _
  clear hw hp hbx hlen hl9 hck' hsm' HBX
  go_upto_if 38 with (first
    | (go_at_call 112; ((with_reducible refine Calls.mono (HIX.out _ ?_) ?_)); (focus (exact (by repeat (first | with_reducible exact Grew.refl _ | apply Grew.more | apply Grew.alloc | apply Grew.drew | apply Grew.drewN)))); rintro e w1 ⟨rfl, R4, n4, rfl⟩; rw [find_idxP]))
  have hwy : Work w ((wc.setCell ⟨B, 16, none⟩ (.int .i64 (findI l' s.nd.id))).more R4 n4) B (.slice av lc.length cv) lc l' d (Gr.cleanS s) (findI l' s.nd.id) := Work.grew (HW6.out _ (Grew.refl _)) (by repeat (first | with_reducible exact Grew.refl _ | apply Grew.more | apply Grew.alloc | apply Grew.drew | apply Grew.drewN))
  have HWY := Lib.hid hwy
  clear hwy x0 x16 f16 pB y0 pX hBX hBX2 HIX HW6 HW HBX2
  generalize (wc.setCell ⟨B, 16, none⟩ (.int .i64 (findI l' s.nd.id))).more R4 n4 = wy at *
  go_cut [7] (fun s7 wz => s7 = .int .i64 (workE l' s).1 ∧ ((workE l' s).1 = 0 → ∃ v9 lc9, Work w wz B v9 lc9 (workE l' s).2 d (Gr.cleanS s) (findI l' s.nd.id)) ∧ Grew w wz)
  case first =>
    by_cases h2 : kd = 2
    · have he : workE l' s = addE l' (Gr.cleanS s) (findI l' s.nd.id) := if_pos (by rw [HSK.out]; exact h2)
      have HAD := Lib.hid fun W2 (g : Grew wy W2) => add_any w W2 B _ lc l' d (Gr.cleanS s) _ (HWY.out.grew g) (by have := HL9.out; omega)
      have HE := Lib.hid he
      subst h2
      clear he
      go_wp2_with (go_at_call 114; ((with_reducible refine Calls.mono (HAD.out _ ?_) ?_)); (focus (exact (by repeat (first | with_reducible exact Grew.refl _ | apply Grew.more | apply Grew.alloc | apply Grew.drew | apply Grew.drewN)))); rintro e9 w9 ⟨rfl, hw9, hg9⟩; (have HW9 := Lib.hid hw9); (have HG9 := Lib.hid hg9); clear hw9 hg9)
      go_meet
      rw [HE.out]
      exact ⟨rfl, HW9.out, HG9.out⟩
    · have hne : (kd == 2) = false := by simpa using h2
      have HCH := Lib.hid fun W2 (g : Grew wy W2) => change_any w W2 B _ lc l' d s _ rfl (HWY.out.grew g) (by have := HL9.out; omega) (by rw [HSK.out]; exact h2) HK.out
      clear h2
      go_wp2_with (go_at_call 115; ((with_reducible refine Calls.mono (HCH.out _ ?_) ?_)); (focus (exact (by repeat (first | with_reducible exact Grew.refl _ | apply Grew.more | apply Grew.alloc | apply Grew.drew | apply Grew.drewN)))); rintro e9 w9 ⟨rfl, hw9, hg9⟩; (have HW9 := Lib.hid hw9); (have HG9 := Lib.hid hg9); clear hw9 hg9)
      go_meet
      exact ⟨rfl, HW9.out, HG9.out⟩
  obtain ⟨rfl, hW9, hg9⟩ := hcut
  have hws := work_step (s := s) HCK2.out HK.out
  obtain ⟨hsm9, hlen9⟩ := work_small (s := s) HSM2.out HSS.out
  generalize workE l' s = r at *
  obtain ⟨r1, l9⟩ := r
  simp only at hW9 hws hsm9 hlen9 ⊢
  have HG9 := Lib.hid hg9
  by_cases hr : r1 = 0
  case neg =>
    have hst : (Gr.stepE checkR l' s).1 = r1 := by
      rcases hws with ⟨_, e⟩ | ⟨e, _⟩
      · rw [e]
      · exact absurd e hr
    have HS9 := Lib.hid hst
    have HR9 := Lib.hid hr
    have hb1 : (r1 == 0) = false := by simpa using hr
    have hb2 : (r1 != 0) = true := by rw [bne_iff_ne]; exact hr
    clear hst hws hW9 hg9 hr
    go_wp2
    exact bodyPost_ret (v := .tuple #[.slice none 0 0, .int .i64 r1]) (by simp [results, Tryz.results51, go_sem]) rfl (step_err HP.out r1 HR9.out HS9.out (HG9.out.trans (by repeat (first | with_reducible exact Grew.refl _ | apply Grew.more | apply Grew.alloc | apply Grew.drew | apply Grew.drewN))))
  subst hr
  obtain ⟨v9, lc9, hw9⟩ := hW9 rfl
  have hst : Gr.stepE checkR l' s = Gr.finE checkR l9 := by
    rcases hws with ⟨e, _⟩ | ⟨_, e⟩
    · exact absurd rfl e
    · exact e
  have hat := NodesIn.at hw9.inn hw9.own
  have HCK9 := Lib.hid fun W2 (g : Grew wc W2) => check_graph v9 l9 W2 (hat.grew g) hsm9
  have HN9 := Lib.hid fun W2 (g : Grew wc W2) => norm_any v9 l9 W2 (hat.grew g) hsm9 (by have := HL9.out; omega)
  have x0 := cell_of (o := 0) hw9.blk
  have pB := Pre.mk (heap_lt hw9.blk)
  obtain ⟨av9, cv9, rfl⟩ := (OwnAt.rows hw9.own encNd_len).len
  simp [wkC] at x0
  obtain ⟨q, hq⟩ : ∃ q, checkR l9 = q := ⟨_, rfl⟩
  rw [hq] at HCK9
  have HST9 := Lib.hid hst
  have HQ := Lib.hid hq
  clear hst hq hws hW9 hg9 hw9 hat hsm9 hlen9
  by_cases hq0 : q = 0
  case neg =>
    have hb2 : (q != 0) = true := by rw [bne_iff_ne]; exact hq0
    have HS9 : Hid ((Gr.stepE checkR l' s).1 = q) := Lib.hid (by rw [HST9.out]; unfold Gr.finE; rw [HQ.out, if_pos hq0])
    have HQ0 := Lib.hid hq0
    clear hq0
    go_wp2_with (go_at_call 8; ((with_reducible refine Calls.mono (HCK9.out _ ?_) ?_)); (focus (exact (by repeat (first | with_reducible exact Grew.refl _ | apply Grew.more | apply Grew.alloc | apply Grew.drew | apply Grew.drewN)))); rintro e w1 ⟨rfl, R5, n5, rfl⟩)
    exact bodyPost_ret (v := .tuple #[.slice none 0 0, .int .i64 q]) (by simp [results, Tryz.results51, go_sem]) rfl (step_err HP.out q HQ0.out HS9.out (HG9.out.trans (by repeat (first | with_reducible exact Grew.refl _ | apply Grew.more | apply Grew.alloc | apply Grew.drew | apply Grew.drewN))))
  subst hq0
  have HS9 : Hid (Gr.stepE checkR l' s = (0, l9)) := Lib.hid (by rw [HST9.out]; unfold Gr.finE; rw [HQ.out]; rfl)
  go_wp2_with (first
    | (go_at_call 8; ((with_reducible refine Calls.mono (HCK9.out _ ?_) ?_)); (focus (exact (by repeat (first | with_reducible exact Grew.refl _ | apply Grew.more | apply Grew.alloc | apply Grew.drew | apply Grew.drewN)))); rintro e w1 ⟨rfl, R5, n5, rfl⟩)
    | (go_at_call 58; ((with_reducible refine Calls.mono (HN9.out _ ?_) ?_)); (focus (exact (by repeat (first | with_reducible exact Grew.refl _ | apply Grew.more | apply Grew.alloc | apply Grew.drew | apply Grew.drewN)))); intro e6 w6 hn6; obtain ⟨v6, rfl, hp6⟩ := step_good HP.out HS9.out hn6 (HG9.out.trans (by repeat (first | with_reducible exact Grew.refl _ | apply Grew.more | apply Grew.alloc | apply Grew.drew | apply Grew.drewN))); (have HP6 := Lib.hid hp6); clear hn6 hp6))
  exact bodyPost_ret (v := .tuple #[v6, .int .i64 0]) (by simp [results, Tryz.results51, go_sem]) rfl HP6.out
theorem planStep_any (v : Value) (l : List Gr.Nd) (c : StC) (s : Gr.Stp) (w : World) (hv : NodesAt w v l) (hs : Small l) (hst : StepIs w c s) (hss : smallS s) : Calls Tryz.prog 51 #[v, .agg #[.int .i64 c.kind, .int .i64 c.c.id, .int .i64 c.c.kind, .slice c.c.af c.c.nf c.c.cf, .slice c.c.ap c.c.np c.c.cp, .int .i64 c.c.par, .int .i64 c.c.r0, .int .i64 c.c.r1, .int .i64 c.c.r2, .int .i64 c.c.r3, .int .i64 c.c.r4, .int .i64 c.c.r5, .int .i64 c.c.r6, .int .i64 c.c.r7, .bool c.reset]] w (StepPost (Gr.stepE checkR l s) w) := by
  by_cases hc : checkR l = 0
  · by_cases hk : 1 ≤ s.kind ∧ s.kind ≤ 5
    · exact step_ok v l c s w hv hs hst hss hc hk
    · exact step_bad v l c s w hv hs hst (.inr (by omega))
  · exact step_bad v l c s w hv hs hst (.inl hc)

theorem stepE_small {l : List Gr.Nd} {s : Gr.Stp} (h : Small l) (hs : smallS s) : Small (Gr.stepE checkR l s).2 := by
  have hnil : Small ([] : List Gr.Nd) := fun m hm => by cases hm
  by_cases hc : checkR l = 0
  · by_cases hk : 1 ≤ s.kind ∧ s.kind ≤ 5
    · rcases work_step (s := s) hc hk with ⟨_, e⟩ | ⟨_, e⟩
      · rw [e]; exact hnil
      · rw [e]
        unfold Gr.finE
        split
        · exact hnil
        · exact (work_small h hs).1
    · unfold Gr.stepE
      rw [if_neg (by rw [hc]; decide), if_pos (by omega)]
      exact hnil
  · unfold Gr.stepE
    rw [if_pos hc]
    exact hnil
theorem small_perm {l l' : List Gr.Nd} (h : Small l) (hp : l'.Perm l) : Small l' := fun m hm => h m (hp.mem_iff.1 hm)
def ApplyPost (r : Int × Nat × List Gr.Nd) (w : World) (e : Ending) (w' : World) : Prop := Grew w w' ∧ ((r.1 ≠ 0 ∧ e = .returned (.tuple #[.slice none 0 0, .int .i64 (r.2.1 : Int), .int .i64 r.1])) ∨ (r.1 = 0 ∧ ∃ v lc l', e = .returned (.tuple #[v, .int .i64 0, .int .i64 0]) ∧ NodesOwn w.heap.size w' v lc ∧ NodesIn w.heap.size w' lc l' ∧ l'.Perm r.2.2 ∧ (l'.Pairwise fun a b => a.id ≤ b.id) ∧ Small l'))
def SameE (a b : Int × Nat × List Gr.Nd) : Prop := a.1 = b.1 ∧ a.2.1 = b.2.1 ∧ a.2.2.Perm b.2.2
theorem SameE.refl (a : Int × Nat × List Gr.Nd) : SameE a a := ⟨rfl, rfl, List.Perm.refl _⟩
theorem SameE.trans {a b c : Int × Nat × List Gr.Nd} (h : SameE a b) (k : SameE b c) : SameE a c := ⟨h.1.trans k.1, h.2.1.trans k.2.1, h.2.2.trans k.2.2⟩
theorem stepsE_go {l l2 : List Gr.Nd} {p : List Gr.Stp} {k : Nat} (hk : k < p.length) (h0 : (Gr.stepE checkR l p[k]).1 = 0) (hp : l2.Perm (Gr.stepE checkR l p[k]).2) : SameE (Gr.stepsE checkR l (p.drop k) k) (Gr.stepsE checkR l2 (p.drop (k + 1)) (k + 1)) := by
  rw [List.drop_eq_getElem_cons hk, Gr.stepsE, if_neg (by rw [h0]; simp)]
  obtain ⟨a, b, c⟩ := Gr.stepsE_perm chkR (p.drop (k + 1)) (k + 1) hp
  exact ⟨a.symm, b.symm, c.symm⟩
theorem stepsE_no {l : List Gr.Nd} {p : List Gr.Stp} {k : Nat} (hk : k < p.length) (h0 : (Gr.stepE checkR l p[k]).1 ≠ 0) : Gr.stepsE checkR l (p.drop k) k = ((Gr.stepE checkR l p[k]).1, k + 1, []) := by
  rw [List.drop_eq_getElem_cons hk, Gr.stepsE, if_pos h0]
theorem step_zero {l9 : List Gr.Nd} {w w' : World} {e : Ending} (h : StepPost ((0, l9) : Int × List Gr.Nd) w e w') : Grew w w' ∧ ∃ v lc l', e = .returned (.tuple #[v, .int .i64 0]) ∧ NodesOwn w.heap.size w' v lc ∧ NodesIn w.heap.size w' lc l' ∧ l'.Perm l9 ∧ l'.Pairwise fun a b => a.id ≤ b.id := by
  rcases h with ⟨g, ⟨h1, -⟩ | ⟨-, h2⟩⟩
  · exact absurd rfl h1
  · exact ⟨g, h2⟩
theorem step_not {r : Int × List Gr.Nd} {w w' : World} {e : Ending} (hr : r.1 ≠ 0) (h : StepPost r w e w') : e = .returned (.tuple #[.slice none 0 0, .int .i64 r.1]) ∧ Grew w w' := by
  rcases h with ⟨g, ⟨-, h2⟩ | ⟨h1, -⟩⟩
  · exact ⟨h2, g⟩
  · exact absurd h1 hr
theorem planApply_bad (v vp : Value) (l : List Gr.Nd) (p : List Gr.Stp) (w : World) (hv : NodesAt w v l) (hs : Small l) (hp : StepsAt w vp p) (hb : checkR l ≠ 0 ∨ p.length < 1 ∨ 6 < p.length) : Calls Tryz.prog 16 #[v, vp] w (ApplyPost (Gr.applyE checkR l p) w) := by
  have HCK := Lib.hid fun W2 (g : Grew w W2) => check_graph v l W2 (hv.grew g) hs
  obtain ⟨a, cap, rfl, hm, -⟩ := hv.openC
  obtain ⟨a2, cap2, rfl, hm2, -⟩ := hp.openC
  clear hv hs hp
  by_cases h0 : checkR l ≠ 0
  · have he : Gr.applyE checkR l p = (10, 0, []) := if_pos h0
    rw [he]
    obtain ⟨r, hr⟩ : ∃ r, checkR l = r := ⟨_, rfl⟩
    rw [hr] at HCK h0
    have hne : (r != 0) = true := by rw [bne_iff_ne]; exact h0
    clear hr h0 hb he
    go_enter Tryz.func16, Tryz.ntmps16
    go_wp2_with (go_at_call 8; refine (HCK.out _ (by repeat (first | with_reducible exact Grew.refl _ | apply Grew.more | apply Grew.alloc | apply Grew.drew | apply Grew.drewN))).mono ?_; rintro e w1 ⟨rfl, R3, n3, rfl⟩)
    refine bodyPost_ret (v := .tuple #[.slice none 0 0, .int .i64 0, .int .i64 10]) (by simp [results, Tryz.results16, go_sem]) rfl ⟨by repeat (first | with_reducible exact Grew.refl _ | apply Grew.more | apply Grew.alloc | apply Grew.drew | apply Grew.drewN), .inl ⟨by decide, rfl⟩⟩
  · have h1 := hb.resolve_left h0
    have he : Gr.applyE checkR l p = (11, 0, []) := by unfold Gr.applyE; rw [if_neg h0, if_pos h1]
    rw [he]
    have h00 : checkR l = 0 := by simpa using h0
    rw [h00] at HCK
    clear h00 h0 hb he
    rcases h1 with h1 | h1
    · have h1' : (p.length : Int) < 1 := by omega
      go_enter Tryz.func16, Tryz.ntmps16
      go_wp2_with (go_at_call 8; refine (HCK.out _ (by repeat (first | with_reducible exact Grew.refl _ | apply Grew.more | apply Grew.alloc | apply Grew.drew | apply Grew.drewN))).mono ?_; rintro e w1 ⟨rfl, R3, n3, rfl⟩)
      refine bodyPost_ret (v := .tuple #[.slice none 0 0, .int .i64 0, .int .i64 11]) (by simp [results, Tryz.results16, go_sem]) rfl ⟨by repeat (first | with_reducible exact Grew.refl _ | apply Grew.more | apply Grew.alloc | apply Grew.drew | apply Grew.drewN), .inl ⟨by decide, rfl⟩⟩
    · have h1' : ¬ ((p.length : Int) < 1) := by omega
      have h1'' : (6 : Int) < (p.length : Int) := by omega
      go_enter Tryz.func16, Tryz.ntmps16
      go_wp2_with (go_at_call 8; refine (HCK.out _ (by repeat (first | with_reducible exact Grew.refl _ | apply Grew.more | apply Grew.alloc | apply Grew.drew | apply Grew.drewN))).mono ?_; rintro e w1 ⟨rfl, R3, n3, rfl⟩)
      refine bodyPost_ret (v := .tuple #[.slice none 0 0, .int .i64 0, .int .i64 11]) (by simp [results, Tryz.results16, go_sem]) rfl ⟨by repeat (first | with_reducible exact Grew.refl _ | apply Grew.more | apply Grew.alloc | apply Grew.drew | apply Grew.drewN), .inl ⟨by decide, rfl⟩⟩
theorem planApply_ok (v vp : Value) (l : List Gr.Nd) (p : List Gr.Stp) (w : World) (hv : NodesAt w v l) (hs : Small l) (hp : StepsAt w vp p) (hps : ∀ s ∈ p, smallS s) (hc : checkR l = 0) (h1 : 1 ≤ p.length) (h6 : p.length ≤ 6) : Calls Tryz.prog 16 #[v, vp] w (ApplyPost (Gr.applyE checkR l p) w) := by
  have he : Gr.applyE checkR l p = Gr.stepsE checkR l p 0 := by unfold Gr.applyE; rw [if_neg (by rw [hc]; simp), if_neg (by omega)]
  rw [he]
  have HCK := Lib.hid fun W2 (g : Grew w W2) => check_graph v l W2 (hv.grew g) hs
  rw [hc] at HCK
  have HV := Lib.hid hv
  have HS := Lib.hid hs
  have HPS := Lib.hid hps
  have HP := Lib.hid hp
  obtain ⟨a, cap, rfl, hm, -⟩ := hv.openC
  obtain ⟨a2, cap2, rfl, hm2, -⟩ := hp.openC
  clear he hc hv hs hps hp
  have h1' : ¬ ((p.length : Int) < 1) := by omega
  have h6' : ¬ ((6 : Int) < (p.length : Int)) := by omega
  go_enter Tryz.func16, Tryz.ntmps16
  go_wp2_with (go_at_call 8; refine (HCK.out _ (by repeat (first | with_reducible exact Grew.refl _ | apply Grew.more | apply Grew.alloc | apply Grew.drew | apply Grew.drewN))).mono ?_; rintro e w1 ⟨rfl, R3, n3, rfl⟩)
  go_loopg [0, 26] p.length (fun gg s0 s26 wr => ∃ (k : Nat) (lk : List Gr.Nd), k ≤ p.length ∧ p.length - k ≤ gg ∧ s26 = .int .i64 k ∧ Hid (Grew w wr) ∧ Hid (NodesAt wr s0 lk) ∧ Hid (Small lk) ∧ Hid (SameE (Gr.stepsE checkR l p 0) (Gr.stepsE checkR lk (p.drop k) k)) ∧ Hid (k ≠ 0 → ∃ lc, NodesOwn w.heap.size wr s0 lc ∧ NodesIn w.heap.size wr lc lk ∧ lk.Pairwise fun a b => a.id ≤ b.id))
  case atStart => exact ⟨0, l, by omega, by omega, rfl, Lib.hid (by repeat (first | with_reducible exact Grew.refl _ | apply Grew.more | apply Grew.alloc | apply Grew.drew | apply Grew.drewN)), Lib.hid (HV.out.grew (by repeat (first | with_reducible exact Grew.refl _ | apply Grew.more | apply Grew.alloc | apply Grew.drew | apply Grew.drewN))), HS, Lib.hid (SameE.refl _), Lib.hid fun q => absurd rfl q⟩
  case round =>
    obtain ⟨k, lk, hk, hgg, rfl, HG, HA, HSM, HE, HO⟩ := hrel
    rename World => wa
    by_cases hlt : k < p.length
    · obtain ⟨a', cap', e, -, hx⟩ := (HP.out.grew HG.out).openC
      cases e
      obtain ⟨b, off, c, rfl, hb, hn, c0, c1, c2, c3, c4, c5, c6, c7, c8, c9, c10, c11, c12, c13, c14⟩ := hx k hlt
      have HST := Lib.hid fun W2 (g : Grew wa W2) => planStep_any _ lk c p[k] W2 (HA.out.grew g) HSM.out (hn.grew g) (HPS.out _ (List.getElem_mem hlt))
      have HN0 := Lib.hid (stepsE_no (l := lk) hlt)
      have HGO := Lib.hid fun l2 => stepsE_go (l := lk) (l2 := l2) hlt
      have HSS := Lib.hid (stepE_small HSM.out (HPS.out _ (List.getElem_mem hlt)))
      obtain ⟨a9, cap9, rfl, -, -⟩ := HA.out.openC
      generalize Gr.stepE checkR lk p[k] = r at *
      obtain ⟨r1, l9⟩ := r
      clear hx hn
      obtain ⟨kd, ⟨id, kind, af, nf, cf, ap, np, cp, par, r0, q1, q2, q3, q4, q5, q6, q7⟩, rs⟩ := c
      simp only at c0 c1 c2 c3 c4 c5 c6 c7 c8 c9 c10 c11 c12 c13 c14 HST
      simp only at HN0 HGO HSS
      by_cases hr : r1 = 0
      · subst hr
        have HST2 := Lib.hid fun W2 (g : Grew wa W2) => (HST.out W2 g).mono fun e w' h => step_zero h
        clear HST HN0
        go_wp2_with (go_at_call 51; ((with_reducible refine Calls.mono (HST2.out _ ?_) ?_)); (focus (exact (by repeat (first | with_reducible exact Grew.refl _ | apply Grew.more | apply Grew.alloc | apply Grew.drew | apply Grew.drewN)))); rintro e5 w5 ⟨hg5, v5, lc5, l5, rfl, ho5, hn5, hp5, hs5⟩; obtain ⟨a5, cp5, rfl⟩ := (OwnAt.rows ho5 encNd_len).len; (have HG5 := Lib.hid hg5); (have HO5 := Lib.hid ho5); (have HN5 := Lib.hid hn5); (have HP5 := Lib.hid hp5); (have HS5 := Lib.hid hs5); clear hg5 ho5 hn5 hp5 hs5)
        have hw5 : Grew w w5 := HG.out.trans (Grew.trans (by repeat (first | with_reducible exact Grew.refl _ | apply Grew.more | apply Grew.alloc | apply Grew.drew | apply Grew.drewN)) HG5.out)
        have hbase : w.heap.size ≤ (wa.alloc (.cells #[.int .i64 kd, .int .i64 id, .int .i64 kind, .slice af nf cf, .slice ap np cp, .int .i64 par, .int .i64 r0, .int .i64 q1, .int .i64 q2, .int .i64 q3, .int .i64 q4, .int .i64 q5, .int .i64 q6, .int .i64 q7, .bool rs] 73)).heap.size := (HG.out.trans (by repeat (first | with_reducible exact Grew.refl _ | apply Grew.more | apply Grew.alloc | apply Grew.drew | apply Grew.drewN))).below.size
        have hown := OwnAt.low HO5.out hbase
        have hin := NodesIn.low HN5.out hbase
        go_roundg (p.length - (k + 1))
        case measure => omega
        case rel => exact ⟨k + 1, l5, by omega, by omega, by go_num, Lib.hid (hw5.trans (by repeat (first | with_reducible exact Grew.refl _ | apply Grew.more | apply Grew.alloc | apply Grew.drew | apply Grew.drewN))), Lib.hid ((NodesIn.at hin hown).grew (by repeat (first | with_reducible exact Grew.refl _ | apply Grew.more | apply Grew.alloc | apply Grew.drew | apply Grew.drewN))), Lib.hid (small_perm HSS.out HP5.out), Lib.hid (HE.out.trans (HGO.out _ (by first | trivial | rfl) HP5.out)), Lib.hid fun _ => ⟨lc5, OwnAt.grew hown (by repeat (first | with_reducible exact Grew.refl _ | apply Grew.more | apply Grew.alloc | apply Grew.drew | apply Grew.drewN)), hin.grew (by repeat (first | with_reducible exact Grew.refl _ | apply Grew.more | apply Grew.alloc | apply Grew.drew | apply Grew.drewN)), HS5.out⟩⟩
      · have HST2 := Lib.hid fun W2 (g : Grew wa W2) => (HST.out W2 g).mono fun e w' h => step_not (r := (r1, l9)) hr h
        have hb2 : (r1 != 0) = true := by rw [bne_iff_ne]; exact hr
        have HR := Lib.hid hr
        have hwk : IntKind.i64.wrap ((k : Int) + 1) = (k : Int) + 1 := IntWalk.i64_in _ (by omega)
        clear HST hr
        simp only at HST2
        go_wp2_with (go_at_call 51; ((with_reducible refine Calls.mono (HST2.out _ ?_) ?_)); (focus (exact (by repeat (first | with_reducible exact Grew.refl _ | apply Grew.more | apply Grew.alloc | apply Grew.drew | apply Grew.drewN)))); rintro e5 w5 ⟨rfl, hg5⟩; (have HG5 := Lib.hid hg5); clear hg5)
        have hE := HE.out
        rw [HN0.out HR.out] at hE
        exact bodyPost_ret (v := .tuple #[.slice none 0 0, .int .i64 ((k : Int) + 1), .int .i64 r1]) (by simp [results, Tryz.results16, go_sem]) rfl ⟨HG.out.trans ((Grew.trans (by repeat (first | with_reducible exact Grew.refl _ | apply Grew.more | apply Grew.alloc | apply Grew.drew | apply Grew.drewN)) HG5.out).trans (by repeat (first | with_reducible exact Grew.refl _ | apply Grew.more | apply Grew.alloc | apply Grew.drew | apply Grew.drewN))), .inl ⟨by rw [hE.1]; exact HR.out, by rw [hE.1, hE.2.1]; rfl⟩⟩
    · obtain rfl : k = p.length := by omega
      have hE := HE.out
      rw [List.drop_length, Gr.stepsE] at hE
      have HE9 := Lib.hid hE
      clear hE
      obtain ⟨lc, ho, hn, hso⟩ := HO.out (by omega)
      have HO9 := Lib.hid ho
      have HN9 := Lib.hid hn
      have HSO := Lib.hid hso
      obtain ⟨a9, cap9, rfl, -, -⟩ := HA.out.openC
      clear ho hn hso
      go_wp2
      exact bodyPost_ret (v := .tuple #[.slice a9 lk.length cap9, .int .i64 0, .int .i64 0]) (by simp [results, Tryz.results16, go_sem]) rfl ⟨HG.out.trans (by repeat (first | with_reducible exact Grew.refl _ | apply Grew.more | apply Grew.alloc | apply Grew.drew | apply Grew.drewN)), .inr ⟨HE9.out.1, _, lc, lk, rfl, HO9.out.grew (by repeat (first | with_reducible exact Grew.refl _ | apply Grew.more | apply Grew.alloc | apply Grew.drew | apply Grew.drewN)), HN9.out.grew (by repeat (first | with_reducible exact Grew.refl _ | apply Grew.more | apply Grew.alloc | apply Grew.drew | apply Grew.drewN)), HE9.out.2.2.symm, HSO.out, HSM.out⟩⟩
theorem planApply_any (v vp : Value) (l : List Gr.Nd) (p : List Gr.Stp) (w : World) (hv : NodesAt w v l) (hs : Small l) (hp : StepsAt w vp p) (hps : ∀ s ∈ p, smallS s) : Calls Tryz.prog 16 #[v, vp] w (ApplyPost (Gr.applyE checkR l p) w) := by
  by_cases h : checkR l ≠ 0 ∨ p.length < 1 ∨ 6 < p.length
  · exact planApply_bad v vp l p w hv hs hp h
  · have hc : checkR l = 0 := Classical.byContradiction fun q => h (.inl q)
    exact planApply_ok v vp l p w hv hs hp hps hc (by omega) (by omega)
end Go.Proofs.YtpbohimddmploaaGreat
