import Derived.Test.YtmnllmbchpebbaaGreatDoorGe19
import Derived.Test.YtmnllmbchpebbaaGreatDoorGe25
import Derived.Test.YtmnllmbchpebbaaGreatDoorGe26
import Derived.BigRegion
/-! lines: same, told, step, Plan. -/
namespace Go.Proofs.YtmnllmbchpebbaaGreatDoor
set_option linter.unusedSimpArgs false
set_option linter.unusedVariables false
open Go.RowKit Ga
set_option maxRecDepth 100000

set_option maxHeartbeats 8000000 in
theorem same_any (c d : StC) (s t : Gr.Stp) (w : World) (hn : StepIs w c s) (hm : StepIs w d t) (hs : s.nd.frm.length ≤ 1000 ∧ s.nd.prog.length ≤ 1000) (ht : t.nd.frm.length ≤ 1000 ∧ t.nd.prog.length ≤ 1000) : Calls Tryz.prog 68 #[.agg #[.int .i64 c.kind, .int .i64 c.c.id, .int .i64 c.c.kind, .slice c.c.af c.c.nf c.c.cf, .slice c.c.ap c.c.np c.c.cp, .int .i64 c.c.par, .int .i64 c.c.r0, .int .i64 c.c.r1, .int .i64 c.c.r2, .int .i64 c.c.r3, .int .i64 c.c.r4, .int .i64 c.c.r5, .int .i64 c.c.r6, .int .i64 c.c.r7, .bool c.reset], .agg #[.int .i64 d.kind, .int .i64 d.c.id, .int .i64 d.c.kind, .slice d.c.af d.c.nf d.c.cf, .slice d.c.ap d.c.np d.c.cp, .int .i64 d.c.par, .int .i64 d.c.r0, .int .i64 d.c.r1, .int .i64 d.c.r2, .int .i64 d.c.r3, .int .i64 d.c.r4, .int .i64 d.c.r5, .int .i64 d.c.r6, .int .i64 d.c.r7, .bool d.reset]] w (Gives (.bool (eqSt s t)) w) := by
  have HEQ := Lib.hid (eqSt_iff (s := s) (t := t))
  have HN := Lib.hid hn.nd
  have HM := Lib.hid hm.nd
  have e1 := hn.kind
  have e2 := hn.reset
  have g1 := hm.kind
  have g2 := hm.reset
  have HSS := Lib.hid hs
  have HTT := Lib.hid ht
  obtain ⟨kd, rs, id, kind, af, cf, ap, cp, par, r0, r1, r2, r3, r4, r5, r6, r7, rfl⟩ := hn.lit
  obtain ⟨kd2, rs2, id2, kind2, af2, cf2, ap2, cp2, par2, s0, s1, s2, s3, s4, s5, s6, s7, rfl⟩ := hm.lit
  simp only at e1 e2 g1 g2
  rw [e1, e2, g1, g2] at HEQ
  clear hn hm e1 e2 g1 g2 hs ht
  generalize eqSt s t = q at *
  by_cases h1 : kd = kd2
  case neg =>
    have hq : q = false := by rw [HEQ.out, decide_eq_false h1]; rfl
    have HQ := Lib.hid hq
    have h1b : (kd == kd2) = false := by simpa using h1
    clear h1 hq
    go_enter Tryz.func68, Tryz.ntmps68
    go_wp2
    go_ret
    exact ⟨by rw [HQ.out]; rfl, by repeat (first | with_reducible exact Grew.refl _ | apply Grew.more | apply Grew.alloc | apply Grew.drew | apply Grew.drewN)⟩
  subst h1
  by_cases h2 : rs = rs2
  case neg =>
    have hq : q = false := by rw [HEQ.out, beq_eq_false_iff_ne.2 h2]; simp
    have HQ := Lib.hid hq
    have h2b : (rs == rs2) = false := beq_eq_false_iff_ne.2 h2
    clear h2 hq
    go_enter Tryz.func68, Tryz.ntmps68
    go_wp2
    go_ret
    exact ⟨by rw [HQ.out]; rfl, by repeat (first | with_reducible exact Grew.refl _ | apply Grew.more | apply Grew.alloc | apply Grew.drew | apply Grew.drewN)⟩
  subst h2
  cases hq2 : eqNd s.nd t.nd
  · have hq : q = false := by rw [HEQ.out, hq2]; simp
    have HQ := Lib.hid hq
    have HQ2 := Lib.hid hq2
    clear hq hq2
    go_enter Tryz.func68, Tryz.ntmps68
    go_wp2_with (go_at_call 86; refine Calls.mono (same_one _ _ s.nd t.nd _ ?_ ?_ HSS.out HTT.out) ?_; (focus (refine NodesAt.grew ?_ ((Grew.refl _).alloc _); exact NodesAt.one (HN.out.grew (by repeat (first | with_reducible exact Grew.refl _ | apply Grew.more | apply Grew.alloc | apply Grew.drew | apply Grew.drewN))) _ (by simp [World.size_alloc]) _ rfl)); (focus exact NodesAt.one (HM.out.grew (by repeat (first | with_reducible exact Grew.refl _ | apply Grew.more | apply Grew.alloc | apply Grew.drew | apply Grew.drewN))) _ (by simp [World.size_alloc]) _ rfl); rintro e w1 ⟨rfl, R1, n1, rfl⟩; rw [HQ2.out])
    go_ret
    exact ⟨by rw [HQ.out]; rfl, by repeat (first | with_reducible exact Grew.refl _ | apply Grew.more | apply Grew.alloc | apply Grew.drew | apply Grew.drewN)⟩
  · have hq : q = true := by rw [HEQ.out, hq2]; simp
    have HQ := Lib.hid hq
    have HQ2 := Lib.hid hq2
    clear hq hq2
    go_enter Tryz.func68, Tryz.ntmps68
    go_wp2_with (go_at_call 86; refine Calls.mono (same_one _ _ s.nd t.nd _ ?_ ?_ HSS.out HTT.out) ?_; (focus (refine NodesAt.grew ?_ ((Grew.refl _).alloc _); exact NodesAt.one (HN.out.grew (by repeat (first | with_reducible exact Grew.refl _ | apply Grew.more | apply Grew.alloc | apply Grew.drew | apply Grew.drewN))) _ (by simp [World.size_alloc]) _ rfl)); (focus exact NodesAt.one (HM.out.grew (by repeat (first | with_reducible exact Grew.refl _ | apply Grew.more | apply Grew.alloc | apply Grew.drew | apply Grew.drewN))) _ (by simp [World.size_alloc]) _ rfl); rintro e w1 ⟨rfl, R1, n1, rfl⟩; rw [HQ2.out])
    go_ret
    exact ⟨by rw [HQ.out]; rfl, by repeat (first | with_reducible exact Grew.refl _ | apply Grew.more | apply Grew.alloc | apply Grew.drew | apply Grew.drewN)⟩

open Classical in
noncomputable def toldB (s : Gr.Stp) : Bool := decide (Li.Told s)
open Classical in
theorem toldB_true {s : Gr.Stp} (h : Li.Told s) : toldB s = true := by unfold toldB; exact decide_eq_true h
open Classical in
theorem toldB_false {s : Gr.Stp} (h : ¬ Li.Told s) : toldB s = false := by unfold toldB; exact decide_eq_false h
theorem lclean_small (s : Gr.Stp) (h : s.nd.frm.length ≤ 1000 ∧ s.nd.prog.length ≤ 1000) : (Gr.cleanS s).nd.frm.length ≤ 1000 ∧ (Gr.cleanS s).nd.prog.length ≤ 1000 := by
  unfold Gr.cleanS
  split
  · exact ⟨by simp, h.2⟩
  split
  · exact h
  split
  · simp
  split
  · simp
  split
  · exact ⟨h.1, by simp⟩
  · simp
theorem eqSt_true' {s t : Gr.Stp} (h : s = t) : eqSt s t = true := by unfold eqSt; simp [h]
theorem eqSt_false' {s t : Gr.Stp} (h : s ≠ t) : eqSt s t = false := by unfold eqSt; simp [h]
/-- a value that says the step s -/
def StV (s : Gr.Stp) (v : Value) (w : World) : Prop := ∃ d : StC, v = .agg #[.int .i64 d.kind, .int .i64 d.c.id, .int .i64 d.c.kind, .slice d.c.af d.c.nf d.c.cf, .slice d.c.ap d.c.np d.c.cp, .int .i64 d.c.par, .int .i64 d.c.r0, .int .i64 d.c.r1, .int .i64 d.c.r2, .int .i64 d.c.r3, .int .i64 d.c.r4, .int .i64 d.c.r5, .int .i64 d.c.r6, .int .i64 d.c.r7, .bool d.reset] ∧ StepIs w d s
theorem StV.st (s : Gr.Stp) : ∀ v w w', StV s v w → Grew w w' → StV s v w' := fun _ _ _ ⟨d, h1, h2⟩ g => ⟨d, h1, h2.grew g⟩
set_option maxHeartbeats 16000000 in
theorem told_any (c : StC) (s : Gr.Stp) (w : World) (hP : Pow w) (hA : Asc w) (hn : StepIs w c s) : Calls Tryz.prog 24 #[.agg #[.int .i64 c.kind, .int .i64 c.c.id, .int .i64 c.c.kind, .slice c.c.af c.c.nf c.c.cf, .slice c.c.ap c.c.np c.c.cp, .int .i64 c.c.par, .int .i64 c.c.r0, .int .i64 c.c.r1, .int .i64 c.c.r2, .int .i64 c.c.r3, .int .i64 c.c.r4, .int .i64 c.c.r5, .int .i64 c.c.r6, .int .i64 c.c.r7, .bool c.reset]] w (Gives (.bool (toldB s)) w) := by
  have HF := Lib.hid fun W (q : Grew w W) => fits_any c.c s.nd W (hn.nd.grew q)
  have HT := Lib.hid fun W (q : Grew w W) => nodeText_any c.c s.nd W (hP.grew q) (hA.grew q) (hn.nd.grew q)
  have hk := hn.kind
  obtain ⟨q, hq⟩ : ∃ q, toldB s = q := ⟨_, rfl⟩
  rw [hq]
  by_cases k1 : 1 ≤ s.kind ∧ s.kind ≤ 5
  case neg =>
    have e : q = false := by rw [← hq]; exact toldB_false fun h => k1 h.1
    subst e
    rw [hk] at k1
    obtain ⟨kind, ⟨id, kd, af, nf, cf, ap, np, cp, par, r0, r1, r2, r3, r4, r5, r6, r7⟩, reset⟩ := c
    simp only at k1
    clear hn hP hA HT hk hq
    rcases (show kind < 1 ∨ 5 < kind by omega) with k2 | k2
    all_goals
      go_enter Tryz.func24, Tryz.ntmps24
      go_wp2
      go_ret
      exact ⟨rfl, by repeat (first | with_reducible exact Grew.refl _ | apply Grew.more | apply Grew.alloc | apply Grew.drew | apply Grew.drewN)⟩
  cases hf : Li.fitsN s.nd
  case false =>
    have e : q = false := by rw [← hq]; exact toldB_false fun h => by rw [h.2.1] at hf; cases hf
    subst e
    rw [hk] at k1
    rw [hf] at HF
    obtain ⟨kind, ⟨id, kd, af, nf, cf, ap, np, cp, par, r0, r1, r2, r3, r4, r5, r6, r7⟩, reset⟩ := c
    simp only at k1
    obtain ⟨k2, k3⟩ := k1
    clear hn hP hA HT hk hf hq
    go_enter Tryz.func24, Tryz.ntmps24
    go_wp2_with (go_at_call 66; refine (HF.out _ (by repeat (first | with_reducible exact Grew.refl _ | apply Grew.more | apply Grew.alloc | apply Grew.drew | apply Grew.drewN))).mono ?_; rintro e w1 ⟨rfl, R1, n1, rfl⟩)
    go_ret
    exact ⟨rfl, by repeat (first | with_reducible exact Grew.refl _ | apply Grew.more | apply Grew.alloc | apply Grew.drew | apply Grew.drewN)⟩
  rw [hf] at HF
  by_cases k5 : s.kind = 2 ∧ Li.nodeT s.nd = []
  case pos =>
    have e : q = false := by rw [← hq]; exact toldB_false fun h => h.2.2.1 k5.1 k5.2
    subst e
    obtain ⟨k6, k7⟩ := k5
    rw [hk] at k6
    rw [k7] at HT
    obtain ⟨kind, ⟨id, kd, af, nf, cf, ap, np, cp, par, r0, r1, r2, r3, r4, r5, r6, r7⟩, reset⟩ := c
    simp only at k6
    subst k6
    clear hn hP hA hk hf hq k1 k7
    go_enter Tryz.func24, Tryz.ntmps24
    go_wp2_with (first
      | (go_at_call 66; refine (HF.out _ (by repeat (first | with_reducible exact Grew.refl _ | apply Grew.more | apply Grew.alloc | apply Grew.drew | apply Grew.drewN))).mono ?_; rintro e w1 ⟨rfl, R1, n1, rfl⟩)
      | (go_at_call 67; refine (HT.out _ (by repeat (first | with_reducible exact Grew.refl _ | apply Grew.more | apply Grew.alloc | apply Grew.drew | apply Grew.drewN))).mono ?_; rintro e w1 ⟨rfl, R2, n2, rfl⟩))
    go_ret
    exact ⟨rfl, by repeat (first | with_reducible exact Grew.refl _ | apply Grew.more | apply Grew.alloc | apply Grew.drew | apply Grew.drewN)⟩
  have hN := fitN hf
  have hsm : s.nd.frm.length ≤ 1000 ∧ s.nd.prog.length ≤ 1000 := ⟨Nat.le_trans hN.l60 (by decide), Nat.le_trans (Co.fits_parts hN.pr).1 (by decide)⟩
  have HC := Lib.hid fun W (q : Grew w W) => clean49_any c s W (hn.grew q) hsm
  have HSM := Lib.hid fun W (q : Grew w W) d (hd : StepIs W d (Gr.cleanS s)) => same_any c d s (Gr.cleanS s) W (hn.grew q) hd hsm (lclean_small s hsm)
  have eq : eqSt s (Gr.cleanS s) = q := by
    rw [← hq]
    by_cases hc : Gr.cleanS s = s
    · rw [toldB_true ⟨k1, hf, fun q1 q2 => k5 ⟨q1, q2⟩, hc⟩]
      exact eqSt_true' hc.symm
    · rw [toldB_false fun h => hc h.2.2.2]
      exact eqSt_false' fun h => hc h.symm
  rw [eq] at HSM
  rw [hk] at k1 k5
  have ht2 : c.kind = 2 → (Li.nodeT s.nd).isEmpty = false := fun h => by
    cases ht : Li.nodeT s.nd with
    | nil => exact absurd ⟨h, ht⟩ k5
    | cons => rfl
  generalize Gr.cleanS s = z at *
  generalize Li.nodeT s.nd = nt at *
  obtain ⟨kind, ⟨id, kd, af, nf, cf, ap, np, cp, par, r0, r1, r2, r3, r4, r5, r6, r7⟩, reset⟩ := c
  simp only at k1 k5 ht2
  obtain ⟨k2, k3⟩ := k1
  clear hn hP hA hk hf hq hN hsm eq k5
  by_cases k8 : kind = 2
  · subst k8
    have ht3 := ht2 rfl
    clear ht2
    go_enter Tryz.func24, Tryz.ntmps24
    go_wp2_with (first
      | (go_at_call 66; refine (HF.out _ (by repeat (first | with_reducible exact Grew.refl _ | apply Grew.more | apply Grew.alloc | apply Grew.drew | apply Grew.drewN))).mono ?_; rintro e w1 ⟨rfl, R1, n1, rfl⟩)
      | (go_at_call 67; refine (HT.out _ (by repeat (first | with_reducible exact Grew.refl _ | apply Grew.more | apply Grew.alloc | apply Grew.drew | apply Grew.drewN))).mono ?_; rintro e w1 ⟨rfl, R2, n2, rfl⟩)
      | fail)
    refine wp_region_seq 5 Tryz.mixed (by kernel_rfl) (by kernel_rfl) ?_
    iterate 2
      apply Seq.val
      focus
        rintro w1 u ⟨R1, n1, rfl⟩ hF
        simp [moreFacts, Fact.more, Oper.deps, Region.binds, List.filter_cons, World.more_drew] at hF
        simp [putFacts, Oper.deps, Region.binds, List.filter_cons, Region.dstOf, Fact.at, Act.put, World.more_drew]
        go_wp2
        exact ⟨by repeat (first | with_reducible exact Grew.refl _ | apply Grew.more | apply Grew.alloc | apply Grew.drew | apply Grew.drewN), rfl, _, _, rfl, rfl, rfl⟩
    apply Seq.of (StV z) (StV.st z)
    focus
      rintro w1 u ⟨R1, n1, rfl⟩ hF
      simp [moreFacts, Fact.more, Oper.deps, Region.binds, List.filter_cons, World.more_drew] at hF
      simp [putFacts, Oper.deps, Region.binds, List.filter_cons, Region.dstOf, Fact.at, Act.put, World.more_drew]
      go_wp2_with (first
        | (go_at_call 45; refine (HC.out _ (by repeat (first | with_reducible exact Grew.refl _ | apply Grew.more | apply Grew.alloc | apply Grew.drew | apply Grew.drewN))).mono ?_; rintro e w2 ⟨d1, rfl, h9, -, R3, n3, rfl⟩)
        )
      exact ⟨by repeat (first | with_reducible exact Grew.refl _ | apply Grew.more | apply Grew.alloc | apply Grew.drew | apply Grew.drewN), rfl, _, _, rfl, rfl, ⟨d1, rfl, h9⟩⟩
    apply Seq.val
    focus
      rintro w1 u ⟨R1, n1, rfl⟩ hF
      simp [moreFacts, Fact.more, Oper.deps, Region.binds, List.filter_cons, World.more_drew] at hF
      simp [putFacts, Oper.deps, Region.binds, List.filter_cons, Region.dstOf, Fact.at, Act.put, World.more_drew]
      obtain ⟨d1, hu, hn2⟩ := hF; rw [hu]
      go_wp2_with (first
        | (go_at_call 68; refine (HSM.out _ (by repeat (first | with_reducible exact Grew.refl _ | apply Grew.more | apply Grew.alloc | apply Grew.drew | apply Grew.drewN)) d1 (hn2.grew (by repeat (first | with_reducible exact Grew.refl _ | apply Grew.more | apply Grew.alloc | apply Grew.drew | apply Grew.drewN)))).mono ?_; rintro e w1 ⟨rfl, R4, n4, rfl⟩)
        )
      exact ⟨by repeat (first | with_reducible exact Grew.refl _ | apply Grew.more | apply Grew.alloc | apply Grew.drew | apply Grew.drewN), rfl, _, _, rfl, rfl, rfl⟩
    iterate 1
      apply Seq.val
      focus
        rintro w1 u ⟨R1, n1, rfl⟩ hF
        simp [moreFacts, Fact.more, Oper.deps, Region.binds, List.filter_cons, World.more_drew] at hF
        simp [putFacts, Oper.deps, Region.binds, List.filter_cons, Region.dstOf, Fact.at, Act.put, World.more_drew]
        go_wp2
        exact ⟨by repeat (first | with_reducible exact Grew.refl _ | apply Grew.more | apply Grew.alloc | apply Grew.drew | apply Grew.drewN), rfl, _, _, rfl, rfl, rfl⟩
    rintro u w1 ⟨R1, n1, rfl⟩ hF
    clear hF
    simp [putFacts, Region.dstOf, Fact.at, Act.put, List.range_succ, World.more_drew]
    go_wp2
    go_ret
    exact ⟨rfl, by repeat (first | with_reducible exact Grew.refl _ | apply Grew.more | apply Grew.alloc | apply Grew.drew | apply Grew.drewN)⟩
  · clear ht2 HT
    go_enter Tryz.func24, Tryz.ntmps24
    go_wp2_with (first
      | (go_at_call 66; refine (HF.out _ (by repeat (first | with_reducible exact Grew.refl _ | apply Grew.more | apply Grew.alloc | apply Grew.drew | apply Grew.drewN))).mono ?_; rintro e w1 ⟨rfl, R1, n1, rfl⟩)
      | fail)
    refine wp_region_seq 5 Tryz.mixed (by kernel_rfl) (by kernel_rfl) ?_
    iterate 2
      apply Seq.val
      focus
        rintro w1 u ⟨R1, n1, rfl⟩ hF
        simp [moreFacts, Fact.more, Oper.deps, Region.binds, List.filter_cons, World.more_drew] at hF
        simp [putFacts, Oper.deps, Region.binds, List.filter_cons, Region.dstOf, Fact.at, Act.put, World.more_drew]
        go_wp2
        exact ⟨by repeat (first | with_reducible exact Grew.refl _ | apply Grew.more | apply Grew.alloc | apply Grew.drew | apply Grew.drewN), rfl, _, _, rfl, rfl, rfl⟩
    apply Seq.of (StV z) (StV.st z)
    focus
      rintro w1 u ⟨R1, n1, rfl⟩ hF
      simp [moreFacts, Fact.more, Oper.deps, Region.binds, List.filter_cons, World.more_drew] at hF
      simp [putFacts, Oper.deps, Region.binds, List.filter_cons, Region.dstOf, Fact.at, Act.put, World.more_drew]
      go_wp2_with (first
        | (go_at_call 45; refine (HC.out _ (by repeat (first | with_reducible exact Grew.refl _ | apply Grew.more | apply Grew.alloc | apply Grew.drew | apply Grew.drewN))).mono ?_; rintro e w2 ⟨d1, rfl, h9, -, R3, n3, rfl⟩)
        )
      exact ⟨by repeat (first | with_reducible exact Grew.refl _ | apply Grew.more | apply Grew.alloc | apply Grew.drew | apply Grew.drewN), rfl, _, _, rfl, rfl, ⟨d1, rfl, h9⟩⟩
    apply Seq.val
    focus
      rintro w1 u ⟨R1, n1, rfl⟩ hF
      simp [moreFacts, Fact.more, Oper.deps, Region.binds, List.filter_cons, World.more_drew] at hF
      simp [putFacts, Oper.deps, Region.binds, List.filter_cons, Region.dstOf, Fact.at, Act.put, World.more_drew]
      obtain ⟨d1, hu, hn2⟩ := hF; rw [hu]
      go_wp2_with (first
        | (go_at_call 68; refine (HSM.out _ (by repeat (first | with_reducible exact Grew.refl _ | apply Grew.more | apply Grew.alloc | apply Grew.drew | apply Grew.drewN)) d1 (hn2.grew (by repeat (first | with_reducible exact Grew.refl _ | apply Grew.more | apply Grew.alloc | apply Grew.drew | apply Grew.drewN)))).mono ?_; rintro e w1 ⟨rfl, R4, n4, rfl⟩)
        )
      exact ⟨by repeat (first | with_reducible exact Grew.refl _ | apply Grew.more | apply Grew.alloc | apply Grew.drew | apply Grew.drewN), rfl, _, _, rfl, rfl, rfl⟩
    iterate 1
      apply Seq.val
      focus
        rintro w1 u ⟨R1, n1, rfl⟩ hF
        simp [moreFacts, Fact.more, Oper.deps, Region.binds, List.filter_cons, World.more_drew] at hF
        simp [putFacts, Oper.deps, Region.binds, List.filter_cons, Region.dstOf, Fact.at, Act.put, World.more_drew]
        go_wp2
        exact ⟨by repeat (first | with_reducible exact Grew.refl _ | apply Grew.more | apply Grew.alloc | apply Grew.drew | apply Grew.drewN), rfl, _, _, rfl, rfl, rfl⟩
    rintro u w1 ⟨R1, n1, rfl⟩ hF
    clear hF
    simp [putFacts, Region.dstOf, Fact.at, Act.put, List.range_succ, World.more_drew]
    go_wp2
    go_ret
    exact ⟨rfl, by repeat (first | with_reducible exact Grew.refl _ | apply Grew.more | apply Grew.alloc | apply Grew.drew | apply Grew.drewN)⟩
theorem nodeT_len (n : Gr.Nd) (h8 : n.route.length = 8) : (Li.nodeT n).length ≤ 1200 := by
  by_cases h : Li.nodeT n = []
  · rw [h]; simp
  obtain ⟨hf, hk⟩ := Li.nodeT_ne h
  have hN := fitN hf
  have l1 := Li.itoa_len8 hN.id
  have l2 := listT_len hN.frm hN.l60
  have l3 := textI_len400 hN.pr
  have l4 := Li.itoa_len8 hN.par
  have l5 : (Li.rtx n.route).length = 8 := by unfold Li.rtx; simpa using h8
  have c1 : Li.sSOURCE.length = 6 := rfl
  have c2 : Li.sOP.length = 2 := rfl
  have c3 : Li.sSINK.length = 4 := rfl
  have c4 : Li.behind.length = 2 := rfl
  unfold Li.nodeT Li.placeT
  repeat' split
  all_goals simp only [List.length_append, List.length_cons, List.length_nil]
  all_goals omega
set_option maxHeartbeats 32000000 in
theorem lstep_any (c : StC) (s : Gr.Stp) (w : World) (hP : Pow w) (hA : Asc w) (hn : StepIs w c s) (ht : Li.Told s) : Calls Tryz.prog 25 #[.agg #[.int .i64 c.kind, .int .i64 c.c.id, .int .i64 c.c.kind, .slice c.c.af c.c.nf c.c.cf, .slice c.c.ap c.c.np c.c.cp, .int .i64 c.c.par, .int .i64 c.c.r0, .int .i64 c.c.r1, .int .i64 c.c.r2, .int .i64 c.c.r3, .int .i64 c.c.r4, .int .i64 c.c.r5, .int .i64 c.c.r6, .int .i64 c.c.r7, .bool c.reset]] w (Gives (str (Li.stepT s)) w) := by
  obtain ⟨⟨k1, k5⟩, hf, -, -⟩ := ht
  have h8 : s.nd.route.length = 8 := by rw [hn.nd.route]; rfl
  have hN := fitN hf
  have hrt := hN.rt
  rw [hn.nd.route] at hrt
  have hpar := hN.par
  rw [hn.nd.par] at hpar
  have hid := hN.id
  rw [hn.nd.id] at hid
  have HI := Lib.hid fun W (q : Grew w W) => itoa_any c.c.id (num_range hid) W (hP.grew q)
  have HL := Lib.hid fun W (q : Grew w W) => list_any c.c.vf s.nd.frm W (hP.grew q) (hn.nd.f.grew q) hN.frm hN.l60
  have HPL := Lib.hid fun W (q : Grew w W) => place_any c.c.id c.c.kind c.c.par c.c.r0 c.c.r1 c.c.r2 c.c.r3 c.c.r4 c.c.r5 c.c.r6 c.c.r7 c.c.af c.c.ap c.c.nf c.c.cf c.c.np c.c.cp W (hP.grew q) hpar hrt
  have HT := Lib.hid fun W (q : Grew w W) => codeText_any c.c.vp s.nd.prog W (hn.nd.p.grew q) (hP.grew q) (hA.grew q)
  rw [textOut_fits hN.pr] at HT
  have HN := Lib.hid fun W (q : Grew w W) => nodeText_any c.c s.nd W (hP.grew q) (hA.grew q) (hn.nd.grew q)
  have l1 := Li.itoa_len8 hid
  have l2 := listT_len hN.frm hN.l60
  have l3 := textI_len400 hN.pr
  have l4 : (Lib.itoa c.c.par ++ 32 :: Li.rtx [c.c.r0, c.c.r1, c.c.r2, c.c.r3, c.c.r4, c.c.r5, c.c.r6, c.c.r7]).length ≤ 20 := by
    have := Li.itoa_len8 hpar
    have := rtx_len8 c.c.r0 c.c.r1 c.c.r2 c.c.r3 c.c.r4 c.c.r5 c.c.r6 c.c.r7
    simp only [List.length_append, List.length_cons]
    omega
  have l5 := nodeT_len s.nd h8
  have hPT : Li.placeT s.nd = Lib.itoa c.c.par ++ 32 :: Li.rtx [c.c.r0, c.c.r1, c.c.r2, c.c.r3, c.c.r4, c.c.r5, c.c.r6, c.c.r7] := by
    unfold Li.placeT
    rw [hn.nd.par, hn.nd.route]
  have hST : Li.stepT s = if c.kind = 1 then Li.sSWAP ++ 32 :: (Lib.itoa c.c.id ++ 32 :: ((if c.reset = true then Li.sRESET else Li.sKEEP) ++ (Li.behind ++ Co.textI s.nd.prog)))
      else if c.kind = 2 then Li.sADD ++ 32 :: Li.nodeT s.nd
      else if c.kind = 3 then Li.sREMOVE ++ 32 :: Lib.itoa c.c.id
      else if c.kind = 4 then Li.sROUTE ++ 32 :: (Lib.itoa c.c.id ++ 32 :: Li.placeT s.nd)
      else Li.sLINK ++ 32 :: (Lib.itoa c.c.id ++ 32 :: Li.listT s.nd.frm) := by
    unfold Li.stepT
    rw [hn.kind, hn.reset, hn.nd.id]
  rw [hPT] at hST
  rw [hST]
  rw [hn.kind] at k1 k5
  obtain ⟨kind, ⟨id, kd, af, nf, cf, ap, np, cp, par, r0, r1, r2, r3, r4, r5, r6, r7⟩, reset⟩ := c
  clear hn hN hrt hpar hid hf hP hA hPT hST h8
  simp only at *
  generalize Lib.itoa id = it at *
  generalize Li.listT s.nd.frm = lt at *
  generalize Co.textI s.nd.prog = ct at *
  generalize Li.nodeT s.nd = nt at *
  generalize Lib.itoa par ++ 32 :: Li.rtx [r0, r1, r2, r3, r4, r5, r6, r7] = pt at *
  rcases (show kind = 1 ∨ kind = 2 ∨ kind = 3 ∨ kind = 4 ∨ kind = 5 by omega) with rfl | rfl | rfl | rfl | rfl
  · rw [if_pos rfl]
    cases reset
    · rw [if_neg (by decide)]
      go_enter Tryz.func25, Tryz.ntmps25
      go_wp2_with (first
        | (go_at_call 33; refine (HI.out _ (by repeat (first | with_reducible exact Grew.refl _ | apply Grew.more | apply Grew.alloc | apply Grew.drew | apply Grew.drewN))).mono ?_; rintro e w1 ⟨rfl, R1, n1, rfl⟩)
        | (go_at_call 71; refine (HL.out _ (by repeat (first | with_reducible exact Grew.refl _ | apply Grew.more | apply Grew.alloc | apply Grew.drew | apply Grew.drewN))).mono ?_; rintro e w1 ⟨rfl, R2, n2, rfl⟩)
        | (go_at_call 70; refine (HPL.out _ (by repeat (first | with_reducible exact Grew.refl _ | apply Grew.more | apply Grew.alloc | apply Grew.drew | apply Grew.drewN))).mono ?_; rintro e w1 ⟨rfl, R3, n3, rfl⟩)
        | (go_at_call 69; refine (HT.out _ (by repeat (first | with_reducible exact Grew.refl _ | apply Grew.more | apply Grew.alloc | apply Grew.drew | apply Grew.drewN))).mono ?_; rintro e w1 ⟨rfl, R4, n4, rfl⟩)
        | (go_at_call 67; refine (HN.out _ (by repeat (first | with_reducible exact Grew.refl _ | apply Grew.more | apply Grew.alloc | apply Grew.drew | apply Grew.drewN))).mono ?_; rintro e w1 ⟨rfl, R5, n5, rfl⟩))
      go_ret
      exact ⟨by simp [str_cat, Li.sSWAP, Li.sADD, Li.sREMOVE, Li.sROUTE, Li.sLINK, Li.sKEEP, Li.sRESET, Li.behind], by repeat (first | with_reducible exact Grew.refl _ | apply Grew.more | apply Grew.alloc | apply Grew.drew | apply Grew.drewN)⟩
    · rw [if_pos rfl]
      go_enter Tryz.func25, Tryz.ntmps25
      go_wp2_with (first
        | (go_at_call 33; refine (HI.out _ (by repeat (first | with_reducible exact Grew.refl _ | apply Grew.more | apply Grew.alloc | apply Grew.drew | apply Grew.drewN))).mono ?_; rintro e w1 ⟨rfl, R1, n1, rfl⟩)
        | (go_at_call 71; refine (HL.out _ (by repeat (first | with_reducible exact Grew.refl _ | apply Grew.more | apply Grew.alloc | apply Grew.drew | apply Grew.drewN))).mono ?_; rintro e w1 ⟨rfl, R2, n2, rfl⟩)
        | (go_at_call 70; refine (HPL.out _ (by repeat (first | with_reducible exact Grew.refl _ | apply Grew.more | apply Grew.alloc | apply Grew.drew | apply Grew.drewN))).mono ?_; rintro e w1 ⟨rfl, R3, n3, rfl⟩)
        | (go_at_call 69; refine (HT.out _ (by repeat (first | with_reducible exact Grew.refl _ | apply Grew.more | apply Grew.alloc | apply Grew.drew | apply Grew.drewN))).mono ?_; rintro e w1 ⟨rfl, R4, n4, rfl⟩)
        | (go_at_call 67; refine (HN.out _ (by repeat (first | with_reducible exact Grew.refl _ | apply Grew.more | apply Grew.alloc | apply Grew.drew | apply Grew.drewN))).mono ?_; rintro e w1 ⟨rfl, R5, n5, rfl⟩))
      go_ret
      exact ⟨by simp [str_cat, Li.sSWAP, Li.sADD, Li.sREMOVE, Li.sROUTE, Li.sLINK, Li.sKEEP, Li.sRESET, Li.behind], by repeat (first | with_reducible exact Grew.refl _ | apply Grew.more | apply Grew.alloc | apply Grew.drew | apply Grew.drewN)⟩
  · rw [if_neg (by decide), if_pos rfl]
    go_enter Tryz.func25, Tryz.ntmps25
    go_wp2_with (first
      | (go_at_call 33; refine (HI.out _ (by repeat (first | with_reducible exact Grew.refl _ | apply Grew.more | apply Grew.alloc | apply Grew.drew | apply Grew.drewN))).mono ?_; rintro e w1 ⟨rfl, R1, n1, rfl⟩)
      | (go_at_call 71; refine (HL.out _ (by repeat (first | with_reducible exact Grew.refl _ | apply Grew.more | apply Grew.alloc | apply Grew.drew | apply Grew.drewN))).mono ?_; rintro e w1 ⟨rfl, R2, n2, rfl⟩)
      | (go_at_call 70; refine (HPL.out _ (by repeat (first | with_reducible exact Grew.refl _ | apply Grew.more | apply Grew.alloc | apply Grew.drew | apply Grew.drewN))).mono ?_; rintro e w1 ⟨rfl, R3, n3, rfl⟩)
      | (go_at_call 69; refine (HT.out _ (by repeat (first | with_reducible exact Grew.refl _ | apply Grew.more | apply Grew.alloc | apply Grew.drew | apply Grew.drewN))).mono ?_; rintro e w1 ⟨rfl, R4, n4, rfl⟩)
      | (go_at_call 67; refine (HN.out _ (by repeat (first | with_reducible exact Grew.refl _ | apply Grew.more | apply Grew.alloc | apply Grew.drew | apply Grew.drewN))).mono ?_; rintro e w1 ⟨rfl, R5, n5, rfl⟩))
    go_ret
    exact ⟨by simp [str_cat, Li.sSWAP, Li.sADD, Li.sREMOVE, Li.sROUTE, Li.sLINK, Li.sKEEP, Li.sRESET, Li.behind], by repeat (first | with_reducible exact Grew.refl _ | apply Grew.more | apply Grew.alloc | apply Grew.drew | apply Grew.drewN)⟩
  · rw [if_neg (by decide), if_neg (by decide), if_pos rfl]
    go_enter Tryz.func25, Tryz.ntmps25
    go_wp2_with (first
      | (go_at_call 33; refine (HI.out _ (by repeat (first | with_reducible exact Grew.refl _ | apply Grew.more | apply Grew.alloc | apply Grew.drew | apply Grew.drewN))).mono ?_; rintro e w1 ⟨rfl, R1, n1, rfl⟩)
      | (go_at_call 71; refine (HL.out _ (by repeat (first | with_reducible exact Grew.refl _ | apply Grew.more | apply Grew.alloc | apply Grew.drew | apply Grew.drewN))).mono ?_; rintro e w1 ⟨rfl, R2, n2, rfl⟩)
      | (go_at_call 70; refine (HPL.out _ (by repeat (first | with_reducible exact Grew.refl _ | apply Grew.more | apply Grew.alloc | apply Grew.drew | apply Grew.drewN))).mono ?_; rintro e w1 ⟨rfl, R3, n3, rfl⟩)
      | (go_at_call 69; refine (HT.out _ (by repeat (first | with_reducible exact Grew.refl _ | apply Grew.more | apply Grew.alloc | apply Grew.drew | apply Grew.drewN))).mono ?_; rintro e w1 ⟨rfl, R4, n4, rfl⟩)
      | (go_at_call 67; refine (HN.out _ (by repeat (first | with_reducible exact Grew.refl _ | apply Grew.more | apply Grew.alloc | apply Grew.drew | apply Grew.drewN))).mono ?_; rintro e w1 ⟨rfl, R5, n5, rfl⟩))
    go_ret
    exact ⟨by simp [str_cat, Li.sSWAP, Li.sADD, Li.sREMOVE, Li.sROUTE, Li.sLINK, Li.sKEEP, Li.sRESET, Li.behind], by repeat (first | with_reducible exact Grew.refl _ | apply Grew.more | apply Grew.alloc | apply Grew.drew | apply Grew.drewN)⟩
  · rw [if_neg (by decide), if_neg (by decide), if_neg (by decide), if_pos rfl]
    go_enter Tryz.func25, Tryz.ntmps25
    go_wp2_with (first
      | (go_at_call 33; refine (HI.out _ (by repeat (first | with_reducible exact Grew.refl _ | apply Grew.more | apply Grew.alloc | apply Grew.drew | apply Grew.drewN))).mono ?_; rintro e w1 ⟨rfl, R1, n1, rfl⟩)
      | (go_at_call 71; refine (HL.out _ (by repeat (first | with_reducible exact Grew.refl _ | apply Grew.more | apply Grew.alloc | apply Grew.drew | apply Grew.drewN))).mono ?_; rintro e w1 ⟨rfl, R2, n2, rfl⟩)
      | (go_at_call 70; refine (HPL.out _ (by repeat (first | with_reducible exact Grew.refl _ | apply Grew.more | apply Grew.alloc | apply Grew.drew | apply Grew.drewN))).mono ?_; rintro e w1 ⟨rfl, R3, n3, rfl⟩)
      | (go_at_call 69; refine (HT.out _ (by repeat (first | with_reducible exact Grew.refl _ | apply Grew.more | apply Grew.alloc | apply Grew.drew | apply Grew.drewN))).mono ?_; rintro e w1 ⟨rfl, R4, n4, rfl⟩)
      | (go_at_call 67; refine (HN.out _ (by repeat (first | with_reducible exact Grew.refl _ | apply Grew.more | apply Grew.alloc | apply Grew.drew | apply Grew.drewN))).mono ?_; rintro e w1 ⟨rfl, R5, n5, rfl⟩))
    go_ret
    exact ⟨by simp [str_cat, Li.sSWAP, Li.sADD, Li.sREMOVE, Li.sROUTE, Li.sLINK, Li.sKEEP, Li.sRESET, Li.behind], by repeat (first | with_reducible exact Grew.refl _ | apply Grew.more | apply Grew.alloc | apply Grew.drew | apply Grew.drewN)⟩
  · rw [if_neg (by decide), if_neg (by decide), if_neg (by decide), if_neg (by decide)]
    go_enter Tryz.func25, Tryz.ntmps25
    go_wp2_with (first
      | (go_at_call 33; refine (HI.out _ (by repeat (first | with_reducible exact Grew.refl _ | apply Grew.more | apply Grew.alloc | apply Grew.drew | apply Grew.drewN))).mono ?_; rintro e w1 ⟨rfl, R1, n1, rfl⟩)
      | (go_at_call 71; refine (HL.out _ (by repeat (first | with_reducible exact Grew.refl _ | apply Grew.more | apply Grew.alloc | apply Grew.drew | apply Grew.drewN))).mono ?_; rintro e w1 ⟨rfl, R2, n2, rfl⟩)
      | (go_at_call 70; refine (HPL.out _ (by repeat (first | with_reducible exact Grew.refl _ | apply Grew.more | apply Grew.alloc | apply Grew.drew | apply Grew.drewN))).mono ?_; rintro e w1 ⟨rfl, R3, n3, rfl⟩)
      | (go_at_call 69; refine (HT.out _ (by repeat (first | with_reducible exact Grew.refl _ | apply Grew.more | apply Grew.alloc | apply Grew.drew | apply Grew.drewN))).mono ?_; rintro e w1 ⟨rfl, R4, n4, rfl⟩)
      | (go_at_call 67; refine (HN.out _ (by repeat (first | with_reducible exact Grew.refl _ | apply Grew.more | apply Grew.alloc | apply Grew.drew | apply Grew.drewN))).mono ?_; rintro e w1 ⟨rfl, R5, n5, rfl⟩))
    go_ret
    exact ⟨by simp [str_cat, Li.sSWAP, Li.sADD, Li.sREMOVE, Li.sROUTE, Li.sLINK, Li.sKEEP, Li.sRESET, Li.behind], by repeat (first | with_reducible exact Grew.refl _ | apply Grew.more | apply Grew.alloc | apply Grew.drew | apply Grew.drewN)⟩
theorem stepT_len {s : Gr.Stp} (h8 : s.nd.route.length = 8) (ht : Li.Told s) : (Li.stepT s).length ≤ 1300 := by
  obtain ⟨⟨k1, k5⟩, hf, -, -⟩ := ht
  have hN := fitN hf
  have l1 := Li.itoa_len8 hN.id
  have l2 := listT_len hN.frm hN.l60
  have l3 := textI_len400 hN.pr
  have l4 := Li.itoa_len8 hN.par
  have l6 := nodeT_len s.nd h8
  have l5 : (Li.rtx s.nd.route).length = 8 := by unfold Li.rtx; simpa using h8
  have c1 : Li.sSWAP.length = 4 := rfl
  have c2 : Li.sADD.length = 3 := rfl
  have c3 : Li.sREMOVE.length = 6 := rfl
  have c4 : Li.behind.length = 2 := rfl
  have c5 : Li.sROUTE.length = 5 := rfl
  have c6 : Li.sLINK.length = 4 := rfl
  have c7 : (if s.reset = true then Li.sRESET else Li.sKEEP).length ≤ 5 := by split <;> decide
  unfold Li.stepT Li.placeT
  generalize (if s.reset = true then Li.sRESET else Li.sKEEP) = rs at *
  repeat' split
  all_goals simp only [List.length_append, List.length_cons]
  all_goals omega
set_option maxHeartbeats 16000000 in
theorem linesPlan_any (v : Value) (p : List Gr.Stp) (w : World) (hP : Pow w) (hA : Asc w) (hv : StepsAt w v p) : Calls Tryz.prog 10 #[v] w (Gives (str (Li.planT p)) w) := by
  have HV := Lib.hid hv
  have HP := Lib.hid hP
  have HA := Lib.hid hA
  have H8 := Lib.hid hv.r8
  obtain ⟨a, cap, rfl, hm, -⟩ := hv.openC
  by_cases h16 : 1 ≤ p.length ∧ p.length ≤ 6
  case neg =>
    have hT : Li.planT p = [] := Li.planT_none fun h => h16 ⟨h.1, h.2.1⟩
    rw [hT]
    clear hP hA hv hT
    rcases (show (p.length : Int) < 1 ∨ (6 : Int) < p.length by omega) with h | h
    all_goals
      have h2 : (p.length : Int) ≤ 9223372036854775807 := by omega
      go_enter Tryz.func10, Tryz.ntmps10
      go_wp2
      go_ret
      exact ⟨rfl, by repeat (first | with_reducible exact Grew.refl _ | apply Grew.more | apply Grew.alloc | apply Grew.drew | apply Grew.drewN)⟩
  obtain ⟨h1, h6⟩ := h16
  clear hP hA hv
  go_enter Tryz.func10, Tryz.ntmps10
  go_wp2
  go_loopg [3, 16] p.length (fun gg s3 s16 wr => ∃ k : Nat, k ≤ p.length ∧ p.length - k ≤ gg ∧ s16 = .int .i64 k ∧ Hid (Grew w wr) ∧ Hid (OwnAt w.heap.size 9 1 encS wr s3 ((p.take k).map Li.stepT)) ∧ Hid (∀ s ∈ p.take k, Li.Told s))
  case atStart => exact ⟨0, by omega, by omega, rfl, Lib.hid (by repeat (first | with_reducible exact Grew.refl _ | apply Grew.more | apply Grew.alloc | apply Grew.drew | apply Grew.drewN)), Lib.hid (OwnAt.nil _), Lib.hid (by simp)⟩
  case round =>
    obtain ⟨k, hk, hgg, rfl, HG, HO, HT⟩ := hrel
    rename World => wa
    by_cases hlt : k < p.length
    · obtain ⟨a', cap', e, -, hx⟩ := (HV.out.grew HG.out).openC
      cases e
      obtain ⟨b, off, c, rfl, hb, hs, g0, g1, g2, g3, g4, g5, g6, g7, g8, g9, g10, g11, g12, g13, g14⟩ := hx k hlt
      have HTS := Lib.hid (map_take_snoc Li.stepT p k hlt)
      have hmem := List.getElem_mem hlt
      have h8 := H8.out _ hmem
      have hln : ((p.take k).map Li.stepT).length = k := by rw [List.length_map, List.length_take]; omega
      have HTK := Lib.hid fun (q : Li.Told p[k]) => (by
        rw [List.take_succ_eq_append_getElem hlt]
        intro s hs
        rcases List.mem_append.1 hs with h | h
        · exact HT.out s h
        · rw [List.mem_singleton] at h; subst h; exact q : ∀ s ∈ p.take (k + 1), Li.Told s)
      have HNO := Lib.hid fun (q : ¬ Li.Told p[k]) => Li.planT_none (p := p) fun h => q (h.2.2 _ hmem)
      clear hx hmem
      generalize p[k] = y at *
      have HTD := Lib.hid fun W (q : Grew wa W) => told_any c y W (HP.out.grew (HG.out.trans q)) (HA.out.grew (HG.out.trans q)) (hs.grew q)
      have HSD := Lib.hid fun W (q : Grew wa W) (ht : Li.Told y) => lstep_any c y W (HP.out.grew (HG.out.trans q)) (HA.out.grew (HG.out.trans q)) (hs.grew q) ht
      clear hs
      generalize (p.take k).map Li.stepT = xs at *
      by_cases ht : Li.Told y
      · have HTY := Lib.hid ht
        rw [toldB_true ht] at HTD
        have hyl := stepT_len h8 ht
        clear ht HNO
        generalize Li.stepT y = yt at *
        go_wp2_with (first
          | (go_at_call 24; refine (HTD.out _ (by repeat (first | with_reducible exact Grew.refl _ | apply Grew.more | apply Grew.alloc | apply Grew.drew | apply Grew.drewN))).mono ?_; rintro e w1 ⟨rfl, R1, n1, rfl⟩)
          | (go_at_call 25; refine (HSD.out _ (by repeat (first | with_reducible exact Grew.refl _ | apply Grew.more | apply Grew.alloc | apply Grew.drew | apply Grew.drewN)) HTY.out).mono ?_; rintro e w1 ⟨rfl, R2, n2, rfl⟩)
          | (at_builtin; go_loud (refine wpList_ownK (w0 := w) rfl (.tmp 23) (.tmp 26) 50 _ _ _ _ [yt] rfl Tryz.underlying50 infoStr rfl (by decide) encS_len encS_one rfl (OwnAt.grew HO.out (by repeat (first | with_reducible exact Grew.refl _ | apply Grew.more | apply Grew.alloc | apply Grew.drew | apply Grew.drewN))) (HG.out.trans (by repeat (first | with_reducible exact Grew.refl _ | apply Grew.more | apply Grew.alloc | apply Grew.drew | apply Grew.drewN))) rfl (str_at _ _ _ _ _ rfl rfl (by simp [go_sem])) (by simp; omega) (by decide) (by simp) ?_); intro v7 W7 hA; (have HA7 := Lib.hid hA); clear hA))
        go_roundg (p.length - (k + 1))
        case measure => omega
        case rel => exact ⟨k + 1, by omega, by omega, by go_num, Lib.hid HA7.out.1, Lib.hid (by rw [HTS.out]; exact HA7.out.2.1), Lib.hid (HTK.out HTY.out)⟩
      · rw [toldB_false ht] at HTD
        have HN := Lib.hid (HNO.out ht)
        clear ht HNO HSD
        go_wp2_with (go_at_call 24; refine (HTD.out _ (by repeat (first | with_reducible exact Grew.refl _ | apply Grew.more | apply Grew.alloc | apply Grew.drew | apply Grew.drewN))).mono ?_; rintro e w1 ⟨rfl, R1, n1, rfl⟩)
        go_ret
        exact ⟨by rw [HN.out]; rfl, HG.out.trans (by repeat (first | with_reducible exact Grew.refl _ | apply Grew.more | apply Grew.alloc | apply Grew.drew | apply Grew.drewN))⟩
    · obtain rfl : k = p.length := by omega
      have ho := HO.out
      have ht := HT.out
      rw [List.take_length] at ho ht
      have hP2 : Li.planT p = Lib.join (p.map Li.stepT) [32, 124, 32] := Li.planT_some ⟨h1, h6, ht⟩
      have hlm : (p.map Li.stepT).length ≤ 1000 := by rw [List.length_map]; omega
      have hJ : (Lib.join (p.map Li.stepT) [32, 124, 32]).length ≤ 1000000 := by
        have := join_len (p.map Li.stepT) [32, 124, 32] 1300 fun x hx => by
          obtain ⟨s, hs, rfl⟩ := List.mem_map.1 hx
          exact stepT_len (H8.out s hs) (ht s hs)
        rw [List.length_map] at this
        have e : ([32, 124, 32] : List UInt8).length = 3 := rfl
        rw [e] at this
        omega
      have HO2 := Lib.hid ho
      have HP2 := Lib.hid hP2
      clear ho HO ht HT hP2
      generalize p.map Li.stepT = xs at *
      go_wp2_with (go_at_call 14; refine (join_any _ xs [32, 124, 32] _ _ (HO2.out.grew (by repeat (first | with_reducible exact Grew.refl _ | apply Grew.more | apply Grew.alloc | apply Grew.drew | apply Grew.drewN))) hlm hJ).mono ?_; rintro e w1 ⟨rfl, R3, n3, rfl⟩)
      go_ret
      exact ⟨by rw [HP2.out]; rfl, HG.out.trans (by repeat (first | with_reducible exact Grew.refl _ | apply Grew.more | apply Grew.alloc | apply Grew.drew | apply Grew.drewN))⟩
end Go.Proofs.YtmnllmbchpebbaaGreatDoor

/-! lines: parseStep, ParsePlan. -/
namespace Go.Proofs.YtmnllmbchpebbaaGreatDoor
set_option linter.unusedSimpArgs false
set_option linter.unusedVariables false
open Go.RowKit Ga
set_option maxRecDepth 100000

def StGives (s : Gr.Stp) (w : World) (e : Ending) (w' : World) : Prop := ∃ c : StC, e = .returned (.agg #[.int .i64 c.kind, .int .i64 c.c.id, .int .i64 c.c.kind, .slice c.c.af c.c.nf c.c.cf, .slice c.c.ap c.c.np c.c.cp, .int .i64 c.c.par, .int .i64 c.c.r0, .int .i64 c.c.r1, .int .i64 c.c.r2, .int .i64 c.c.r3, .int .i64 c.c.r4, .int .i64 c.c.r5, .int .i64 c.c.r6, .int .i64 c.c.r7, .bool c.reset]) ∧ StepIs w' c s ∧ OwnsNd w.heap.size w' c.c s.nd ∧ Grew w w'
theorem st_mk {base : Nat} {W : World} {k : Int} {c : NdC} {n : Gr.Nd} {r : Bool} (h : NodeIs W c n ∧ OwnsNd base W c n) : StepIs W ⟨k, c, r⟩ ⟨k, n, r⟩ ∧ OwnsNd base W (StC.mk k c r).c (Gr.Stp.mk k n r).nd := ⟨⟨rfl, h.1, rfl⟩, h.2⟩
theorem wordsP_len (s : List UInt8) : 1 ≤ (Li.wordsP s).1.length ∧ (Li.wordsP s).1.length ≤ s.length + 1 ∧ ∀ x ∈ (Li.wordsP s).1, x.length ≤ s.length := by
  obtain ⟨c1, c2⟩ := cut_len s Li.behind
  obtain ⟨h1, h2⟩ := split_len (Lib.cut s Li.behind).1 [32] (by decide)
  refine ⟨h1, Nat.le_trans h2 (by omega), fun x hx => Nat.le_trans (split_sub _ _ x hx) c1⟩
/-- what all the cases have ahead of the verbs -/
structure StepHead (s : List UInt8) (w : World) (v r : List UInt8) (ws : List (List UInt8)) (p : List Val) : Prop where
  cut : ∀ W, Grew w W → Calls Tryz.prog 54 #[.string ⟨s.toArray⟩, .string ⟨#[32]⟩] W (Gives (.tuple #[str v, str r, .bool (Lib.cut s [32]).2.2]) W)
  words : ∀ W, Grew w W → Calls Tryz.prog 61 #[.string ⟨r.toArray⟩] W (fun e w' => ∃ v1 v2, e = .returned (.tuple #[v1, v2]) ∧ OwnAt W.heap.size 9 1 encS w' v1 ws ∧ OwnAt W.heap.size 131 2 encI w' v2 p ∧ Grew W w')
  h1 : 1 ≤ ws.length
  h2 : ws.length ≤ 100001
  h3 : ∀ x ∈ ws, x.length ≤ 100000
  env : Env27 w
theorem step_head (s : List UInt8) (hs : s.length ≤ 100000) (w : World) (hV : Env27 w) : StepHead s w (Lib.cut s [32]).1 (Lib.cut s [32]).2.1 (Li.wordsP (Lib.cut s [32]).2.1).1 (Li.wordsP (Lib.cut s [32]).2.1).2 := by
  obtain ⟨c1, c2⟩ := cut_len s [32]
  obtain ⟨w1, w2, w3⟩ := wordsP_len (Lib.cut s [32]).2.1
  exact ⟨fun W q => cut_any s [32] (by omega) W (hV.m.grew q), fun W q => words_any _ (by omega) W (hV.grew q), w1, by omega, fun x hx => Nat.le_trans (w3 x hx) (by omega), hV⟩
/-- all that is not of type t is as it was -/
structure SwT (t : TypeId) (X Y : World) : Prop where
  sz : X.heap.size = Y.heap.size
  eq : ∀ (q : Nat) (cs : Array Value) (t' : TypeId), X.heap[q]? = some (.cells cs t') → t' ≠ t → Y.heap[q]? = X.heap[q]?
theorem SwT.refl (t : TypeId) (X : World) : SwT t X X := ⟨rfl, fun _ _ _ _ _ => rfl⟩
theorem SwT.more {t : TypeId} {X Y : World} (h : SwT t X Y) (R : Array Obj) (n m : Nat) : SwT t (X.more R n) (Y.more R m) := by
  refine ⟨by rw [World.more_size, World.more_size, h.sz], fun q cs t' hq ht => ?_⟩
  by_cases hl : q < X.heap.size
  · have h1 : (X.more R n).heap[q]? = X.heap[q]? := by simp [World.more, Array.getElem?_append, hl]
    have h2 : (Y.more R m).heap[q]? = Y.heap[q]? := by simp [World.more, Array.getElem?_append, h.sz ▸ hl]
    rw [h1] at hq
    rw [h1, h2]
    exact h.eq q cs t' hq ht
  · rw [heap_more_in X R n q (by omega), heap_more_in Y R m q (by have := h.sz; omega), h.sz]
theorem SwT.alloc {t : TypeId} {X Y : World} (h : SwT t X Y) (o : Obj) : SwT t (X.alloc o) (Y.alloc o) := by
  refine ⟨by rw [World.size_alloc, World.size_alloc, h.sz], fun q cs t' hq ht => ?_⟩
  by_cases hl : q = X.heap.size
  · subst hl
    rw [heap_new_at X o _ rfl, heap_new_at Y o _ h.sz]
  · have hlt : q < X.heap.size := by
      have := heap_lt hq
      rw [World.size_alloc] at this
      omega
    have hx : X.heap[q]? = some (.cells cs t') := by
      obtain ⟨x, hx⟩ : ∃ x, X.heap[q]? = some x := ⟨_, Array.getElem?_eq_getElem hlt⟩
      rw [heap_alloc' hx o] at hq
      rw [hx]; exact hq
    rw [heap_alloc' hx o, heap_alloc' ((h.eq q cs t' hx ht).trans hx) o]
theorem SwT.alloc2 {t : TypeId} {X Y : World} (h : SwT t X Y) (A A' : Array Value) : SwT t (X.alloc (.cells A t)) (Y.alloc (.cells A' t)) := by
  refine ⟨by rw [World.size_alloc, World.size_alloc, h.sz], fun q cs t' hq ht => ?_⟩
  by_cases hl : q = X.heap.size
  · subst hl
    rw [heap_new_at X _ _ rfl] at hq
    cases hq
    exact absurd rfl ht
  · have hlt : q < X.heap.size := by
      have := heap_lt hq
      rw [World.size_alloc] at this
      omega
    have hx : X.heap[q]? = some (.cells cs t') := by
      obtain ⟨x, hx⟩ : ∃ x, X.heap[q]? = some x := ⟨_, Array.getElem?_eq_getElem hlt⟩
      rw [heap_alloc' hx _] at hq
      rw [hx]; exact hq
    rw [heap_alloc' hx _, heap_alloc' ((h.eq q cs t' hx ht).trans hx) _]
theorem SwT.drew {t : TypeId} {X Y : World} (h : SwT t X Y) : SwT t X.drew Y.drew := ⟨h.sz, h.eq⟩
theorem OwnAt.sw {α : Type} {base : Nat} {e t : TypeId} {k : Nat} {enc : α → List Value} {W W' : World} {v : Value} {l : List α} (o : OwnAt base e k enc W v l) (h : SwT t W W') (ht : e ≠ t) : OwnAt base e k enc W' v l := OwnAt.same o fun b hb => by
  obtain ⟨h1, cs, h2⟩ := OwnAt.block o hb
  exact h.eq b cs _ h2 ht
theorem OwnsNd.sw {base : Nat} {W W' : World} {c : NdC} {n : Gr.Nd} (o : OwnsNd base W c n) (h : SwT 44 W W') : OwnsNd base W' c n := ⟨OwnAt.sw o.1 h (by decide), OwnAt.sw o.2 h (by decide)⟩
theorem HW0L (ws : List (List UInt8)) (h1 : 1 ≤ ws.length) (h3 : ∀ x ∈ ws, x.length ≤ 100000) : (ws.getD 0 []).length ≤ 1000000 := by
  cases ws with
  | nil => simp at h1
  | cons a r => exact Nat.le_trans (h3 a (by simp)) (by decide)
theorem getD_zero {α : Type} (ws : List α) (d : α) (h : 0 < ws.length) : ws[0] = ws.getD 0 d := by
  cases ws with
  | nil => simp at h
  | cons => rfl
end Go.Proofs.YtmnllmbchpebbaaGreatDoor

/-! lines.parseStep: cases. -/
namespace Go.Proofs.YtmnllmbchpebbaaGreatDoor
set_option linter.unusedSimpArgs false
set_option linter.unusedVariables false
open Go.RowKit Ga
set_option maxRecDepth 100000

set_option maxHeartbeats 16000000 in
theorem pstep_remove (s : List UInt8) (w : World) (r : List UInt8) (ws : List (List UInt8)) (p : List Val) (h : StepHead s w Li.sREMOVE r ws p) : Calls Tryz.prog 23 #[.string ⟨s.toArray⟩] w (StGives ⟨3, ⟨Co.atoiVal (ws.getD 0 []), 0, [], [], 0, Gr.zeros⟩, false⟩ w) := by
  have HC := Lib.hid h.cut
  have HW := Lib.hid h.words
  have HNE : Hid (ws ≠ []) := Lib.hid (by have := h.h1; intro e; rw [e] at this; simp at this)
  have HAT := Lib.hid fun W (q : Grew w W) => atoiL_any (ws.getD 0 []) (HW0L ws h.h1 h.h3) W (h.env.e.grew q)
  have hra := Co.atoiVal_range (ws.getD 0 [])
  have HPOS := Lib.hid (show 0 < ws.length by have := h.h1; omega)
  have HW0 := Lib.hid (getD_zero ws [] HPOS.out)
  clear h
  generalize ws.getD 0 [] = a0 at *
  generalize Co.atoiVal a0 = ia at *
  generalize (Lib.cut s [32]).2.2 = cm at *
  go_enter Tryz.func23, Tryz.ntmps23
  go_wp2_with (first
    | (go_at_call 54; refine (HC.out _ (by repeat (first | with_reducible exact Grew.refl _ | apply Grew.more | apply Grew.alloc | apply Grew.drew | apply Grew.drewN))).mono ?_; rintro e w1 ⟨rfl, RA, nA, rfl⟩)
    | (go_at_call 61; refine (HW.out _ (by repeat (first | with_reducible exact Grew.refl _ | apply Grew.more | apply Grew.alloc | apply Grew.drew | apply Grew.drewN))).mono ?_; rintro e w1 ⟨v1, v2, rfl, hv1, hv2, RB, nB, rfl⟩; obtain ⟨ap, cp, rfl⟩ := (OwnAt.rows hv2 encI_len).len; (have HV1 := Lib.hid hv1); (have HV2 := Lib.hid hv2); obtain ⟨b, cap, rfl, hb, hc⟩ := strs_open hv1 HNE.out; (have s0 := hc 0 HPOS.out); rw [HW0.out] at s0; clear hc hv1 hv2)
    | (go_at_call 62; refine (HAT.out _ (by repeat (first | with_reducible exact Grew.refl _ | apply Grew.more | apply Grew.alloc | apply Grew.drew | apply Grew.drewN))).mono ?_; rintro e w1 ⟨v3, rfl, RC, nC, rfl⟩))
  refine bodyPost_ret (v := .agg #[.int .i64 3, .int .i64 ia, .int .i64 0, .slice none 0 0, .slice none 0 0, .int .i64 0, .int .i64 0, .int .i64 0, .int .i64 0, .int .i64 0, .int .i64 0, .int .i64 0, .int .i64 0, .int .i64 0, .bool false]) (by simp [results, Tryz.results23, go_sem]) rfl ⟨_, rfl, (st_mk (base := w.heap.size) (nd_mk (OwnAt.nil _) (OwnAt.nil _) rfl)).1, (st_mk (base := w.heap.size) (nd_mk (OwnAt.nil _) (OwnAt.nil _) rfl)).2, by repeat (first | with_reducible exact Grew.refl _ | apply Grew.more | apply Grew.alloc | apply Grew.drew | apply Grew.drewN)⟩
set_option maxHeartbeats 16000000 in
theorem pstep_route (s : List UInt8) (w : World) (r a bb cc : List UInt8) (p : List Val) (h : StepHead s w Li.sROUTE r [a, bb, cc] p) : Calls Tryz.prog 23 #[.string ⟨s.toArray⟩] w (StGives ⟨4, ⟨Co.atoiVal a, 0, [], [], Co.atoiVal bb, Li.routeP cc⟩, false⟩ w) := by
  have HC := Lib.hid h.cut
  have HW := Lib.hid h.words
  have HNE : Hid (([a, bb, cc] : List (List UInt8)) ≠ []) := Lib.hid (by have := h.h1; intro e; rw [e] at this; simp at this)
  have HAT := Lib.hid fun W (q : Grew w W) => atoiL_any (([a, bb, cc] : List (List UInt8)).getD 0 []) (HW0L ([a, bb, cc] : List (List UInt8)) h.h1 h.h3) W (h.env.e.grew q)
  have hra := Co.atoiVal_range (([a, bb, cc] : List (List UInt8)).getD 0 [])
  simp only [List.getD_cons_zero] at HAT hra
  obtain ⟨x0, x1, x2, x3, x4, x5, x6, x7, hx, hpl⟩ := placed_any (Co.atoiVal a) 0 0 0 0 0 0 0 0 0 0 none none 0 0 0 0 bb cc (h.h3 bb (by simp)) (h.h3 cc (by simp)) w h.env.e
  have HPL2 : Hid (∀ W, Grew w W → Calls Tryz.prog 64 #[.agg #[.int .i64 (Co.atoiVal a), .int .i64 0, .slice none 0 0, .slice none 0 0, .int .i64 0, .int .i64 0, .int .i64 0, .int .i64 0, .int .i64 0, .int .i64 0, .int .i64 0, .int .i64 0, .int .i64 0], .string ⟨bb.toArray⟩, .string ⟨cc.toArray⟩] W (Gives (.agg #[.int .i64 (Co.atoiVal a), .int .i64 0, .slice none 0 0, .slice none 0 0, .int .i64 (Co.atoiVal bb), .int .i64 x0, .int .i64 x1, .int .i64 x2, .int .i64 x3, .int .i64 x4, .int .i64 x5, .int .i64 x6, .int .i64 x7]) W)) := Lib.hid fun W q => by
    obtain ⟨y0, y1, y2, y3, y4, y5, y6, y7, hy, hc⟩ := placed_any (Co.atoiVal a) 0 0 0 0 0 0 0 0 0 0 none none 0 0 0 0 bb cc (h.h3 bb (by simp)) (h.h3 cc (by simp)) W (h.env.e.grew q)
    rw [hx] at hy
    cases hy
    exact hc
  clear hpl
  clear h
  generalize Co.atoiVal a = ia at *
  generalize (Lib.cut s [32]).2.2 = cm at *
  go_enter Tryz.func23, Tryz.ntmps23
  generalize Co.atoiVal bb = ib at *
  go_wp2_with (first
    | (go_at_call 54; refine (HC.out _ (by repeat (first | with_reducible exact Grew.refl _ | apply Grew.more | apply Grew.alloc | apply Grew.drew | apply Grew.drewN))).mono ?_; rintro e w1 ⟨rfl, RA, nA, rfl⟩)
    | (go_at_call 61; refine (HW.out _ (by repeat (first | with_reducible exact Grew.refl _ | apply Grew.more | apply Grew.alloc | apply Grew.drew | apply Grew.drewN))).mono ?_; rintro e w1 ⟨v1, v2, rfl, hv1, hv2, RB, nB, rfl⟩; obtain ⟨ap, cp, rfl⟩ := (OwnAt.rows hv2 encI_len).len; (have HV1 := Lib.hid hv1); (have HV2 := Lib.hid hv2); obtain ⟨b, cap, rfl, hb, hc⟩ := strs_open hv1 HNE.out; (have s0 := hc 0 (by simp)); (have s1 := hc 1 (by simp)); (have s2 := hc 2 (by simp)); simp at s0 s1 s2; clear hc hv1 hv2)
    | (go_at_call 62; refine (HAT.out _ (by repeat (first | with_reducible exact Grew.refl _ | apply Grew.more | apply Grew.alloc | apply Grew.drew | apply Grew.drewN))).mono ?_; rintro e w1 ⟨v3, rfl, RC, nC, rfl⟩)
    | fail)
  refine wp_region_seq 10 Tryz.mixed (by kernel_rfl) (by kernel_rfl) ?_
  iterate 8
    apply Seq.val
    focus
      rintro w1 u ⟨R1, n1, rfl⟩ hF
      simp [moreFacts, Fact.more, Oper.deps, Region.binds, List.filter_cons, World.more_drew] at hF
      simp [putFacts, Oper.deps, Region.binds, List.filter_cons, Region.dstOf, Fact.at, Act.put, World.more_drew]
      go_wp2
      exact ⟨by repeat (first | with_reducible exact Grew.refl _ | apply Grew.more | apply Grew.alloc | apply Grew.drew | apply Grew.drewN), rfl, _, _, rfl, rfl, rfl⟩
  apply Seq.val
  focus
    rintro w1 u ⟨R1, n1, rfl⟩ hF
    simp [moreFacts, Fact.more, Oper.deps, Region.binds, List.filter_cons, World.more_drew] at hF
    simp [putFacts, Oper.deps, Region.binds, List.filter_cons, Region.dstOf, Fact.at, Act.put, World.more_drew]
    go_wp2_with (first
      | (go_at_call 64; go_loud (refine (HPL2.out _ (by repeat (first | with_reducible exact Grew.refl _ | apply Grew.more | apply Grew.alloc | apply Grew.drew | apply Grew.drewN))).mono ?_); rintro e w1 ⟨rfl, R3, n3, rfl⟩)
      )
    exact ⟨by repeat (first | with_reducible exact Grew.refl _ | apply Grew.more | apply Grew.alloc | apply Grew.drew | apply Grew.drewN), rfl, _, _, rfl, rfl, rfl⟩
  iterate 1
    apply Seq.val
    focus
      rintro w1 u ⟨R1, n1, rfl⟩ hF
      simp [moreFacts, Fact.more, Oper.deps, Region.binds, List.filter_cons, World.more_drew] at hF
      simp [putFacts, Oper.deps, Region.binds, List.filter_cons, Region.dstOf, Fact.at, Act.put, World.more_drew]
      go_wp2
      exact ⟨by repeat (first | with_reducible exact Grew.refl _ | apply Grew.more | apply Grew.alloc | apply Grew.drew | apply Grew.drewN), rfl, _, _, rfl, rfl, rfl⟩
  rintro u w1 ⟨R1, n1, rfl⟩ hF
  clear hF
  simp [putFacts, Region.dstOf, Fact.at, Act.put, List.range_succ, World.more_drew]
  go_wp2
  refine bodyPost_ret (v := .agg #[.int .i64 4, .int .i64 ia, .int .i64 0, .slice none 0 0, .slice none 0 0, .int .i64 ib, .int .i64 x0, .int .i64 x1, .int .i64 x2, .int .i64 x3, .int .i64 x4, .int .i64 x5, .int .i64 x6, .int .i64 x7, .bool false]) (by simp [results, Tryz.results23, go_sem]) rfl ⟨_, rfl, (st_mk (base := w.heap.size) (nd_mk (OwnAt.nil _) (OwnAt.nil _) hx)).1, (st_mk (base := w.heap.size) (nd_mk (OwnAt.nil _) (OwnAt.nil _) hx)).2, by repeat (first | with_reducible exact Grew.refl _ | apply Grew.more | apply Grew.alloc | apply Grew.drew | apply Grew.drewN)⟩
set_option maxHeartbeats 16000000 in
theorem pstep_link (s : List UInt8) (w : World) (r a bb : List UInt8) (p : List Val) (h : StepHead s w Li.sLINK r [a, bb] p) : Calls Tryz.prog 23 #[.string ⟨s.toArray⟩] w (StGives ⟨5, ⟨Co.atoiVal a, 0, Li.numsP bb, [], 0, Gr.zeros⟩, false⟩ w) := by
  have HC := Lib.hid h.cut
  have HW := Lib.hid h.words
  have HNE : Hid (([a, bb] : List (List UInt8)) ≠ []) := Lib.hid (by have := h.h1; intro e; rw [e] at this; simp at this)
  have HAT := Lib.hid fun W (q : Grew w W) => atoiL_any (([a, bb] : List (List UInt8)).getD 0 []) (HW0L ([a, bb] : List (List UInt8)) h.h1 h.h3) W (h.env.e.grew q)
  have hra := Co.atoiVal_range (([a, bb] : List (List UInt8)).getD 0 [])
  simp only [List.getD_cons_zero] at HAT hra
  have HNU := Lib.hid fun W (q : Grew w W) => numbers_any bb (h.h3 bb (by simp)) W (h.env.grew q)
  clear h
  generalize Li.numsP bb = fr at *
  generalize Co.atoiVal a = ia at *
  generalize (Lib.cut s [32]).2.2 = cm at *
  go_enter Tryz.func23, Tryz.ntmps23
  go_wp2_with (first
    | (go_at_call 54; refine (HC.out _ (by repeat (first | with_reducible exact Grew.refl _ | apply Grew.more | apply Grew.alloc | apply Grew.drew | apply Grew.drewN))).mono ?_; rintro e w1 ⟨rfl, RA, nA, rfl⟩)
    | (go_at_call 61; refine (HW.out _ (by repeat (first | with_reducible exact Grew.refl _ | apply Grew.more | apply Grew.alloc | apply Grew.drew | apply Grew.drewN))).mono ?_; rintro e w1 ⟨v1, v2, rfl, hv1, hv2, RB, nB, rfl⟩; obtain ⟨ap, cp, rfl⟩ := (OwnAt.rows hv2 encI_len).len; (have HV1 := Lib.hid hv1); (have HV2 := Lib.hid hv2); obtain ⟨b, cap, rfl, hb, hc⟩ := strs_open hv1 HNE.out; (have s0 := hc 0 (by simp)); (have s1 := hc 1 (by simp)); simp at s0 s1; clear hc hv1 hv2)
    | (go_at_call 62; refine (HAT.out _ (by repeat (first | with_reducible exact Grew.refl _ | apply Grew.more | apply Grew.alloc | apply Grew.drew | apply Grew.drewN))).mono ?_; rintro e w1 ⟨v3, rfl, RC, nC, rfl⟩)
    | (go_at_call 65; refine (HNU.out _ (by repeat (first | with_reducible exact Grew.refl _ | apply Grew.more | apply Grew.alloc | apply Grew.drew | apply Grew.drewN))).mono ?_; rintro e w5 ⟨v4, rfl, hv4, RD, nD, rfl⟩; obtain ⟨af, cf, rfl⟩ := (OwnAt.rows hv4 encN_len).len; (have HV4 := Lib.hid hv4); clear hv4))
  have ho : OwnAt w.heap.size 3 1 encN _ (.slice af fr.length cf) fr := OwnAt.low HV4.out (by simp [World.more_size, World.size_alloc]; omega)
  have HO := Lib.hid ho
  clear ho
  refine bodyPost_ret (v := .agg #[.int .i64 5, .int .i64 ia, .int .i64 0, .slice af fr.length cf, .slice none 0 0, .int .i64 0, .int .i64 0, .int .i64 0, .int .i64 0, .int .i64 0, .int .i64 0, .int .i64 0, .int .i64 0, .int .i64 0, .bool false]) (by simp [results, Tryz.results23, go_sem]) rfl ⟨_, rfl, (st_mk (base := w.heap.size) (nd_mk (OwnAt.sw HO.out (by repeat (first | with_reducible exact SwT.refl _ _ | with_reducible apply SwT.more | with_reducible apply SwT.alloc2 | with_reducible apply SwT.alloc | with_reducible apply SwT.drew)) (by decide)) (OwnAt.nil _) rfl)).1, (st_mk (base := w.heap.size) (nd_mk (OwnAt.sw HO.out (by repeat (first | with_reducible exact SwT.refl _ _ | with_reducible apply SwT.more | with_reducible apply SwT.alloc2 | with_reducible apply SwT.alloc | with_reducible apply SwT.drew)) (by decide)) (OwnAt.nil _) rfl)).2, by repeat (first | with_reducible exact Grew.refl _ | apply Grew.more | apply Grew.alloc | apply Grew.drew | apply Grew.drewN)⟩
end Go.Proofs.YtmnllmbchpebbaaGreatDoor

/-! lines.parseStep: cases. -/
namespace Go.Proofs.YtmnllmbchpebbaaGreatDoor
set_option linter.unusedSimpArgs false
set_option linter.unusedVariables false
open Go.RowKit Ga
set_option maxRecDepth 100000

set_option maxHeartbeats 16000000 in
theorem pstep_swapN (s : List UInt8) (w : World) (r : List UInt8) (ws : List (List UInt8)) (p : List Val) (h : StepHead s w Li.sSWAP r ws p) (hl : ws.length ≠ 2) : Calls Tryz.prog 23 #[.string ⟨s.toArray⟩] w (StGives ⟨0, ⟨Co.atoiVal (ws.getD 0 []), 0, [], [], 0, Gr.zeros⟩, false⟩ w) := by
  have HC := Lib.hid h.cut
  have HW := Lib.hid h.words
  have HNE : Hid (ws ≠ []) := Lib.hid (by have := h.h1; intro e; rw [e] at this; simp at this)
  have HAT := Lib.hid fun W (q : Grew w W) => atoiL_any (ws.getD 0 []) (HW0L ws h.h1 h.h3) W (h.env.e.grew q)
  have hra := Co.atoiVal_range (ws.getD 0 [])
  have HPOS := Lib.hid (show 0 < ws.length by have := h.h1; omega)
  have HW0 := Lib.hid (getD_zero ws [] HPOS.out)
  have hlb : ¬ ((ws.length : Int) = 2) := by omega
  clear hl
  clear h
  generalize ws.getD 0 [] = a0 at *
  generalize Co.atoiVal a0 = ia at *
  generalize (Lib.cut s [32]).2.2 = cm at *
  go_enter Tryz.func23, Tryz.ntmps23
  go_wp2_with (first
    | (go_at_call 54; refine (HC.out _ (by repeat (first | with_reducible exact Grew.refl _ | apply Grew.more | apply Grew.alloc | apply Grew.drew | apply Grew.drewN))).mono ?_; rintro e w1 ⟨rfl, RA, nA, rfl⟩)
    | (go_at_call 61; refine (HW.out _ (by repeat (first | with_reducible exact Grew.refl _ | apply Grew.more | apply Grew.alloc | apply Grew.drew | apply Grew.drewN))).mono ?_; rintro e w1 ⟨v1, v2, rfl, hv1, hv2, RB, nB, rfl⟩; obtain ⟨ap, cp, rfl⟩ := (OwnAt.rows hv2 encI_len).len; (have HV1 := Lib.hid hv1); (have HV2 := Lib.hid hv2); obtain ⟨b, cap, rfl, hb, hc⟩ := strs_open hv1 HNE.out; (have s0 := hc 0 HPOS.out); rw [HW0.out] at s0; clear hc hv1 hv2)
    | (go_at_call 62; refine (HAT.out _ (by repeat (first | with_reducible exact Grew.refl _ | apply Grew.more | apply Grew.alloc | apply Grew.drew | apply Grew.drewN))).mono ?_; rintro e w1 ⟨v3, rfl, RC, nC, rfl⟩))
  refine bodyPost_ret (v := .agg #[.int .i64 0, .int .i64 ia, .int .i64 0, .slice none 0 0, .slice none 0 0, .int .i64 0, .int .i64 0, .int .i64 0, .int .i64 0, .int .i64 0, .int .i64 0, .int .i64 0, .int .i64 0, .int .i64 0, .bool false]) (by simp [results, Tryz.results23, go_sem]) rfl ⟨_, rfl, (st_mk (base := w.heap.size) (nd_mk (OwnAt.nil _) (OwnAt.nil _) rfl)).1, (st_mk (base := w.heap.size) (nd_mk (OwnAt.nil _) (OwnAt.nil _) rfl)).2, by repeat (first | with_reducible exact Grew.refl _ | apply Grew.more | apply Grew.alloc | apply Grew.drew | apply Grew.drewN)⟩
set_option maxHeartbeats 16000000 in
theorem pstep_routeN (s : List UInt8) (w : World) (r : List UInt8) (ws : List (List UInt8)) (p : List Val) (h : StepHead s w Li.sROUTE r ws p) (hl : ws.length ≠ 3) : Calls Tryz.prog 23 #[.string ⟨s.toArray⟩] w (StGives ⟨0, ⟨Co.atoiVal (ws.getD 0 []), 0, [], [], 0, Gr.zeros⟩, false⟩ w) := by
  have HC := Lib.hid h.cut
  have HW := Lib.hid h.words
  have HNE : Hid (ws ≠ []) := Lib.hid (by have := h.h1; intro e; rw [e] at this; simp at this)
  have HAT := Lib.hid fun W (q : Grew w W) => atoiL_any (ws.getD 0 []) (HW0L ws h.h1 h.h3) W (h.env.e.grew q)
  have hra := Co.atoiVal_range (ws.getD 0 [])
  have HPOS := Lib.hid (show 0 < ws.length by have := h.h1; omega)
  have HW0 := Lib.hid (getD_zero ws [] HPOS.out)
  have hlb : ¬ ((ws.length : Int) = 3) := by omega
  clear hl
  clear h
  generalize ws.getD 0 [] = a0 at *
  generalize Co.atoiVal a0 = ia at *
  generalize (Lib.cut s [32]).2.2 = cm at *
  go_enter Tryz.func23, Tryz.ntmps23
  go_wp2_with (first
    | (go_at_call 54; refine (HC.out _ (by repeat (first | with_reducible exact Grew.refl _ | apply Grew.more | apply Grew.alloc | apply Grew.drew | apply Grew.drewN))).mono ?_; rintro e w1 ⟨rfl, RA, nA, rfl⟩)
    | (go_at_call 61; refine (HW.out _ (by repeat (first | with_reducible exact Grew.refl _ | apply Grew.more | apply Grew.alloc | apply Grew.drew | apply Grew.drewN))).mono ?_; rintro e w1 ⟨v1, v2, rfl, hv1, hv2, RB, nB, rfl⟩; obtain ⟨ap, cp, rfl⟩ := (OwnAt.rows hv2 encI_len).len; (have HV1 := Lib.hid hv1); (have HV2 := Lib.hid hv2); obtain ⟨b, cap, rfl, hb, hc⟩ := strs_open hv1 HNE.out; (have s0 := hc 0 HPOS.out); rw [HW0.out] at s0; clear hc hv1 hv2)
    | (go_at_call 62; refine (HAT.out _ (by repeat (first | with_reducible exact Grew.refl _ | apply Grew.more | apply Grew.alloc | apply Grew.drew | apply Grew.drewN))).mono ?_; rintro e w1 ⟨v3, rfl, RC, nC, rfl⟩))
  refine bodyPost_ret (v := .agg #[.int .i64 0, .int .i64 ia, .int .i64 0, .slice none 0 0, .slice none 0 0, .int .i64 0, .int .i64 0, .int .i64 0, .int .i64 0, .int .i64 0, .int .i64 0, .int .i64 0, .int .i64 0, .int .i64 0, .bool false]) (by simp [results, Tryz.results23, go_sem]) rfl ⟨_, rfl, (st_mk (base := w.heap.size) (nd_mk (OwnAt.nil _) (OwnAt.nil _) rfl)).1, (st_mk (base := w.heap.size) (nd_mk (OwnAt.nil _) (OwnAt.nil _) rfl)).2, by repeat (first | with_reducible exact Grew.refl _ | apply Grew.more | apply Grew.alloc | apply Grew.drew | apply Grew.drewN)⟩
set_option maxHeartbeats 16000000 in
theorem pstep_linkN (s : List UInt8) (w : World) (r : List UInt8) (ws : List (List UInt8)) (p : List Val) (h : StepHead s w Li.sLINK r ws p) (hl : ws.length ≠ 2) : Calls Tryz.prog 23 #[.string ⟨s.toArray⟩] w (StGives ⟨0, ⟨Co.atoiVal (ws.getD 0 []), 0, [], [], 0, Gr.zeros⟩, false⟩ w) := by
  have HC := Lib.hid h.cut
  have HW := Lib.hid h.words
  have HNE : Hid (ws ≠ []) := Lib.hid (by have := h.h1; intro e; rw [e] at this; simp at this)
  have HAT := Lib.hid fun W (q : Grew w W) => atoiL_any (ws.getD 0 []) (HW0L ws h.h1 h.h3) W (h.env.e.grew q)
  have hra := Co.atoiVal_range (ws.getD 0 [])
  have HPOS := Lib.hid (show 0 < ws.length by have := h.h1; omega)
  have HW0 := Lib.hid (getD_zero ws [] HPOS.out)
  have hlb : ¬ ((ws.length : Int) = 2) := by omega
  clear hl
  clear h
  generalize ws.getD 0 [] = a0 at *
  generalize Co.atoiVal a0 = ia at *
  generalize (Lib.cut s [32]).2.2 = cm at *
  go_enter Tryz.func23, Tryz.ntmps23
  go_wp2_with (first
    | (go_at_call 54; refine (HC.out _ (by repeat (first | with_reducible exact Grew.refl _ | apply Grew.more | apply Grew.alloc | apply Grew.drew | apply Grew.drewN))).mono ?_; rintro e w1 ⟨rfl, RA, nA, rfl⟩)
    | (go_at_call 61; refine (HW.out _ (by repeat (first | with_reducible exact Grew.refl _ | apply Grew.more | apply Grew.alloc | apply Grew.drew | apply Grew.drewN))).mono ?_; rintro e w1 ⟨v1, v2, rfl, hv1, hv2, RB, nB, rfl⟩; obtain ⟨ap, cp, rfl⟩ := (OwnAt.rows hv2 encI_len).len; (have HV1 := Lib.hid hv1); (have HV2 := Lib.hid hv2); obtain ⟨b, cap, rfl, hb, hc⟩ := strs_open hv1 HNE.out; (have s0 := hc 0 HPOS.out); rw [HW0.out] at s0; clear hc hv1 hv2)
    | (go_at_call 62; refine (HAT.out _ (by repeat (first | with_reducible exact Grew.refl _ | apply Grew.more | apply Grew.alloc | apply Grew.drew | apply Grew.drewN))).mono ?_; rintro e w1 ⟨v3, rfl, RC, nC, rfl⟩))
  refine bodyPost_ret (v := .agg #[.int .i64 0, .int .i64 ia, .int .i64 0, .slice none 0 0, .slice none 0 0, .int .i64 0, .int .i64 0, .int .i64 0, .int .i64 0, .int .i64 0, .int .i64 0, .int .i64 0, .int .i64 0, .int .i64 0, .bool false]) (by simp [results, Tryz.results23, go_sem]) rfl ⟨_, rfl, (st_mk (base := w.heap.size) (nd_mk (OwnAt.nil _) (OwnAt.nil _) rfl)).1, (st_mk (base := w.heap.size) (nd_mk (OwnAt.nil _) (OwnAt.nil _) rfl)).2, by repeat (first | with_reducible exact Grew.refl _ | apply Grew.more | apply Grew.alloc | apply Grew.drew | apply Grew.drewN)⟩
set_option maxHeartbeats 16000000 in
theorem pstep_other (s : List UInt8) (w : World) (v : List UInt8) (r : List UInt8) (ws : List (List UInt8)) (p : List Val) (h : StepHead s w v r ws p) (h1 : v ≠ Li.sSWAP) (h2 : v ≠ Li.sADD) (h3 : v ≠ Li.sREMOVE) (h4 : v ≠ Li.sROUTE) (h5 : v ≠ Li.sLINK) : Calls Tryz.prog 23 #[.string ⟨s.toArray⟩] w (StGives ⟨0, ⟨Co.atoiVal (ws.getD 0 []), 0, [], [], 0, Gr.zeros⟩, false⟩ w) := by
  have HC := Lib.hid h.cut
  have HW := Lib.hid h.words
  have HNE : Hid (ws ≠ []) := Lib.hid (by have := h.h1; intro e; rw [e] at this; simp at this)
  have HAT := Lib.hid fun W (q : Grew w W) => atoiL_any (ws.getD 0 []) (HW0L ws h.h1 h.h3) W (h.env.e.grew q)
  have hra := Co.atoiVal_range (ws.getD 0 [])
  have HPOS := Lib.hid (show 0 < ws.length by have := h.h1; omega)
  have HW0 := Lib.hid (getD_zero ws [] HPOS.out)
  have b1 : (v == [83, 87, 65, 80]) = false := by simpa [Li.sSWAP] using h1
  have b2 : (v == [65, 68, 68]) = false := by simpa [Li.sADD] using h2
  have b3 : (v == [82, 69, 77, 79, 86, 69]) = false := by simpa [Li.sREMOVE] using h3
  have b4 : (v == [82, 79, 85, 84, 69]) = false := by simpa [Li.sROUTE] using h4
  have b5 : (v == [76, 73, 78, 75]) = false := by simpa [Li.sLINK] using h5
  clear h1 h2 h3 h4 h5
  clear h
  generalize ws.getD 0 [] = a0 at *
  generalize Co.atoiVal a0 = ia at *
  generalize (Lib.cut s [32]).2.2 = cm at *
  go_enter Tryz.func23, Tryz.ntmps23
  go_wp2_with (first
    | (go_at_call 54; refine (HC.out _ (by repeat (first | with_reducible exact Grew.refl _ | apply Grew.more | apply Grew.alloc | apply Grew.drew | apply Grew.drewN))).mono ?_; rintro e w1 ⟨rfl, RA, nA, rfl⟩)
    | (go_at_call 61; refine (HW.out _ (by repeat (first | with_reducible exact Grew.refl _ | apply Grew.more | apply Grew.alloc | apply Grew.drew | apply Grew.drewN))).mono ?_; rintro e w1 ⟨v1, v2, rfl, hv1, hv2, RB, nB, rfl⟩; obtain ⟨ap, cp, rfl⟩ := (OwnAt.rows hv2 encI_len).len; (have HV1 := Lib.hid hv1); (have HV2 := Lib.hid hv2); obtain ⟨b, cap, rfl, hb, hc⟩ := strs_open hv1 HNE.out; (have s0 := hc 0 HPOS.out); rw [HW0.out] at s0; clear hc hv1 hv2)
    | (go_at_call 62; refine (HAT.out _ (by repeat (first | with_reducible exact Grew.refl _ | apply Grew.more | apply Grew.alloc | apply Grew.drew | apply Grew.drewN))).mono ?_; rintro e w1 ⟨v3, rfl, RC, nC, rfl⟩))
  refine bodyPost_ret (v := .agg #[.int .i64 0, .int .i64 ia, .int .i64 0, .slice none 0 0, .slice none 0 0, .int .i64 0, .int .i64 0, .int .i64 0, .int .i64 0, .int .i64 0, .int .i64 0, .int .i64 0, .int .i64 0, .int .i64 0, .bool false]) (by simp [results, Tryz.results23, go_sem]) rfl ⟨_, rfl, (st_mk (base := w.heap.size) (nd_mk (OwnAt.nil _) (OwnAt.nil _) rfl)).1, (st_mk (base := w.heap.size) (nd_mk (OwnAt.nil _) (OwnAt.nil _) rfl)).2, by repeat (first | with_reducible exact Grew.refl _ | apply Grew.more | apply Grew.alloc | apply Grew.drew | apply Grew.drewN)⟩
end Go.Proofs.YtmnllmbchpebbaaGreatDoor
