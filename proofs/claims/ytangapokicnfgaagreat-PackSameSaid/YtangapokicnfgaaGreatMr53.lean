import Derived.Test.YtangapokicnfgaaGreatMr52
import Derived.Test.YtangapokicnfgaaGreatMr46
import Derived.Test.YtangapokicnfgaaGreatMr48
import Derived.Test.YtangapokicnfgaaGreatMr50
import Derived.Test.YtangapokicnfgaaGreatMr44
import Derived.Test.YtangapokicnfgaaGreatMr9
import Derived.Test.YtangapokicnfgaaGreatMr11
import Derived.Test.YtangapokicnfgaaGreatMr10
/-! forebayref13.Right. -/
namespace Go.Proofs.YtangapokicnfgaaGreat
set_option linter.unusedSimpArgs false
set_option linter.unusedVariables false
open Go.RowKit Ga
set_option maxRecDepth 100000

theorem strict_ids {l : List Gr.Nd} (h : ∀ j (hj : j + 1 < l.length), l[j].id < l[j + 1].id) : l.Pairwise fun a b => a.id < b.id := by
  rw [List.pairwise_iff_getElem]
  have key : ∀ d i (hj : i + d + 1 < l.length), l[i].id < l[i + d + 1].id := by
    intro d
    induction d with
    | zero => intro i hj; exact h i hj
    | succ d ih => intro i hj; have h1 := ih i (by omega); have h2 := h (i + d + 1) hj; exact Int.lt_trans h1 h2
  intro i j hi hj hij
  have := key (j - i - 1) i (by omega)
  simpa [show i + (j - i - 1) + 1 = j by omega] using this
theorem num_lt {a b : Tab.En} (ha : 0 ≤ a.key ∧ a.key < 64) (hb : 0 ≤ b.key ∧ b.key < 64) : Tab.num a < Tab.num b ↔ ¬ (b.node < a.node ∨ a.node = b.node ∧ b.key ≤ a.key) := by
  unfold Tab.num
  omega
theorem strict_ents {l : List Tab.En} (hk : ∀ x ∈ l, 0 ≤ x.key ∧ x.key < 64) (h : ∀ j (hj : j + 1 < l.length), Tab.num l[j] < Tab.num l[j + 1]) : l.Pairwise fun a b => Tab.num a < Tab.num b := by
  rw [List.pairwise_iff_getElem]
  have key : ∀ d i (hj : i + d + 1 < l.length), Tab.num l[i] < Tab.num l[i + d + 1] := by
    intro d
    induction d with
    | zero => intro i hj; exact h i hj
    | succ d ih => intro i hj; have h1 := ih i (by omega); have h2 := h (i + d + 1) hj; exact Int.lt_trans h1 h2
  intro i j hi hj hij
  have := key (j - i - 1) i (by omega)
  simpa [show i + (j - i - 1) + 1 = j by omega] using this
theorem conds_right {m : Gr.Mf} (h1 : Cond1 m) (h2 : Cond2 m) (h3 : Cond3 m) (h4 : Cond4 m) (h5 : Cond5 m) (h6 : Cond6 m) (h7 : Cond7 m) : Gr.RightM fitsP m := by
  obtain ⟨a1, a2, a3, a4⟩ := h1
  have hen : ∀ x ∈ m.ents, okEn x = true ∧ Tab.nz x = true ∧ badE m.graph x = false := fun x hx => by
    obtain ⟨j, hj, rfl⟩ := List.mem_iff_getElem.1 hx
    obtain ⟨b1, b2, b3, -⟩ := h5 j hj
    exact ⟨b1, b2, b3⟩
  refine ⟨numB_iff.1 a1, numB_iff.1 a2, checkR_zero a3, strict_ids h2, h3, fun x hx => numB_iff.1 (h4 x hx), fun x hx => ?_, ?_, fun x hx => badE_no.1 (hen x hx).2.2, a4, fun x hx => lineB_iff.1 (h7 x hx), h6⟩
  · obtain ⟨b1, b2, -⟩ := hen x hx
    obtain ⟨c1, c2, c3, c4⟩ := okEn_iff.1 b1
    exact ⟨c1, c2, c3, c4, b2⟩
  · have hk : ∀ x ∈ m.ents, 0 ≤ x.key ∧ x.key < 64 := fun x hx => (okEn_iff.1 (hen x hx).1).2.1
    exact strict_ents hk fun j hj => (num_lt (hk _ (List.getElem_mem _)) (hk _ (List.getElem_mem _))).2 ((h5 (j + 1) hj).2.2.2 j rfl)
theorem right_conds {m : Gr.Mf} (h : Gr.RightM fitsP m) : Cond1 m ∧ Cond2 m ∧ Cond3 m ∧ Cond4 m ∧ Cond5 m ∧ Cond6 m ∧ Cond7 m := by
  refine ⟨⟨numB_iff.2 h.ep, numB_iff.2 h.pl, checkR_ok h.gr.len h.gr, h.ol⟩, fun j hj => ?_, h.of, fun x hx => numB_iff.2 (h.o4 x hx), fun j hj => ?_, h.pn, fun x hx => lineB_iff.2 (h.ou x hx)⟩
  · exact List.pairwise_iff_getElem.1 h.so j (j + 1) (by omega) hj (by omega)
  · obtain ⟨c1, c2, c3, c4, c5⟩ := h.en _ (List.getElem_mem hj)
    refine ⟨okEn_iff.2 ⟨c1, c2, c3, c4⟩, c5, badE_no.2 (h.ek _ (List.getElem_mem hj)), fun i hi => ?_⟩
    subst hi
    have hlt := List.pairwise_iff_getElem.1 h.ei i (i + 1) (by omega) hj (by omega)
    exact (num_lt (h.en _ (List.getElem_mem _)).2.1 c2).1 hlt
theorem ret22_end {w W : World} {b : Bool} {a : Act} {m : Gr.Mf} (h : Ret22 w b a W) (e : b = rightB m) : bodyPost Tryz.prog Tryz.f22 (Gives (.bool (rightB m)) w) .ret a W := by
  obtain ⟨t, d⟩ := a
  obtain ⟨h1, h2, h3⟩ := h
  simp only at h1 h2
  subst h2
  refine bodyPost_ret (v := .bool b) ?_ rfl ⟨by rw [e], h3⟩
  simp [results, Tryz.results22, go_sem]
  rw [← Array.getD_eq_getD_getElem?, h1]
theorem rightB_no {m : Gr.Mf} (h : ¬ Gr.RightM fitsP m) : false = rightB m := by
  cases hb : rightB m
  · rfl
  · exact absurd (rightB_iff.1 hb) h
set_option maxHeartbeats 16000000 in
theorem refRight13_any (c : MfC) (m : Gr.Mf) (w : World) (h : MfIs w c m) : Calls Tryz.prog 22 #[.agg #[.int .i64 c.epoch, .int .i64 c.plans, .slice c.ao c.no c.co, .slice c.ag c.ng c.cg, .slice c.ae c.ne c.ce, .slice c.ax c.nx c.cx, .slice c.ap c.np c.cp]] w (Gives (.bool (rightB m)) w) := by
  have HM := Lib.hid h
  have hbx := heap_new_at w (.cells (boxM c) 55) _ rfl
  have HBX := Lib.hid hbx
  clear h hbx
  go_enter Tryz.func22, Tryz.ntmps22
  iterate 11 go_step
  have hno : ∀ {a' w'}, Ret22 w false a' w' → ¬ Gr.RightM fitsP m → bodyPost Tryz.prog Tryz.f22 (Gives (.bool (rightB m)) w) .ret a' w' := fun hr hn => ret22_end hr (rightB_no hn)
  refine rm_p1 m w _ w.heap.size c _ _ ⟨?_, ?_, ?_, ?_⟩ (HM.out.grew (by repeat (first | with_reducible exact Grew.refl _ | apply Grew.more | apply Grew.alloc | apply Grew.drew | apply Grew.drewN))) (fun hc a' w' hr => hno hr fun q => hc (right_conds q).1) fun h1 a1 w1 g1 P1 => ?_
  · rfl
  · rfl
  · exact (Grew.refl w).alloc _
  · exact HBX.out
  have hm1 := HM.out.grew P1.g
  refine rm_p2 m w _ w.heap.size c _ _ P1 hm1 (fun hc a' w' hr => hno hr fun q => hc (right_conds q).2.1) fun h2 a2 w2 g2 P2 => ?_
  have hm2 := HM.out.grew P2.g
  have hne : 0 < m.graph.length := by
    obtain ⟨n, hn⟩ := source_some (checkR_zero h1.2.2.1)
    cases hg : m.graph with
    | nil => rw [hg] at hn; simp [Gr.nodeOf, Gr.find] at hn
    | cons x l => simp
  refine rm_p3 m w _ w.heap.size c _ _ P2 hm2 hne (fun hc a' w' hr => hno hr fun q => hc (right_conds q).2.2.1) fun h3 a3 w3 g3 P3 => ?_
  have hm3 := HM.out.grew P3.g
  refine rm_p4 m w _ w.heap.size c _ _ P3 hm3 (fun hc a' w' hr => hno hr fun q => hc (right_conds q).2.2.2.1) fun h4 a4 w4 g4 P4 => ?_
  have hm4 := HM.out.grew P4.g
  refine rm_p5 m w _ w.heap.size c _ _ P4 hm4 (fun hc a' w' hr => hno hr fun q => hc (right_conds q).2.2.2.2.1) fun h5 a5 w5 g5 P5 => ?_
  have hm5 := HM.out.grew P5.g
  refine rm_p6 m w _ w.heap.size c _ _ P5 hm5 (fun hc a' w' hr => hno hr fun q => hc (right_conds q).2.2.2.2.2.1) fun h6 a6 w6 g6 P6 => ?_
  have hm6 := HM.out.grew P6.g
  exact rm_p7 m w _ w.heap.size c _ _ P6 hm6 (fun hc a' w' hr => hno hr fun q => hc (right_conds q).2.2.2.2.2.2) fun h7 a7 w7 hr => ret22_end hr (rightB_iff.2 (conds_right h1 h2 h3 h4 h5 h6 h7)).symm
end Go.Proofs.YtangapokicnfgaaGreat

/-! forebaylaw13.great, PackManifests. -/
namespace Go.Proofs.YtangapokicnfgaaGreat
set_option linter.unusedSimpArgs false
set_option linter.unusedVariables false
open Go.RowKit Ga
set_option maxRecDepth 100000

def greatM (m : Gr.Mf) : Bool := (greatG m.graph || greatP m.plan) || (decide (20 < m.offs.length) || (decide (60 < m.ents.length) || decide (60 < m.out.length)))
set_option maxHeartbeats 4000000 in
theorem great13_any (c : MfC) (m : Gr.Mf) (w : World) (h : MfIs w c m) : Calls Tryz.prog 21 #[.agg #[.int .i64 c.epoch, .int .i64 c.plans, .slice c.ao c.no c.co, .slice c.ag c.ng c.cg, .slice c.ae c.ne c.ce, .slice c.ax c.nx c.cx, .slice c.ap c.np c.cp]] w (Gives (.bool (greatM m)) w) := by
  have HG := Lib.hid fun W (g : Grew w W) => great10_any _ _ m.graph m.plan W (h.g.grew g) (h.p.grew g)
  obtain ⟨r, hr⟩ : ∃ r, greatM m = r := ⟨_, rfl⟩
  have hr2 : r = ((greatG m.graph || greatP m.plan) || (decide (20 < m.offs.length) || (decide (60 < m.ents.length) || decide (60 < m.out.length)))) := hr.symm
  rw [hr]
  obtain ⟨ep, pl, ao, co, ag, cg, ae, ce, ax, cx, ap, cp, rfl⟩ := h.lit
  simp only at HG
  clear h hr
  show Calls Tryz.prog _ #[.agg #[.int .i64 ep, .int .i64 pl, .slice ao m.offs.length co, .slice ag m.graph.length cg, .slice ae m.ents.length ce, .slice ax m.out.length cx, .slice ap m.plan.length cp]] w _
  generalize (greatG m.graph || greatP m.plan) = b0 at *
  generalize m.offs.length = n1 at *
  generalize m.ents.length = n2 at *
  generalize m.out.length = n3 at *
  cases b0
  · by_cases h1 : 20 < n1
    · have hq : r = true := by rw [hr2]; simp [h1]
      subst hq
      clear hr2
      have h1' : (20 : Int) < (n1 : Int) := by omega
      go_enter Tryz.func21, Tryz.ntmps21
      go_wp2_with (go_at_call 15; refine (HG.out _ (by repeat (first | with_reducible exact Grew.refl _ | apply Grew.more | apply Grew.alloc | apply Grew.drew | apply Grew.drewN))).mono ?_; rintro e w1 ⟨rfl, R1, n1, rfl⟩)
      go_ret
      exact ⟨rfl, by repeat (first | with_reducible exact Grew.refl _ | apply Grew.more | apply Grew.alloc | apply Grew.drew | apply Grew.drewN)⟩
    · by_cases h2 : 60 < n2
      · have hq : r = true := by rw [hr2]; simp [h2]
        subst hq
        clear hr2
        have h1' : ¬ (20 : Int) < (n1 : Int) := by omega
        have h2' : (60 : Int) < (n2 : Int) := by omega
        go_enter Tryz.func21, Tryz.ntmps21
        go_wp2_with (go_at_call 15; refine (HG.out _ (by repeat (first | with_reducible exact Grew.refl _ | apply Grew.more | apply Grew.alloc | apply Grew.drew | apply Grew.drewN))).mono ?_; rintro e w1 ⟨rfl, R1, n1, rfl⟩)
        go_ret
        exact ⟨rfl, by repeat (first | with_reducible exact Grew.refl _ | apply Grew.more | apply Grew.alloc | apply Grew.drew | apply Grew.drewN)⟩
      · have h1' : ¬ (20 : Int) < (n1 : Int) := by omega
        have h2' : ¬ (60 : Int) < (n2 : Int) := by omega
        by_cases h3 : 60 < n3
        · have hq : r = true := by rw [hr2]; simp [h3]
          subst hq
          clear hr2
          have h3' : (60 : Int) < (n3 : Int) := by omega
          go_enter Tryz.func21, Tryz.ntmps21
          go_wp2_with (go_at_call 15; refine (HG.out _ (by repeat (first | with_reducible exact Grew.refl _ | apply Grew.more | apply Grew.alloc | apply Grew.drew | apply Grew.drewN))).mono ?_; rintro e w1 ⟨rfl, R1, n1, rfl⟩)
          go_ret
          exact ⟨rfl, by repeat (first | with_reducible exact Grew.refl _ | apply Grew.more | apply Grew.alloc | apply Grew.drew | apply Grew.drewN)⟩
        · have hq : r = false := by rw [hr2]; simp [h1, h2, h3]
          subst hq
          clear hr2
          have h3' : ¬ (60 : Int) < (n3 : Int) := by omega
          go_enter Tryz.func21, Tryz.ntmps21
          go_wp2_with (go_at_call 15; refine (HG.out _ (by repeat (first | with_reducible exact Grew.refl _ | apply Grew.more | apply Grew.alloc | apply Grew.drew | apply Grew.drewN))).mono ?_; rintro e w1 ⟨rfl, R1, n1, rfl⟩)
          go_ret
          exact ⟨by simp; omega, by repeat (first | with_reducible exact Grew.refl _ | apply Grew.more | apply Grew.alloc | apply Grew.drew | apply Grew.drewN)⟩
  · have hq : r = true := by rw [hr2]; simp
    subst hq
    clear hr2
    go_enter Tryz.func21, Tryz.ntmps21
    go_wp2_with (go_at_call 15; refine (HG.out _ (by repeat (first | with_reducible exact Grew.refl _ | apply Grew.more | apply Grew.alloc | apply Grew.drew | apply Grew.drewN))).mono ?_; rintro e w1 ⟨rfl, R1, n1, rfl⟩)
    go_ret
    exact ⟨rfl, by repeat (first | with_reducible exact Grew.refl _ | apply Grew.more | apply Grew.alloc | apply Grew.drew | apply Grew.drewN)⟩
theorem eqMf_self (m : Gr.Mf) : eqMf m m = true := by unfold eqMf; simp
structure SmallM (m : Gr.Mf) : Prop where
  s : Small m.graph
  p : ∀ s ∈ m.plan, s.nd.frm.length ≤ 100 ∧ s.nd.prog.length ≤ 1000
  e : m.ents.length ≤ 60
  o : m.out.length ≤ 60
theorem greatM_small {m : Gr.Mf} (h : greatM m = false) : SmallM m := by
  unfold greatM at h
  simp only [Bool.or_eq_false_iff, decide_eq_false_iff_not] at h
  obtain ⟨⟨h1, h2⟩, h3, h4, h5⟩ := h
  exact ⟨(great_small h1).1, greatP_small h2, by omega, by omega⟩
theorem getM_put {m : Gr.Mf} (hr : Gr.RightM fitsP m) (h8 : ∀ n ∈ m.graph, n.route.length = 8) : getMB (Gr.putM putI m) = (m, 0) := by
  have h1 := (Gr.man_item codecI).put m [] (hr.okM fits_nil (fun p hp => safe_fits hp) h8 (fun l hl => putI_len l hl))
  rw [List.append_nil] at h1
  unfold getMB
  rw [h1]
  simp only
  rw [show endE (([] : List UInt8), (0 : Int)) true = 0 from rfl, if_neg (by simp), if_pos (rightB_iff.2 hr)]
theorem putM_len {m : Gr.Mf} (hr : Gr.RightM fitsP m) (hs : SmallM m) (h8 : ∀ n ∈ m.graph, n.route.length = 8) : (Gr.putM putI m).length ≤ 20000 := by
  obtain ⟨ho1, ho3⟩ := offs_len hr h8
  have h1 : (Gr.putG putI m.graph).length ≤ 3000 := putG_len hr.gr h8
  have h2 := flat_lenE Gr.putE 24 putE_len m.ents
  have h3 := flat_lenE Gr.putLn 20 putLn_len m.out
  have h4 : (planBy m.plan).length ≤ 10000 := by
    rcases hr.pn with e | ⟨e, -⟩
    · rw [e, planBy_nil]; simp
    · rw [planBy_ne (fun q => by have := e.1; rw [q] at this; simp at this)]
      exact putPl_len e
  have := hs.e
  have := hs.o
  rw [putM_eq]
  unfold Gr.putG at h1
  rw [graph_self hr] at h1
  simp only [List.length_append, Oc.bes_len, Oc.be_len, List.length_cons, List.length_nil] at h1 ⊢
  omega
theorem okMf_of {m : Gr.Mf} (hr : Gr.RightM fitsP m) (hs : SmallM m) : OkMf m := ⟨hs.s, by have := hr.gr.len; omega, hr.so, fun s h => by have := hs.p s h; omega⟩
set_option maxHeartbeats 16000000 in
theorem packMans_any (c : MfC) (m : Gr.Mf) (w : World) (h : MfIs w c m) : Calls Tryz.prog 6 #[.agg #[.int .i64 c.epoch, .int .i64 c.plans, .slice c.ao c.no c.co, .slice c.ag c.ng c.cg, .slice c.ae c.ne c.ce, .slice c.ax c.nx c.cx, .slice c.ap c.np c.cp]] w (Gives (.bool true) w) := by
  have hgt := fun W (g : Grew w W) => great13_any c m W (h.grew g)
  have h8 := nodes_route h.g
  cases hg : greatM m
  case true =>
    rw [hg] at hgt
    have HGT := Lib.hid hgt
    clear hgt hg h8
    obtain ⟨ep, pl, ao, co, ag, cg, ae, ce, ax, cx, ap, cp, rfl⟩ := h.lit
    clear h
    show Calls Tryz.prog _ #[.agg #[.int .i64 ep, .int .i64 pl, .slice ao m.offs.length co, .slice ag m.graph.length cg, .slice ae m.ents.length ce, .slice ax m.out.length cx, .slice ap m.plan.length cp]] w _
    go_enter Tryz.func6, Tryz.ntmps6
    go_wp2_with (first
      | (go_at_call 8; refine (awake13_any _).mono ?_; rintro e w1 ⟨rfl, R1, n1, rfl⟩)
      | (go_at_call 21; refine (HGT.out _ (by repeat (first | with_reducible exact Grew.refl _ | apply Grew.more | apply Grew.alloc | apply Grew.drew | apply Grew.drewN))).mono ?_; rintro e w1 ⟨rfl, R2, n2, rfl⟩))
    go_ret
    exact ⟨rfl, by repeat (first | with_reducible exact Grew.refl _ | apply Grew.more | apply Grew.alloc | apply Grew.drew | apply Grew.drewN)⟩
  rw [hg] at hgt
  have hs := greatM_small hg
  have HGT := Lib.hid hgt
  have hR13 := fun W (g : Grew w W) => refRight13_any c m W (h.grew g)
  have hR := fun W (g : Grew w W) => manRight_any c m W (h.grew g) hs.s hs.p (by have := hs.e; omega)
  clear hgt hg
  by_cases hr : Gr.RightM fitsP m
  case neg =>
    have hb : rightB m = false := (rightB_no hr).symm
    have HPM := Lib.hid fun W (g : Grew w W) => packMan_bad c m W (h.grew g) hs.s hs.p (by have := hs.e; omega) hb
    rw [hb] at hR13 hR
    have HR13 := Lib.hid hR13
    have HR := Lib.hid hR
    clear hR13 hR hr hb hs h8
    obtain ⟨ep, pl, ao, co, ag, cg, ae, ce, ax, cx, ap, cp, rfl⟩ := h.lit
    clear h
    show Calls Tryz.prog _ #[.agg #[.int .i64 ep, .int .i64 pl, .slice ao m.offs.length co, .slice ag m.graph.length cg, .slice ae m.ents.length ce, .slice ax m.out.length cx, .slice ap m.plan.length cp]] w _
    go_enter Tryz.func6, Tryz.ntmps6
    go_wp2_with (first
      | (go_at_call 8; refine (awake13_any _).mono ?_; rintro e w1 ⟨rfl, R1, n1, rfl⟩)
      | (go_at_call 21; refine (HGT.out _ (by repeat (first | with_reducible exact Grew.refl _ | apply Grew.more | apply Grew.alloc | apply Grew.drew | apply Grew.drewN))).mono ?_; rintro e w1 ⟨rfl, R2, n2, rfl⟩)
      | (go_at_call 22; refine (HR13.out _ (by repeat (first | with_reducible exact Grew.refl _ | apply Grew.more | apply Grew.alloc | apply Grew.drew | apply Grew.drewN))).mono ?_; rintro e w1 ⟨rfl, R3, n3, rfl⟩)
      | (go_at_call 23; refine (HPM.out _ (by repeat (first | with_reducible exact Grew.refl _ | apply Grew.more | apply Grew.alloc | apply Grew.drew | apply Grew.drewN))).mono ?_; rintro e w1 ⟨rfl, R4, n4, rfl⟩)
      | (go_at_call 24; refine (HR.out _ (by repeat (first | with_reducible exact Grew.refl _ | apply Grew.more | apply Grew.alloc | apply Grew.drew | apply Grew.drewN))).mono ?_; rintro e w1 ⟨rfl, R5, n5, rfl⟩))
    go_ret
    exact ⟨by simp, by repeat (first | with_reducible exact Grew.refl _ | apply Grew.more | apply Grew.alloc | apply Grew.drew | apply Grew.drewN)⟩
  have hb : rightB m = true := rightB_iff.2 hr
  rw [hb] at hR13 hR
  have HR13 := Lib.hid hR13
  have HR := Lib.hid hR
  have ho3 : m.out.length ≤ 3000 := by have := hs.o; omega
  have HPM := Lib.hid fun W (g : Grew w W) => packMan_ok c m W (h.grew g) hs.s hs.p ho3 hr
  have hlen := putM_len hr hs h8
  have hgm := getM_put hr h8
  have hGM := fun W => getMan_any (Gr.putM putI m) W (by omega)
  rw [hgm] at hGM
  have HGM := Lib.hid hGM
  have HRM := Lib.hid fun c' W (h' : MfIs W c' m) => refMan13_any c' m W h' ho3 hr
  have HSM := Lib.hid fun c' W (h' : MfIs W c' m) (g : Grew w W) => packSameM_any c' c m m W h' (h.grew g) (okMf_of hr hs) (okMf_of hr hs)
  rw [eqMf_self] at HSM
  have HM := Lib.hid h
  clear hR13 hR hr hb hs h8 hgm hGM hlen
  generalize Gr.putM putI m = t at *
  obtain ⟨ep, pl, ao, co, ag, cg, ae, ce, ax, cx, ap, cp, rfl⟩ := h.lit
  clear h
  show Calls Tryz.prog _ #[.agg #[.int .i64 ep, .int .i64 pl, .slice ao m.offs.length co, .slice ag m.graph.length cg, .slice ae m.ents.length ce, .slice ax m.out.length cx, .slice ap m.plan.length cp]] w _
  go_enter Tryz.func6, Tryz.ntmps6
  go_wp2_with (first
    | (go_at_call 8; refine (awake13_any _).mono ?_; rintro e w1 ⟨rfl, R1, n1, rfl⟩)
    | (go_at_call 21; refine (HGT.out _ (by repeat (first | with_reducible exact Grew.refl _ | apply Grew.more | apply Grew.alloc | apply Grew.drew | apply Grew.drewN))).mono ?_; rintro e w1 ⟨rfl, R2, n2, rfl⟩)
    | (go_at_call 22; refine (HR13.out _ (by repeat (first | with_reducible exact Grew.refl _ | apply Grew.more | apply Grew.alloc | apply Grew.drew | apply Grew.drewN))).mono ?_; rintro e w1 ⟨rfl, R3, n3, rfl⟩)
    | (go_at_call 23; refine (HPM.out _ (by repeat (first | with_reducible exact Grew.refl _ | apply Grew.more | apply Grew.alloc | apply Grew.drew | apply Grew.drewN))).mono ?_; rintro e w1 ⟨rfl, R4, n4, rfl⟩)
    | (go_at_call 24; refine (HR.out _ (by repeat (first | with_reducible exact Grew.refl _ | apply Grew.more | apply Grew.alloc | apply Grew.drew | apply Grew.drewN))).mono ?_; rintro e w1 ⟨rfl, R5, n5, rfl⟩)
    | (go_at_call 25; refine (HGM.out _).mono ?_; rintro e w1 ⟨d, rfl, hd, R6, n6, rfl⟩; simp only at hd; (have HD := Lib.hid hd); obtain ⟨ep2, pl2, ao2, co2, ag2, cg2, ae2, ce2, ax2, cx2, ap2, cp2, rfl⟩ := hd.lit; (have HRX := Lib.hid fun W g => HRM.out _ W (HD.out.grew g)); (have HSX := Lib.hid fun W g => HSM.out _ W (HD.out.grew g)); clear hd)
    | (go_at_call 27; go_loud (refine (HSX.out _ (by repeat (first | with_reducible exact Grew.refl _ | apply Grew.more | apply Grew.alloc | apply Grew.drew | apply Grew.drewN)) (by repeat (first | with_reducible exact Grew.refl _ | apply Grew.more | apply Grew.alloc | apply Grew.drew | apply Grew.drewN))).mono ?_; rintro e w1 ⟨rfl, R8, n8, rfl⟩))
    | (go_at_call_of 26 (Value.agg #[.int .i64 ep, .int .i64 pl, .slice ao m.offs.length co, .slice ag m.graph.length cg, .slice ae m.ents.length ce, .slice ax m.out.length cx, .slice ap m.plan.length cp]); refine (HRM.out _ _ (HM.out.grew (by repeat (first | with_reducible exact Grew.refl _ | apply Grew.more | apply Grew.alloc | apply Grew.drew | apply Grew.drewN)))).mono ?_; rintro e w1 ⟨rfl, R7, n7, rfl⟩)
    | (go_at_call 26; go_loud (refine (HRX.out _ (by repeat (first | with_reducible exact Grew.refl _ | apply Grew.more | apply Grew.alloc | apply Grew.drew | apply Grew.drewN))).mono ?_; rintro e w1 ⟨rfl, R9, n9, rfl⟩)))
  go_ret
  exact ⟨by simp, by repeat (first | with_reducible exact Grew.refl _ | apply Grew.more | apply Grew.alloc | apply Grew.drew | apply Grew.drewN)⟩
end Go.Proofs.YtangapokicnfgaaGreat

/-! Nodes as arguments. -/
namespace Go.Proofs.YtangapokicnfgaaGreat
set_option linter.unusedSimpArgs false
set_option maxRecDepth 100000
set_option linter.unusedVariables false
open Go.RowKit Ga Go.ChangeShapes Go.WideShapes

theorem cells_int1 : Tryz.prog.cellsOf 3 = 1 := by kernel_rfl
theorem cells_ints1 : Tryz.prog.cellsOf 41 = 1 := by kernel_rfl
theorem cells_ins : Tryz.prog.cellsOf 123 = 2 := by kernel_rfl
theorem cells_inss1 : Tryz.prog.cellsOf 42 = 1 := by kernel_rfl
theorem cells_arr8 : Tryz.prog.cellsOf 43 = 8 := by kernel_rfl
theorem cells_node : Tryz.prog.cellsOf 45 = 13 := by kernel_rfl
theorem laidOut : laidOutB Tryz.prog = true := by kernel_rfl
theorem opens_int1 : Opens Tryz.prog 3 (fun _ cs (n : Int) => cs = [Value.int .i64 n] ∧ True) := (Opens.i64 Tryz.underlying3).mono fun _ _ n h => ⟨n, h.1, trivial⟩
theorem opens_insN : Opens Tryz.prog 123 (fun _ cs (a : Ga.Val) => cs = [Value.int .i64 a.1, Value.int .i64 a.2] ∧ True) := by
  intro H enc w fuel cs x hx
  obtain ⟨hl, hf⟩ := Opens.fields Tryz.underlying123 hx
  rw [cells_ins] at hl
  match cs, hl with
  | [c0, c1], _ =>
    obtain ⟨n0, y0, h0⟩ := hf 0 _ rfl
    obtain ⟨n1, y1, h1⟩ := hf 1 _ rfl
    have h0' : DataW.trod enc Tryz.prog w 0 (fun _ => true) true n0 3 (([c0, c1].drop 0).take (Tryz.prog.cellsOf 3)) = some y0 := h0
    have h1' : DataW.trod enc Tryz.prog w 0 (fun _ => true) true n1 3 (([c0, c1].drop 1).take (Tryz.prog.cellsOf 3)) = some y1 := h1
    rw [cells_int1] at h0' h1'
    obtain ⟨i0, e0, -⟩ := opens_int1 H enc w n0 _ _ h0'
    obtain ⟨i1, e1, -⟩ := opens_int1 H enc w n1 _ _ h1'
    simp at e0 e1
    subst e0 e1
    exact ⟨(i0, i1), rfl, trivial⟩
/-- a slice and how far it may grow -/
theorem SlAt.rowsC {α : Type} {k : Nat} {enc : α → List Value} {w : World} {v : Value} {l : List α} (h : SlAt k (fun _ cs (a : α) => cs = enc a ∧ True) w v l) : RowsAt k enc w v l ∧ ∃ a cap, v = .slice a l.length cap ∧ l.length ≤ cap := by
  refine ⟨h.rows.1, ?_⟩
  obtain ⟨a, cap, rfl, hl, -⟩ := h
  exact ⟨a, cap, rfl, hl⟩
theorem opens_node : Opens Tryz.prog 45 (fun w cs (x : NdC × Gr.Nd) => cs = encNd x.1 ∧ NodeIs w x.1 x.2) := by
  intro H enc w fuel cs x hx
  obtain ⟨hl, hf⟩ := Opens.fields Tryz.underlying45 hx
  rw [cells_node] at hl
  match cs, hl with
  | [c0, c1, c2, c3, c4, c5, c6, c7, c8, c9, c10, c11, c12], _ =>
    obtain ⟨n0, y0, h0⟩ := hf 0 _ rfl
    obtain ⟨n1, y1, h1⟩ := hf 1 _ rfl
    obtain ⟨n2, y2, h2⟩ := hf 2 _ rfl
    obtain ⟨n3, y3, h3⟩ := hf 3 _ rfl
    obtain ⟨n4, y4, h4⟩ := hf 4 _ rfl
    obtain ⟨n5, y5, h5⟩ := hf 5 _ rfl
    have h0' : DataW.trod enc Tryz.prog w 0 (fun _ => true) true n0 3 (([c0, c1, c2, c3, c4, c5, c6, c7, c8, c9, c10, c11, c12].drop 0).take (Tryz.prog.cellsOf 3)) = some y0 := h0
    have h1' : DataW.trod enc Tryz.prog w 0 (fun _ => true) true n1 3 (([c0, c1, c2, c3, c4, c5, c6, c7, c8, c9, c10, c11, c12].drop 1).take (Tryz.prog.cellsOf 3)) = some y1 := h1
    have h2' : DataW.trod enc Tryz.prog w 0 (fun _ => true) true n2 41 (([c0, c1, c2, c3, c4, c5, c6, c7, c8, c9, c10, c11, c12].drop 2).take (Tryz.prog.cellsOf 41)) = some y2 := h2
    have h3' : DataW.trod enc Tryz.prog w 0 (fun _ => true) true n3 42 (([c0, c1, c2, c3, c4, c5, c6, c7, c8, c9, c10, c11, c12].drop 3).take (Tryz.prog.cellsOf 42)) = some y3 := h3
    have h4' : DataW.trod enc Tryz.prog w 0 (fun _ => true) true n4 3 (([c0, c1, c2, c3, c4, c5, c6, c7, c8, c9, c10, c11, c12].drop 4).take (Tryz.prog.cellsOf 3)) = some y4 := h4
    have h5' : DataW.trod enc Tryz.prog w 0 (fun _ => true) true n5 43 (([c0, c1, c2, c3, c4, c5, c6, c7, c8, c9, c10, c11, c12].drop 5).take (Tryz.prog.cellsOf 43)) = some y5 := h5
    rw [cells_int1] at h0' h1' h4'
    rw [cells_ints1] at h2'
    rw [cells_inss1] at h3'
    rw [cells_arr8] at h5'
    obtain ⟨i0, e0, -⟩ := opens_int1 H enc w n0 _ _ h0'
    obtain ⟨i1, e1, -⟩ := opens_int1 H enc w n1 _ _ h1'
    obtain ⟨i4, e4, -⟩ := opens_int1 H enc w n4 _ _ h4'
    obtain ⟨l2, v2, e2, s2⟩ := Opens.slice Tryz.underlying41 cells_int1 (by decide) opens_int1 H enc w n2 _ _ h2'
    obtain ⟨l3, v3, e3, s3⟩ := Opens.slice Tryz.underlying42 cells_ins (by decide) opens_insN H enc w n3 _ _ h3'
    obtain ⟨hl5, hf5⟩ := Opens.elems Tryz.underlying43 h5'
    obtain ⟨r2, a2, k2, rfl, hk2⟩ := SlAt.rowsC (enc := fun (x : Int) => [Value.int .i64 x]) s2
    obtain ⟨r3, a3, k3, rfl, hk3⟩ := SlAt.rowsC (enc := fun (a : Ga.Val) => [Value.int .i64 a.1, Value.int .i64 a.2]) s3
    have hr : ∀ i, i < 8 → ∃ r : Int, (([c5, c6, c7, c8, c9, c10, c11, c12].drop i).take 1) = [Value.int .i64 r] := fun i hi => by
      obtain ⟨m, y, h⟩ := hf5 i hi
      rw [cells_int1, Nat.mul_one] at h
      obtain ⟨r, e, -⟩ := opens_int1 H enc w m _ _ h
      exact ⟨r, e⟩
    obtain ⟨q0, g0⟩ := hr 0 (by decide)
    obtain ⟨q1, g1⟩ := hr 1 (by decide)
    obtain ⟨q2, g2⟩ := hr 2 (by decide)
    obtain ⟨q3, g3⟩ := hr 3 (by decide)
    obtain ⟨q4, g4⟩ := hr 4 (by decide)
    obtain ⟨q5, g5⟩ := hr 5 (by decide)
    obtain ⟨q6, g6⟩ := hr 6 (by decide)
    obtain ⟨q7, g7⟩ := hr 7 (by decide)
    simp at e0 e1 e2 e3 e4 g0 g1 g2 g3 g4 g5 g6 g7
    subst e0 e1 e2 e3 e4 g0 g1 g2 g3 g4 g5 g6 g7
    exact ⟨(⟨i0, i1, a2, l2.length, k2, a3, l3.length, k3, i4, q0, q1, q2, q3, q4, q5, q6, q7⟩, ⟨i0, i1, l2, l3, i4, [q0, q1, q2, q3, q4, q5, q6, q7]⟩), rfl, rfl, rfl, r2, r3, rfl, rfl, hk2⟩
theorem nodes_of {w : World} {v : Value} {l : List (NdC × Gr.Nd)} (h : SlAt 13 (fun w cs (x : NdC × Gr.Nd) => cs = encNd x.1 ∧ NodeIs w x.1 x.2) w v l) : NodesAt w v (l.map (·.2)) := by
  obtain ⟨a, cap, rfl, hl, hm, hnil, hx⟩ := h
  refine ⟨l.map (·.1), ⟨a, cap, by simp, Nat.le_trans (by simpa using hl) hm, fun hne => ?_⟩, by simp, ?_⟩
  · obtain ⟨b, off, rfl, hc⟩ := hx (by intro e; subst e; exact hne rfl)
    refine ⟨b, off, rfl, fun i c hi j u hu => ?_⟩
    rw [List.getElem?_map] at hi
    obtain ⟨y, hy, rfl⟩ := Option.map_eq_some_iff.1 hi
    obtain ⟨cs, -, ⟨rfl, -⟩, h2⟩ := hc i y hy
    exact h2 j u hu
  · intro i c n hc hn
    rw [List.getElem?_map] at hc hn
    obtain ⟨y, hy, rfl⟩ := Option.map_eq_some_iff.1 hc
    obtain ⟨z, hz, rfl⟩ := Option.map_eq_some_iff.1 hn
    obtain rfl := Option.some.inj (hy.symm.trans hz)
    obtain ⟨b, off, rfl, hx2⟩ := hx (by intro e; subst e; simp at hy)
    obtain ⟨cs, -, ⟨-, h1⟩, -⟩ := hx2 i y hy
    exact h1
end Go.Proofs.YtangapokicnfgaaGreat

/-! Steps as arguments. -/
namespace Go.Proofs.YtangapokicnfgaaGreat
set_option linter.unusedSimpArgs false
set_option maxRecDepth 100000
set_option linter.unusedVariables false
open Go.RowKit Ga Go.ChangeShapes Go.WideShapes

theorem cells_step : Tryz.prog.cellsOf 47 = 15 := by kernel_rfl
theorem cells_bool1 : Tryz.prog.cellsOf 4 = 1 := by kernel_rfl
theorem opens_bool1 : Opens Tryz.prog 4 (fun _ cs (b : Bool) => cs = [Value.bool b] ∧ True) := (Opens.bool Tryz.underlying4).mono fun _ _ n h => ⟨n, h, trivial⟩
theorem opens_step : Opens Tryz.prog 47 (fun w cs (x : StC × Gr.Stp) => cs = encSt x.1 ∧ StepIs w x.1 x.2) := by
  intro H enc w fuel cs x hx
  obtain ⟨hl, hf⟩ := Opens.fields Tryz.underlying47 hx
  rw [cells_step] at hl
  match cs, hl with
  | [c0, c1, c2, c3, c4, c5, c6, c7, c8, c9, c10, c11, c12, c13, c14], _ =>
    obtain ⟨n0, y0, h0⟩ := hf 0 _ rfl
    obtain ⟨n1, y1, h1⟩ := hf 1 _ rfl
    obtain ⟨n2, y2, h2⟩ := hf 2 _ rfl
    have h0' : DataW.trod enc Tryz.prog w 0 (fun _ => true) true n0 3 (([c0, c1, c2, c3, c4, c5, c6, c7, c8, c9, c10, c11, c12, c13, c14].drop 0).take (Tryz.prog.cellsOf 3)) = some y0 := h0
    have h1' : DataW.trod enc Tryz.prog w 0 (fun _ => true) true n1 45 (([c0, c1, c2, c3, c4, c5, c6, c7, c8, c9, c10, c11, c12, c13, c14].drop 1).take (Tryz.prog.cellsOf 45)) = some y1 := h1
    have h2' : DataW.trod enc Tryz.prog w 0 (fun _ => true) true n2 4 (([c0, c1, c2, c3, c4, c5, c6, c7, c8, c9, c10, c11, c12, c13, c14].drop 14).take (Tryz.prog.cellsOf 4)) = some y2 := h2
    rw [cells_int1] at h0'
    rw [cells_node] at h1'
    rw [cells_bool1] at h2'
    obtain ⟨i0, e0, -⟩ := opens_int1 H enc w n0 _ _ h0'
    obtain ⟨⟨c, n⟩, e1, hn⟩ := opens_node H enc w n1 _ _ h1'
    obtain ⟨b2, e2, -⟩ := opens_bool1 H enc w n2 _ _ h2'
    simp [encNd] at e0 e1 e2
    obtain ⟨g0, g1, g2, g3, g4, g5, g6, g7, g8, g9, g10, g11, g12⟩ := e1
    subst e0 e2 g0 g1 g2 g3 g4 g5 g6 g7 g8 g9 g10 g11 g12
    exact ⟨(⟨i0, c, b2⟩, ⟨i0, n, b2⟩), rfl, ⟨rfl, hn, rfl⟩⟩
theorem steps_of {w : World} {v : Value} {l : List (StC × Gr.Stp)} (h : SlAt 15 (fun w cs (x : StC × Gr.Stp) => cs = encSt x.1 ∧ StepIs w x.1 x.2) w v l) : StepsAt w v (l.map (·.2)) := by
  obtain ⟨a, cap, rfl, hl, hm, hnil, hx⟩ := h
  refine ⟨l.map (·.1), ⟨a, cap, by simp, Nat.le_trans (by simpa using hl) hm, fun hne => ?_⟩, by simp, ?_⟩
  · obtain ⟨b, off, rfl, hc⟩ := hx (by intro e; subst e; exact hne rfl)
    refine ⟨b, off, rfl, fun i c hi j u hu => ?_⟩
    rw [List.getElem?_map] at hi
    obtain ⟨y, hy, rfl⟩ := Option.map_eq_some_iff.1 hi
    obtain ⟨cs, -, ⟨rfl, -⟩, h2⟩ := hc i y hy
    exact h2 j u hu
  · intro i c n hc hn
    rw [List.getElem?_map] at hc hn
    obtain ⟨y, hy, rfl⟩ := Option.map_eq_some_iff.1 hc
    obtain ⟨z, hz, rfl⟩ := Option.map_eq_some_iff.1 hn
    obtain rfl := Option.some.inj (hy.symm.trans hz)
    obtain ⟨b, off, rfl, hx2⟩ := hx (by intro e; subst e; simp at hy)
    obtain ⟨cs, -, ⟨-, h1⟩, -⟩ := hx2 i y hy
    exact h1
end Go.Proofs.YtangapokicnfgaaGreat
