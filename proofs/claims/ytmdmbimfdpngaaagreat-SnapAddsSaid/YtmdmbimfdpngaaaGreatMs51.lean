import Derived.Test.YtmdmbimfdpngaaaGreatMs50
import Derived.Test.YtmdmbimfdpngaaaGreatMs47
import Derived.Test.YtmdmbimfdpngaaaGreatMs48
import Derived.Test.YtmdmbimfdpngaaaGreatMs42
/-! forebayref13.Right. -/
namespace Go.Proofs.YtmdmbimfdpngaaaGreat
set_option linter.unusedSimpArgs false
set_option linter.unusedVariables false
open Go.RowKit Ga
set_option maxRecDepth 100000

theorem strict_ids {l : List Gr.Nd} (h : ∀ j (hj : j + 1 < l.length), l[j].id < l[j + 1].id) : l.Pairwise fun a b => a.id < b.id := by
  rw [List.pairwise_iff_getElem]
  have key : ∀ d i (hj : i + d + 1 < l.length), l[i].id < l[i + d + 1].id := by
    intro d
    induction d with
    | zero => intro i hj; exact h i hj
    | succ d ih => intro i hj; have h1 := ih i (by omega); have h2 := h (i + d + 1) hj; exact Int.lt_trans h1 h2
  intro i j hi hj hij
  have := key (j - i - 1) i (by omega)
  simpa [show i + (j - i - 1) + 1 = j by omega] using this
theorem num_lt {a b : Tab.En} (ha : 0 ≤ a.key ∧ a.key < 64) (hb : 0 ≤ b.key ∧ b.key < 64) : Tab.num a < Tab.num b ↔ ¬ (b.node < a.node ∨ a.node = b.node ∧ b.key ≤ a.key) := by
  unfold Tab.num
  omega
theorem strict_ents {l : List Tab.En} (hk : ∀ x ∈ l, 0 ≤ x.key ∧ x.key < 64) (h : ∀ j (hj : j + 1 < l.length), Tab.num l[j] < Tab.num l[j + 1]) : l.Pairwise fun a b => Tab.num a < Tab.num b := by
  rw [List.pairwise_iff_getElem]
  have key : ∀ d i (hj : i + d + 1 < l.length), Tab.num l[i] < Tab.num l[i + d + 1] := by
    intro d
    induction d with
    | zero => intro i hj; exact h i hj
    | succ d ih => intro i hj; have h1 := ih i (by omega); have h2 := h (i + d + 1) hj; exact Int.lt_trans h1 h2
  intro i j hi hj hij
  have := key (j - i - 1) i (by omega)
  simpa [show i + (j - i - 1) + 1 = j by omega] using this
theorem conds_right {m : Gr.Mf} (h1 : Cond1 m) (h2 : Cond2 m) (h3 : Cond3 m) (h4 : Cond4 m) (h5 : Cond5 m) (h6 : Cond6 m) (h7 : Cond7 m) : Gr.RightM fitsP m := by
  obtain ⟨a1, a2, a3, a4⟩ := h1
  have hen : ∀ x ∈ m.ents, okEn x = true ∧ Tab.nz x = true ∧ badE m.graph x = false := fun x hx => by
    obtain ⟨j, hj, rfl⟩ := List.mem_iff_getElem.1 hx
    obtain ⟨b1, b2, b3, -⟩ := h5 j hj
    exact ⟨b1, b2, b3⟩
  refine ⟨numB_iff.1 a1, numB_iff.1 a2, checkR_zero a3, strict_ids h2, h3, fun x hx => numB_iff.1 (h4 x hx), fun x hx => ?_, ?_, fun x hx => badE_no.1 (hen x hx).2.2, a4, fun x hx => lineB_iff.1 (h7 x hx), h6⟩
  · obtain ⟨b1, b2, -⟩ := hen x hx
    obtain ⟨c1, c2, c3, c4⟩ := okEn_iff.1 b1
    exact ⟨c1, c2, c3, c4, b2⟩
  · have hk : ∀ x ∈ m.ents, 0 ≤ x.key ∧ x.key < 64 := fun x hx => (okEn_iff.1 (hen x hx).1).2.1
    exact strict_ents hk fun j hj => (num_lt (hk _ (List.getElem_mem _)) (hk _ (List.getElem_mem _))).2 ((h5 (j + 1) hj).2.2.2 j rfl)
theorem right_conds {m : Gr.Mf} (h : Gr.RightM fitsP m) : Cond1 m ∧ Cond2 m ∧ Cond3 m ∧ Cond4 m ∧ Cond5 m ∧ Cond6 m ∧ Cond7 m := by
  refine ⟨⟨numB_iff.2 h.ep, numB_iff.2 h.pl, checkR_ok h.gr.len h.gr, h.ol⟩, fun j hj => ?_, h.of, fun x hx => numB_iff.2 (h.o4 x hx), fun j hj => ?_, h.pn, fun x hx => lineB_iff.2 (h.ou x hx)⟩
  · exact List.pairwise_iff_getElem.1 h.so j (j + 1) (by omega) hj (by omega)
  · obtain ⟨c1, c2, c3, c4, c5⟩ := h.en _ (List.getElem_mem hj)
    refine ⟨okEn_iff.2 ⟨c1, c2, c3, c4⟩, c5, badE_no.2 (h.ek _ (List.getElem_mem hj)), fun i hi => ?_⟩
    subst hi
    have hlt := List.pairwise_iff_getElem.1 h.ei i (i + 1) (by omega) hj (by omega)
    exact (num_lt (h.en _ (List.getElem_mem _)).2.1 c2).1 hlt
theorem ret22_end {w W : World} {b : Bool} {a : Act} {m : Gr.Mf} (h : Ret22 w b a W) (e : b = rightB m) : bodyPost Tryz.prog Tryz.f13 (Gives (.bool (rightB m)) w) .ret a W := by
  obtain ⟨t, d⟩ := a
  obtain ⟨h1, h2, h3⟩ := h
  simp only at h1 h2
  subst h2
  refine bodyPost_ret (v := .bool b) ?_ rfl ⟨by rw [e], h3⟩
  simp [results, Tryz.results13, go_sem]
  rw [← Array.getD_eq_getD_getElem?, h1]
theorem rightB_no {m : Gr.Mf} (h : ¬ Gr.RightM fitsP m) : false = rightB m := by
  cases hb : rightB m
  · rfl
  · exact absurd (rightB_iff.1 hb) h
set_option maxHeartbeats 16000000 in
theorem refRight13_any (c : MfC) (m : Gr.Mf) (w : World) (h : MfIs w c m) : Calls Tryz.prog 13 #[.agg #[.int .i64 c.epoch, .int .i64 c.plans, .slice c.ao c.no c.co, .slice c.ag c.ng c.cg, .slice c.ae c.ne c.ce, .slice c.ax c.nx c.cx, .slice c.ap c.np c.cp]] w (Gives (.bool (rightB m)) w) := by
  have HM := Lib.hid h
  have hbx := heap_new_at w (.cells (boxM c) 28) _ rfl
  have HBX := Lib.hid hbx
  clear h hbx
  go_enter Tryz.func13, Tryz.ntmps13
  iterate 11 go_step
  have hno : ∀ {a' w'}, Ret22 w false a' w' → ¬ Gr.RightM fitsP m → bodyPost Tryz.prog Tryz.f13 (Gives (.bool (rightB m)) w) .ret a' w' := fun hr hn => ret22_end hr (rightB_no hn)
  refine rm_p1 m w _ w.heap.size c _ _ ⟨?_, ?_, ?_, ?_⟩ (HM.out.grew (by repeat (first | with_reducible exact Grew.refl _ | apply Grew.more | apply Grew.alloc | apply Grew.drew | apply Grew.drewN))) (fun hc a' w' hr => hno hr fun q => hc (right_conds q).1) fun h1 a1 w1 g1 P1 => ?_
  · rfl
  · rfl
  · exact (Grew.refl w).alloc _
  · exact HBX.out
  have hm1 := HM.out.grew P1.g
  refine rm_p2 m w _ w.heap.size c _ _ P1 hm1 (fun hc a' w' hr => hno hr fun q => hc (right_conds q).2.1) fun h2 a2 w2 g2 P2 => ?_
  have hm2 := HM.out.grew P2.g
  have hne : 0 < m.graph.length := by
    obtain ⟨n, hn⟩ := source_some (checkR_zero h1.2.2.1)
    cases hg : m.graph with
    | nil => rw [hg] at hn; simp [Gr.nodeOf, Gr.find] at hn
    | cons x l => simp
  refine rm_p3 m w _ w.heap.size c _ _ P2 hm2 hne (fun hc a' w' hr => hno hr fun q => hc (right_conds q).2.2.1) fun h3 a3 w3 g3 P3 => ?_
  have hm3 := HM.out.grew P3.g
  refine rm_p4 m w _ w.heap.size c _ _ P3 hm3 (fun hc a' w' hr => hno hr fun q => hc (right_conds q).2.2.2.1) fun h4 a4 w4 g4 P4 => ?_
  have hm4 := HM.out.grew P4.g
  refine rm_p5 m w _ w.heap.size c _ _ P4 hm4 (fun hc a' w' hr => hno hr fun q => hc (right_conds q).2.2.2.2.1) fun h5 a5 w5 g5 P5 => ?_
  have hm5 := HM.out.grew P5.g
  refine rm_p6 m w _ w.heap.size c _ _ P5 hm5 (fun hc a' w' hr => hno hr fun q => hc (right_conds q).2.2.2.2.2.1) fun h6 a6 w6 g6 P6 => ?_
  have hm6 := HM.out.grew P6.g
  exact rm_p7 m w _ w.heap.size c _ _ P6 hm6 (fun hc a' w' hr => hno hr fun q => hc (right_conds q).2.2.2.2.2.2) fun h7 a7 w7 hr => ret22_end hr (rightB_iff.2 (conds_right h1 h2 h3 h4 h5 h6 h7)).symm
end Go.Proofs.YtmdmbimfdpngaaaGreat

/-! The law SnapParts, walked. -/
namespace Go.Proofs.YtmdmbimfdpngaaaGreat
set_option linter.unusedSimpArgs false
set_option linter.unusedVariables false
open Go.RowKit Ga
set_option maxRecDepth 100000

/-- is it more than is played? -/
def greatS (m : Gr.Mf) : Bool := (greatG m.graph || greatP m.plan) || (decide (60 < m.ents.length) || (decide (60 < m.out.length) || decide (20 < m.offs.length)))
set_option maxHeartbeats 16000000 in
theorem snapParts_great (c : MfC) (m : Gr.Mf) (w : World) (h : MfIs w c m) (hg : greatS m = true) : Calls Tryz.prog 3 #[.agg #[.int .i64 c.epoch, .int .i64 c.plans, .slice c.ao c.no c.co, .slice c.ag c.ng c.cg, .slice c.ae c.ne c.ce, .slice c.ax c.nx c.cx, .slice c.ap c.np c.cp]] w (Gives (.bool true) w) := by
  have hg10 := fun W (g : Grew w W) => great10_any _ _ m.graph m.plan W (h.g.grew g) (h.p.grew g)
  have hg8 := fun W (g : Grew w W) => great08_any _ m.graph W (h.g.grew g)
  obtain ⟨ep, pl, ao, co, ag, cg, ae, ce, ax, cx, ap, cp, rfl⟩ := h.lit
  clear h
  simp only at hg10 hg8
  unfold greatS at hg
  show Calls Tryz.prog _ #[.agg #[.int .i64 ep, .int .i64 pl, .slice ao m.offs.length co, .slice ag m.graph.length cg, .slice ae m.ents.length ce, .slice ax m.out.length cx, .slice ap m.plan.length cp]] w _
  cases hq : (greatG m.graph || greatP m.plan)
  case true =>
    rw [hq] at hg10
    have HG10 := Lib.hid hg10
    clear hg10 hg8 hq hg
    go_enter Tryz.func3, Tryz.ntmps3
    go_wp2_with (first
      | (go_at_call 7; refine (awake22_any _).mono ?_; rintro e w1 ⟨rfl, R1, n1, rfl⟩)
      | (go_at_call 8; refine (HG10.out _ (by repeat (first | with_reducible exact Grew.refl _ | apply Grew.more | apply Grew.alloc | apply Grew.drew | apply Grew.drewN))).mono ?_; rintro e w1 ⟨rfl, R2, n2, rfl⟩))
    go_ret
    exact ⟨rfl, by repeat (first | with_reducible exact Grew.refl _ | apply Grew.more | apply Grew.alloc | apply Grew.drew | apply Grew.drewN)⟩
  have hq8 : greatG m.graph = false := (Bool.or_eq_false_iff.1 hq).1
  rw [hq] at hg10 hg
  rw [hq8] at hg8
  have HG10 := Lib.hid hg10
  have HG8 := Lib.hid hg8
  clear hg10 hg8 hq hq8
  by_cases h1 : m.ents.length ≤ 60
  case neg =>
    clear hg
    go_enter Tryz.func3, Tryz.ntmps3
    go_wp2_with (first
      | (go_at_call 7; refine (awake22_any _).mono ?_; rintro e w1 ⟨rfl, R1, n1, rfl⟩)
      | (go_at_call 8; refine (HG10.out _ (by repeat (first | with_reducible exact Grew.refl _ | apply Grew.more | apply Grew.alloc | apply Grew.drew | apply Grew.drewN))).mono ?_; rintro e w1 ⟨rfl, R2, n2, rfl⟩)
      | (go_at_call 9; refine (HG8.out _ (by repeat (first | with_reducible exact Grew.refl _ | apply Grew.more | apply Grew.alloc | apply Grew.drew | apply Grew.drewN))).mono ?_; rintro e w1 ⟨rfl, R3, n3, rfl⟩))
    go_ret
    exact ⟨rfl, by repeat (first | with_reducible exact Grew.refl _ | apply Grew.more | apply Grew.alloc | apply Grew.drew | apply Grew.drewN)⟩
  by_cases h2 : m.out.length ≤ 60
  case neg =>
    clear hg
    go_enter Tryz.func3, Tryz.ntmps3
    go_wp2_with (first
      | (go_at_call 7; refine (awake22_any _).mono ?_; rintro e w1 ⟨rfl, R1, n1, rfl⟩)
      | (go_at_call 8; refine (HG10.out _ (by repeat (first | with_reducible exact Grew.refl _ | apply Grew.more | apply Grew.alloc | apply Grew.drew | apply Grew.drewN))).mono ?_; rintro e w1 ⟨rfl, R2, n2, rfl⟩)
      | (go_at_call 9; refine (HG8.out _ (by repeat (first | with_reducible exact Grew.refl _ | apply Grew.more | apply Grew.alloc | apply Grew.drew | apply Grew.drewN))).mono ?_; rintro e w1 ⟨rfl, R3, n3, rfl⟩))
    go_ret
    exact ⟨rfl, by repeat (first | with_reducible exact Grew.refl _ | apply Grew.more | apply Grew.alloc | apply Grew.drew | apply Grew.drewN)⟩
  by_cases h3 : m.offs.length ≤ 20
  case neg =>
    clear hg
    go_enter Tryz.func3, Tryz.ntmps3
    go_wp2_with (first
      | (go_at_call 7; refine (awake22_any _).mono ?_; rintro e w1 ⟨rfl, R1, n1, rfl⟩)
      | (go_at_call 8; refine (HG10.out _ (by repeat (first | with_reducible exact Grew.refl _ | apply Grew.more | apply Grew.alloc | apply Grew.drew | apply Grew.drewN))).mono ?_; rintro e w1 ⟨rfl, R2, n2, rfl⟩)
      | (go_at_call 9; refine (HG8.out _ (by repeat (first | with_reducible exact Grew.refl _ | apply Grew.more | apply Grew.alloc | apply Grew.drew | apply Grew.drewN))).mono ?_; rintro e w1 ⟨rfl, R3, n3, rfl⟩))
    go_ret
    exact ⟨rfl, by repeat (first | with_reducible exact Grew.refl _ | apply Grew.more | apply Grew.alloc | apply Grew.drew | apply Grew.drewN)⟩
  exfalso
  rw [decide_eq_false (show ¬ 60 < m.ents.length by omega), decide_eq_false (show ¬ 60 < m.out.length by omega), decide_eq_false (show ¬ 20 < m.offs.length by omega)] at hg
  cases hg
theorem greatS_no {m : Gr.Mf} (h : greatS m = false) : (greatG m.graph = false ∧ greatP m.plan = false) ∧ m.ents.length ≤ 60 ∧ m.out.length ≤ 60 ∧ m.offs.length ≤ 20 := by
  unfold greatS at h
  simp only [Bool.or_eq_false_iff, decide_eq_false_iff_not] at h
  exact ⟨h.1, by omega, by omega, by omega⟩
set_option maxHeartbeats 16000000 in
theorem snapParts_A (c : MfC) (m : Gr.Mf) (w : World) (h : MfIs w c m) (hg : greatS m = false) (hr : ¬ Gr.RightR m.graph) : Calls Tryz.prog 3 #[.agg #[.int .i64 c.epoch, .int .i64 c.plans, .slice c.ao c.no c.co, .slice c.ag c.ng c.cg, .slice c.ae c.ne c.ce, .slice c.ax c.nx c.cx, .slice c.ap c.np c.cp]] w (Gives (.bool true) w) := by
  have hb : rightB m = false := by
    cases hb : rightB m
    · rfl
    · exact absurd (rightB_iff.1 hb).gr hr
  obtain ⟨⟨hq8, hqp⟩, he60, ho60, hf20⟩ := greatS_no hg
  have hsm := (great_small hq8).1
  have hps := greatP_small hqp
  have hg10 := fun W (g : Grew w W) => great10_any _ _ m.graph m.plan W (h.g.grew g) (h.p.grew g)
  have hg8 := fun W (g : Grew w W) => great08_any _ m.graph W (h.g.grew g)
  rw [hq8, hqp] at hg10
  rw [hq8] at hg8
  have HP := Lib.hid fun W (g : Grew w W) => snapParts_any c m W (h.grew g) hsm hps (by omega)
  have HF := Lib.hid fun W (g : Grew w W) => first_any _ m.graph W (h.g.grew g) hsm
  have HCK := Lib.hid fun W (g : Grew w W) => refCheck08_any _ m.graph W (h.g.grew g)
  have HRM := Lib.hid fun W (g : Grew w W) => refRight13_any c m W (h.grew g)
  have HG10 := Lib.hid hg10
  have HG8 := Lib.hid hg8
  have HH := Lib.hid h
  obtain ⟨ep, pl, ao, co, ag, cg, ae, ce, ax, cx, ap, cp, rfl⟩ := h.lit
  simp only at HG10 HG8 HF HCK
  clear h hg10 hg8 hq8 hqp hsm hps hg
  show Calls Tryz.prog _ #[.agg #[.int .i64 ep, .int .i64 pl, .slice ao m.offs.length co, .slice ag m.graph.length cg, .slice ae m.ents.length ce, .slice ax m.out.length cx, .slice ap m.plan.length cp]] w _
  rw [hb] at HRM
  have hck : (checkR m.graph == 0) = false := by
    have := checkR_pos hr
    simpa using this
  have HB := Lib.hid hb
  have HR := Lib.hid hr
  clear hb hr
  generalize checkR m.graph = ck at *
  go_enter Tryz.func3, Tryz.ntmps3
  go_wp2_with (first
    | (go_at_call 7; refine (awake22_any _).mono ?_; rintro e w1 ⟨rfl, R1, n1, rfl⟩)
    | (go_at_call 8; refine (HG10.out _ (by repeat (first | with_reducible exact Grew.refl _ | apply Grew.more | apply Grew.alloc | apply Grew.drew | apply Grew.drewN))).mono ?_; rintro e w1 ⟨rfl, R2, n2, rfl⟩)
    | (go_at_call 9; refine (HG8.out _ (by repeat (first | with_reducible exact Grew.refl _ | apply Grew.more | apply Grew.alloc | apply Grew.drew | apply Grew.drewN))).mono ?_; rintro e w1 ⟨rfl, R3, n3, rfl⟩)
    | (go_at_call 10; refine (HP.out _ (by repeat (first | with_reducible exact Grew.refl _ | apply Grew.more | apply Grew.alloc | apply Grew.drew | apply Grew.drewN))).mono ?_; rintro e w1 ⟨h1, -⟩; obtain ⟨rfl, R4, n4, rfl⟩ := h1 HB.out; clear h1)
    | (go_at_call 11; refine (HF.out _ (by repeat (first | with_reducible exact Grew.refl _ | apply Grew.more | apply Grew.alloc | apply Grew.drew | apply Grew.drewN))).mono ?_; rintro e w1 ⟨-, h2, R5, n5, rfl⟩; obtain rfl := h2 HR.out; clear h2)
    | (go_at_call 12; refine (HCK.out _ (by repeat (first | with_reducible exact Grew.refl _ | apply Grew.more | apply Grew.alloc | apply Grew.drew | apply Grew.drewN))).mono ?_; rintro e w1 ⟨rfl, R6, n6, rfl⟩)
    | (go_at_call 13; refine (HRM.out _ (by repeat (first | with_reducible exact Grew.refl _ | apply Grew.more | apply Grew.alloc | apply Grew.drew | apply Grew.drewN))).mono ?_; rintro e w1 ⟨rfl, R7, n7, rfl⟩))
  go_ret
  exact ⟨rfl, by repeat (first | with_reducible exact Grew.refl _ | apply Grew.more | apply Grew.alloc | apply Grew.drew | apply Grew.drewN)⟩
theorem firstIs {W : World} {g : List Gr.Nd} {a1 : Option Addr} {c1 : Nat} {a2 : Option Addr} {c2 : Nat} (h1 : IntsAt W (.slice a1 (parOf g).toNat c1) (List.replicate (parOf g).toNat 0)) (h2 : NodesAt W (.slice a2 (Gr.normG g).length c2) (Gr.normG g)) :
    MfIs W ⟨0, 0, a1, (parOf g).toNat, c1, a2, (Gr.normG g).length, c2, none, 0, 0, none, 0, 0, none, 0, 0⟩ (firstM g) :=
  ⟨rfl, rfl, h1, h2, RowsAt.nil, RowsAt.nil, StepsAt.nil W⟩
set_option maxHeartbeats 16000000 in
theorem snapParts_B (c : MfC) (m : Gr.Mf) (w : World) (h : MfIs w c m) (hg : greatS m = false) (hr : Gr.RightR m.graph) (hb : rightB m = false) : Calls Tryz.prog 3 #[.agg #[.int .i64 c.epoch, .int .i64 c.plans, .slice c.ao c.no c.co, .slice c.ag c.ng c.cg, .slice c.ae c.ne c.ce, .slice c.ax c.nx c.cx, .slice c.ap c.np c.cp]] w (Gives (.bool true) w) := by
  obtain ⟨⟨hq8, hqp⟩, he60, ho60, hf20⟩ := greatS_no hg
  have hsm := (great_small hq8).1
  have hps := greatP_small hqp
  have hg10 := fun W (g : Grew w W) => great10_any _ _ m.graph m.plan W (h.g.grew g) (h.p.grew g)
  have hg8 := fun W (g : Grew w W) => great08_any _ m.graph W (h.g.grew g)
  rw [hq8, hqp] at hg10
  rw [hq8] at hg8
  have HP := Lib.hid fun W (g : Grew w W) => snapParts_any c m W (h.grew g) hsm hps (by omega)
  have HF := Lib.hid fun W (g : Grew w W) => first_any _ m.graph W (h.g.grew g) hsm
  have HCK := Lib.hid fun W (g : Grew w W) => refCheck08_any _ m.graph W (h.g.grew g)
  have HRM := Lib.hid fun W (g : Grew w W) => refRight13_any c m W (h.grew g)
  have HG10 := Lib.hid hg10
  have HG8 := Lib.hid hg8
  have HH := Lib.hid h
  obtain ⟨ep, pl, ao, co, ag, cg, ae, ce, ax, cx, ap, cp, rfl⟩ := h.lit
  simp only at HG10 HG8 HF HCK
  clear h hg10 hg8 hq8 hqp hsm hps hg
  show Calls Tryz.prog _ #[.agg #[.int .i64 ep, .int .i64 pl, .slice ao m.offs.length co, .slice ag m.graph.length cg, .slice ae m.ents.length ce, .slice ax m.out.length cx, .slice ap m.plan.length cp]] w _
  rw [hb] at HRM
  rw [checkR_nil hr] at HCK
  have HB := Lib.hid hb
  have HR := Lib.hid hr
  have HRF := Lib.hid fun W a1 c1 a2 c2 h1 h2 => refRight13_any _ _ W (firstIs (g := m.graph) (W := W) (a1 := a1) (c1 := c1) (a2 := a2) (c2 := c2) h1 h2)
  rw [first_right hr] at HRF
  have hpr := parOf_range hr
  clear hb hr
  go_enter Tryz.func3, Tryz.ntmps3
  go_wp2_with (first
    | (go_at_call 7; refine (awake22_any _).mono ?_; rintro e w1 ⟨rfl, R1, n1, rfl⟩)
    | (go_at_call 8; refine (HG10.out _ (by repeat (first | with_reducible exact Grew.refl _ | apply Grew.more | apply Grew.alloc | apply Grew.drew | apply Grew.drewN))).mono ?_; rintro e w1 ⟨rfl, R2, n2, rfl⟩)
    | (go_at_call 9; refine (HG8.out _ (by repeat (first | with_reducible exact Grew.refl _ | apply Grew.more | apply Grew.alloc | apply Grew.drew | apply Grew.drewN))).mono ?_; rintro e w1 ⟨rfl, R3, n3, rfl⟩)
    | (go_at_call 10; refine (HP.out _ (by repeat (first | with_reducible exact Grew.refl _ | apply Grew.more | apply Grew.alloc | apply Grew.drew | apply Grew.drewN))).mono ?_; rintro e w1 ⟨h1, -⟩; obtain ⟨rfl, R4, n4, rfl⟩ := h1 HB.out; clear h1)
    | (go_at_call 11; refine (HF.out _ (by repeat (first | with_reducible exact Grew.refl _ | apply Grew.more | apply Grew.alloc | apply Grew.drew | apply Grew.drewN))).mono ?_; rintro e w1 ⟨h2, -, R5, n5, rfl⟩; obtain ⟨a5, c5, a6, c6, rfl, hi5, hn5⟩ := h2 HR.out; (have HI5 := Lib.hid hi5); (have HN5 := Lib.hid hn5); clear h2 hi5 hn5)
    | (go_at_call 12; refine (HCK.out _ (by repeat (first | with_reducible exact Grew.refl _ | apply Grew.more | apply Grew.alloc | apply Grew.drew | apply Grew.drewN))).mono ?_; rintro e w1 ⟨rfl, R6, n6, rfl⟩)
    | fail)
  refine (HRF.out _ _ _ _ _ (HI5.out.grew (by repeat (first | with_reducible exact Grew.refl _ | apply Grew.more | apply Grew.alloc | apply Grew.drew | apply Grew.drewN))) (HN5.out.grew (by repeat (first | with_reducible exact Grew.refl _ | apply Grew.more | apply Grew.alloc | apply Grew.drew | apply Grew.drewN)))).mono ?_
  rintro e w1 ⟨rfl, R7, n7, rfl⟩
  have hl0 : (0 : Int) + 0 + 0 + 0 = 0 := rfl
  go_wp2_with (go_at_call 13; refine (HRM.out _ (by repeat (first | with_reducible exact Grew.refl _ | apply Grew.more | apply Grew.alloc | apply Grew.drew | apply Grew.drewN))).mono ?_; rintro e w1 ⟨rfl, R8, n8, rfl⟩)
  go_ret
  exact ⟨rfl, by repeat (first | with_reducible exact Grew.refl _ | apply Grew.more | apply Grew.alloc | apply Grew.drew | apply Grew.drewN)⟩
end Go.Proofs.YtmdmbimfdpngaaaGreat
