import Derived.Test.YtangapokicnfgaaGreatMr44
import Derived.Test.YtangapokicnfgaaGreatMr45
import Derived.Test.YtangapokicnfgaaGreatMr12
import Derived.Test.YtangapokicnfgaaGreatMr31
import Derived.Test.YtangapokicnfgaaGreatMr5
/-! Right manifests: the program's answer is the document's: plain laws. -/
namespace Gr
open Oc (be bes)
open Ga Tab
set_option linter.unusedSimpArgs false
set_option linter.unusedVariables false

/-- a manifest that may be, by the program; s: all that the table made of its entries keeps, by places -/
structure RightPm (fits : List Vm.Ins → Prop) (m : Mf) (s : List En) : Prop where
  ep : 0 ≤ m.epoch ∧ m.epoch ≤ 2147483647
  pl : 0 ≤ m.plans ∧ m.plans ≤ 2147483647
  gr : RightR m.graph
  so : sortedG m.graph
  ol : m.out.length ≤ 4000
  pn : m.plan = [] ∨ OkPl fits m.plan ∧ m.plan.map cleanS = m.plan
  of : ∃ n, nodeOf m.graph 0 = some n ∧ (m.offs.length : Int) = n.par
  o4 : ∀ x ∈ m.offs, 0 ≤ x ∧ x ≤ 400
  en : ∀ x ∈ m.ents, (0 ≤ x.node ∧ x.node < 8) ∧ (0 ≤ x.key ∧ x.key < 64) ∧ rightV x.c0 = true ∧ rightV x.c1 = true
  al : s = m.ents
  ft : ∀ x ∈ s, ∃ n, nodeOf m.graph x.node = some n ∧ n.kind = 1
  ou : ∀ x ∈ m.out, (0 ≤ x.sink ∧ x.sink ≤ 7) ∧ (0 ≤ x.frm ∧ x.frm ≤ 7) ∧ (0 ≤ x.key ∧ x.key < 64) ∧ rightV x.v = true
theorem strict_of {l : List Nd} (hu : (ids l).Nodup) (hs : sortedG l) : l.Pairwise fun a b => a.id < b.id := by
  have h1 : l.Pairwise fun a b => a.id ≠ b.id := by
    unfold ids at hu
    rw [List.Nodup, List.pairwise_map] at hu
    exact hu
  exact (List.Pairwise.and hs h1).imp fun h => by omega
/-- the first node is the source -/
theorem head_source {l : List Nd} (h : RightR l) (hs : l.Pairwise fun a b => a.id < b.id) : nodeOf l 0 = l.head? := by
  have hz : (0 : Int) ∈ ids l := ((right_iff (List.Perm.refl l)).1 h).z
  cases l with
  | nil => cases hz
  | cons x l =>
    obtain ⟨n, hn, e⟩ := List.mem_map.1 hz
    have hx := h.r7 x (List.mem_cons_self ..)
    have hxn : n = x := by
      rcases List.mem_cons.1 hn with h1 | h1
      · exact h1
      · have := (List.pairwise_cons.1 hs).1 n h1
        omega
    subst hxn
    have := bind_find h.ids (List.mem_cons_self (a := n) (l := l))
    rw [e] at this
    exact this
theorem map_clean_iff (p : List Stp) : p.map cleanS = p ↔ ∀ x ∈ p, cleanS x = x := by
  constructor
  · intro h x hx
    obtain ⟨i, hi, rfl⟩ := List.mem_iff_getElem.1 hx
    have h2 := congrArg (fun l => l[i]?) h
    simp only [List.getElem?_map, List.getElem?_eq_getElem hi, Option.map_some, Option.some.injEq] at h2
    exact h2
  · exact map_clean
/-- THE LAW: what the program calls right is what the document calls so. -/
theorem rightM_iff {fits : List Vm.Ins → Prop} {m : Mf} {s : List En} (hp : s.Perm (newT m.ents)) (hs : s.Pairwise fun a b => num a ≤ num b) : RightPm fits m s ↔ RightM fits m := by
  constructor
  · intro h
    have hst := strict_of h.gr.ids h.so
    obtain ⟨e1, e2⟩ := (all_iff hp hs).1 h.al
    refine ⟨h.ep, h.pl, h.gr, hst, ?_, h.o4, fun x hx => ?_, e1, fun x hx => h.ft x (by rw [h.al]; exact hx), h.ol, h.ou, h.pn.imp id fun q => ⟨q.1, (map_clean_iff _).1 q.2⟩⟩
    · rw [← head_source h.gr hst]
      exact h.of
    · obtain ⟨a1, a2, a3, a4⟩ := h.en x hx
      exact ⟨a1, a2, a3, a4, e2 x hx⟩
  · intro h
    have hal := (all_iff hp hs).2 ⟨h.ei, fun x hx => (h.en x hx).2.2.2.2⟩
    refine ⟨h.ep, h.pl, h.gr, h.so.imp fun h => by omega, h.ol, h.pn.imp id fun q => ⟨q.1, (map_clean_iff _).2 q.2⟩, ?_, h.o4, fun x hx => ?_, hal, fun x hx => h.ek x (by rw [← hal]; exact hx), h.ou⟩
    · rw [head_source h.gr h.so]
      exact h.of
    · obtain ⟨a1, a2, a3, a4, -⟩ := h.en x hx
      exact ⟨a1, a2, a3, a4⟩
end Gr

/-! pack.Right: it is the document's. -/
namespace Go.Proofs.YtangapokicnfgaaGreat
set_option linter.unusedSimpArgs false
set_option linter.unusedVariables false
open Go.RowKit Ga
set_option maxRecDepth 100000

def srtE (l : List Tab.En) : List Tab.En := l.mergeSort fun a b => decide (Tab.num a ≤ Tab.num b)
theorem srtE_perm (l : List Tab.En) : (srtE l).Perm l := List.mergeSort_perm l _
theorem srtE_sorted (l : List Tab.En) : (srtE l).Pairwise fun a b => Tab.num a ≤ Tab.num b := by
  have := List.pairwise_mergeSort (le := fun a b : Tab.En => decide (Tab.num a ≤ Tab.num b)) (fun a b c h1 h2 => by simp at *; omega) (fun a b => by simp; omega) l
  exact this.imp fun h => by simpa using h
theorem badE_no {g : List Gr.Nd} {x : Tab.En} : badE g x = false ↔ ∃ n, Gr.nodeOf g x.node = some n ∧ n.kind = 1 := by
  unfold badE
  cases h : Gr.nodeOf g x.node with
  | none => simp
  | some n =>
    simp only [Option.some.injEq]
    constructor
    · intro hk
      exact ⟨n, rfl, by simpa using hk⟩
    · rintro ⟨m, rfl, hk⟩
      simp [hk]
theorem lineB_iff {x : Gr.Ln} : lineB x = true ↔ (0 ≤ x.sink ∧ x.sink ≤ 7) ∧ (0 ≤ x.frm ∧ x.frm ≤ 7) ∧ (0 ≤ x.key ∧ x.key < 64) ∧ rightV x.v = true := by
  unfold lineB
  simp only [Bool.and_eq_true, numB_iff]
  constructor
  · rintro ⟨h1, h2, h3, h4⟩
    exact ⟨h1, h2, ⟨h3.1, by omega⟩, h4⟩
  · rintro ⟨h1, h2, h3, h4⟩
    exact ⟨h1, h2, ⟨h3.1, by omega⟩, h4⟩
theorem okEn_iff {x : Tab.En} : okEn x = true ↔ (0 ≤ x.node ∧ x.node < 8) ∧ (0 ≤ x.key ∧ x.key < 64) ∧ rightV x.c0 = true ∧ rightV x.c1 = true := by
  unfold okEn
  rw [Bool.and_eq_true, Bool.and_eq_true, thereB_iff]
  unfold There
  exact ⟨fun ⟨⟨a, b⟩, c, d⟩ => ⟨a, b, c, d⟩, fun ⟨a, b, c, d⟩ => ⟨⟨a, b⟩, c, d⟩⟩
theorem any_not {α : Type} {l : List α} {p : α → Bool} : (!(l.any fun x => !(p x))) = true ↔ ∀ x ∈ l, p x = true := by
  rw [Bool.not_eq_true', List.any_eq_false]
  constructor
  · intro h x hx
    have := h x hx
    simpa using this
  · intro h x hx
    rw [h x hx]
    simp
open Classical in
theorem entB_iff {l : List Tab.En} {g : List Gr.Nd} : entB l g = true ↔ (∀ x ∈ l, okEn x = true) ∧ ((l.Pairwise fun a b => Tab.num a < Tab.num b) ∧ ∀ x ∈ l, Tab.nz x = true) ∧ ∀ x ∈ l, badE g x = false := by
  unfold entB newOk
  rw [Bool.and_eq_true, Bool.and_eq_true, List.all_eq_true, decide_eq_true_eq, Bool.not_eq_true', List.any_eq_false]
  refine ⟨fun ⟨h1, h2, h3⟩ => ⟨h1, h2, fun x hx => ?_⟩, fun ⟨h1, h2, h3⟩ => ⟨h1, h2, fun x hx => ?_⟩⟩
  · have := h3 x hx
    simpa using this
  · rw [h3 x hx]
    simp
open Classical in
theorem plB_iff {p : List Gr.Stp} : plB p = true ↔ p = [] ∨ (Gr.OkPl fitsP p ∧ p.map Gr.cleanS = p) := by unfold plB; rw [decide_eq_true_eq]
theorem sortedB_iff {l : List Gr.Nd} : sortedB l = true ↔ Gr.sortedG l := by unfold sortedB Gr.sortedG; rw [decide_eq_true_eq]
open Classical in
theorem rightB_iff {m : Gr.Mf} : rightB m = true ↔ Gr.RightM fitsP m := by
  rw [← Gr.rightM_iff (s := srtE (Tab.newT m.ents)) (srtE_perm _) (srtE_sorted _)]
  have hal := Tab.all_iff (srtE_perm (Tab.newT m.ents)) (srtE_sorted _)
  unfold rightB
  rw [Bool.and_eq_true, Bool.and_eq_true, Bool.and_eq_true, Bool.and_eq_true, Bool.and_eq_true, Bool.and_eq_true, Bool.and_eq_true, Bool.and_eq_true, Bool.and_eq_true, numB_iff, numB_iff, decide_eq_true_eq, decide_eq_true_eq, plB_iff, any_not, entB_iff, any_not, beq_iff_eq]
  constructor
  · rintro ⟨h1, h2, h3, h4, h5, h6, h7, h8, ⟨h9, h10, h11⟩, h12⟩
    have hr := checkR_zero h3
    obtain ⟨src, hsrc⟩ := source_some hr
    have hal2 := hal.2 h10
    refine ⟨h1, h2, hr, ?_, by omega, h6, ⟨src, hsrc, ?_⟩, fun x hx => numB_iff.1 (h8 x hx), fun x hx => okEn_iff.1 (h9 x hx), hal2, fun x hx => badE_no.1 (h11 x (by rw [← hal2]; exact hx)), fun x hx => lineB_iff.1 (h12 x hx)⟩
    · exact sortedB_iff.1 h4
    · rw [h7]
      unfold parOf
      rw [hsrc]
  · intro h
    refine ⟨h.ep, h.pl, checkR_ok h.gr.len h.gr, ?_, by have := h.ol; omega, h.pn, ?_, fun x hx => numB_iff.2 (h.o4 x hx), ⟨fun x hx => okEn_iff.2 (h.en x hx), hal.1 h.al, fun x hx => badE_no.2 (h.ft x (by rw [h.al]; exact hx))⟩, fun x hx => lineB_iff.2 (h.ou x hx)⟩
    · exact sortedB_iff.2 h.so
    · obtain ⟨n, hn, e⟩ := h.of
      rw [e]
      unfold parOf
      rw [hn]
end Go.Proofs.YtangapokicnfgaaGreat

/-! graph.Same at sorted lists; pack.Same. -/
namespace Go.Proofs.YtangapokicnfgaaGreat
set_option linter.unusedSimpArgs false
set_option linter.unusedVariables false
open Go.RowKit Ga
set_option maxRecDepth 100000

theorem perm_strict {l l' : List Gr.Nd} (hp : l'.Perm l) (h : l.Pairwise fun a b => a.id < b.id) (h' : l'.Pairwise fun a b => a.id ≤ b.id) : l' = l := by
  have hu : (l.map (·.id)).Nodup := by
    rw [List.Nodup, List.pairwise_map]
    exact h.imp fun {a b} q e => by omega
  have hu' : (l'.map (·.id)).Nodup := (hp.map (·.id)).nodup_iff.2 hu
  have hs' : l'.Pairwise fun a b => a.id < b.id := by
    rw [List.Nodup, List.pairwise_map] at hu'
    exact (h'.and hu').imp fun {a b} ⟨q1, q2⟩ => by omega
  exact hp.eq_of_pairwise (le := fun a b : Gr.Nd => a.id < b.id) (fun a b _ _ h1 h2 => by omega) hs' h
theorem norm_strict (v : Value) (l : List Gr.Nd) (w : World) (hv : NodesAt w v l) (hs : Small l) (hl : l.length ≤ 19) (ho : l.Pairwise fun a b => a.id < b.id) : Calls Tryz.prog 77 #[v] w (fun e w' => ∃ v', e = .returned v' ∧ NodesAt w' v' l ∧ Grew w w') := by
  refine (norm_any v l w hv hs hl).mono ?_
  rintro e w' ⟨v', lc, l', rfl, h1, h2, h3, h4, g⟩
  obtain rfl := perm_strict h3 ho h4
  exact ⟨v', rfl, h2.at h1, g⟩
set_option maxHeartbeats 8000000 in
theorem same_strict (v u : Value) (l m : List Gr.Nd) (w : World) (hv : NodesAt w v l) (hu : NodesAt w u m) (hs : Small l) (hl : l.length ≤ 19) (ho : l.Pairwise fun a b => a.id < b.id) (ht : Small m) (hm : m.length ≤ 19) (hp : m.Pairwise fun a b => a.id < b.id) : Calls Tryz.prog 69 #[v, u] w (Gives (.bool (eqNds l m)) w) := by
  have HV := Lib.hid fun W (g : Grew w W) => norm_strict v l W (hv.grew g) hs hl ho
  have HU := Lib.hid fun W (g : Grew w W) => norm_strict u m W (hu.grew g) ht hm hp
  clear hv hu hs ho ht hp hl hm
  go_enter Tryz.func69, Tryz.ntmps69
  go_wp2_with fail
  refine (HV.out _ (by repeat (first | with_reducible exact Grew.refl _ | apply Grew.more | apply Grew.alloc | apply Grew.drew | apply Grew.drewN))).mono ?_
  rintro e w1 ⟨v1, rfl, hv1, R1, n1, rfl⟩
  have HV1 := Lib.hid hv1
  clear hv1
  go_wp2_with fail
  refine (HU.out _ (by repeat (first | with_reducible exact Grew.refl _ | apply Grew.more | apply Grew.alloc | apply Grew.drew | apply Grew.drewN))).mono ?_
  rintro e w1 ⟨v2, rfl, hv2, R2, n2, rfl⟩
  have HV2 := Lib.hid hv2
  clear hv2
  go_wp2_with fail
  refine (eqFnNodes_any _ _ l m _ (HV1.out.grew (by repeat (first | with_reducible exact Grew.refl _ | apply Grew.more | apply Grew.alloc | apply Grew.drew | apply Grew.drewN))) (HV2.out.grew (by repeat (first | with_reducible exact Grew.refl _ | apply Grew.more | apply Grew.alloc | apply Grew.drew | apply Grew.drewN)))).mono ?_
  rintro e w1 ⟨rfl, R3, n3, rfl⟩
  go_wp2
  go_ret
  exact ⟨rfl, by repeat (first | with_reducible exact Grew.refl _ | apply Grew.more | apply Grew.alloc | apply Grew.drew | apply Grew.drewN)⟩
open Classical in
/-- two manifests are one -/
noncomputable def eqMf (a b : Gr.Mf) : Bool := decide (a = b)
/-- .. as far as the program looks, graphs that stand by numbers -/
structure OkMf (m : Gr.Mf) : Prop where
  s : Small m.graph
  l : m.graph.length ≤ 19
  o : m.graph.Pairwise fun a b => a.id < b.id
  p : ∀ s ∈ m.plan, s.nd.frm.length ≤ 1000 ∧ s.nd.prog.length ≤ 1000
open Classical in
theorem eqMf_iff (a b : Gr.Mf) : eqMf a b = ((a.epoch == b.epoch) && ((a.plans == b.plans) && (decide (a.offs = b.offs) && (eqNds a.graph b.graph && (decide (a.ents = b.ents) && (decide (a.out = b.out) && eqBy eqSt a.plan b.plan)))))) := by
  have h1 := exact_iff a.plan b.plan
  have h2 : eqNds a.graph b.graph = true ↔ a.graph = b.graph := by unfold eqNds; rw [decide_eq_true_eq]
  obtain ⟨e1, p1, o1, g1, n1, x1, q1⟩ := a
  obtain ⟨e2, p2, o2, g2, n2, x2, q2⟩ := b
  unfold eqMf
  simp only at h1 h2 ⊢
  rw [Bool.eq_iff_iff]
  simp only [Gr.Mf.mk.injEq, Bool.and_eq_true, decide_eq_true_eq, beq_iff_eq, h1, h2]
open Classical in
set_option maxHeartbeats 16000000 in
theorem packSameM_any (c d : MfC) (a b : Gr.Mf) (w : World) (ha : MfIs w c a) (hb : MfIs w d b) (oa : OkMf a) (ob : OkMf b) : Calls Tryz.prog 27 #[.agg #[.int .i64 c.epoch, .int .i64 c.plans, .slice c.ao c.no c.co, .slice c.ag c.ng c.cg, .slice c.ae c.ne c.ce, .slice c.ax c.nx c.cx, .slice c.ap c.np c.cp], .agg #[.int .i64 d.epoch, .int .i64 d.plans, .slice d.ao d.no d.co, .slice d.ag d.ng d.cg, .slice d.ae d.ne d.ce, .slice d.ax d.nx d.cx, .slice d.ap d.np d.cp]] w (Gives (.bool (eqMf a b)) w) := by
  have hq := eqMf_iff a b
  have H1 := Lib.hid fun W (g : Grew w W) => eqInts_any _ _ a.offs b.offs W (ha.o.grew g) (hb.o.grew g)
  have H2 := Lib.hid fun W (g : Grew w W) => same_strict _ _ a.graph b.graph W (ha.g.grew g) (hb.g.grew g) oa.s oa.l oa.o ob.s ob.l ob.o
  have H3 := Lib.hid fun W (g : Grew w W) => eqEns_any _ _ a.ents b.ents W (ha.e.grew g) (hb.e.grew g)
  have H4 := Lib.hid fun W (g : Grew w W) => eqLns_any _ _ a.out b.out W (ha.x.grew g) (hb.x.grew g)
  have H5 := Lib.hid fun W (g : Grew w W) => eqFnExact_any _ _ a.plan b.plan W (ha.p.grew g) (hb.p.grew g) oa.p ob.p
  have e1 := ha.epoch
  have e2 := ha.plans
  have f1 := hb.epoch
  have f2 := hb.plans
  obtain ⟨ep, pl, ao, co, ag, cg, ae, ce, ax, cx, ap, cp, rfl⟩ := ha.lit
  obtain ⟨ep2, pl2, ao2, co2, ag2, cg2, ae2, ce2, ax2, cx2, ap2, cp2, rfl⟩ := hb.lit
  simp only at e1 e2 f1 f2 H1 H2 H3 H4 H5
  rw [e1, e2, f1, f2] at hq
  generalize eqMf a b = q at *
  clear ha hb oa ob e1 e2 f1 f2
  generalize a.offs.length = l1 at *
  generalize b.offs.length = m1 at *
  generalize a.graph.length = l2 at *
  generalize b.graph.length = m2 at *
  generalize a.ents.length = l3 at *
  generalize b.ents.length = m3 at *
  generalize a.out.length = l4 at *
  generalize b.out.length = m4 at *
  generalize a.plan.length = l5 at *
  generalize b.plan.length = m5 at *
  show Calls Tryz.prog _ #[.agg #[.int .i64 ep, .int .i64 pl, .slice ao l1 co, .slice ag l2 cg, .slice ae l3 ce, .slice ax l4 cx, .slice ap l5 cp], .agg #[.int .i64 ep2, .int .i64 pl2, .slice ao2 m1 co2, .slice ag2 m2 cg2, .slice ae2 m3 ce2, .slice ax2 m4 cx2, .slice ap2 m5 cp2]] w _
  generalize decide (a.offs = b.offs) = b1 at *
  generalize eqNds a.graph b.graph = b2 at *
  generalize decide (a.ents = b.ents) = b3 at *
  generalize decide (a.out = b.out) = b4 at *
  generalize eqBy eqSt a.plan b.plan = b5 at *
  cases h1 : (ep == ep2)
  · have hq : q = false := by rw [hq, h1]; rfl
    have HQ := Lib.hid hq
    clear hq
    go_enter Tryz.func27, Tryz.ntmps27
    go_wp2
    go_ret
    exact ⟨by rw [HQ.out]; rfl, by repeat (first | with_reducible exact Grew.refl _ | apply Grew.more | apply Grew.alloc | apply Grew.drew | apply Grew.drewN)⟩
  rw [h1, Bool.true_and] at hq
  cases h2 : (pl == pl2)
  · have hq : q = false := by rw [hq, h2]; rfl
    have HQ := Lib.hid hq
    clear hq
    go_enter Tryz.func27, Tryz.ntmps27
    go_wp2
    go_ret
    exact ⟨by rw [HQ.out]; rfl, by repeat (first | with_reducible exact Grew.refl _ | apply Grew.more | apply Grew.alloc | apply Grew.drew | apply Grew.drewN)⟩
  rw [h2, Bool.true_and] at hq
  cases b1
  · have hq : q = false := by rw [hq]; rfl
    have HQ := Lib.hid hq
    clear hq
    go_enter Tryz.func27, Tryz.ntmps27
    go_wp2_with (first | (go_at_call 68; refine (H1.out _ (by repeat (first | with_reducible exact Grew.refl _ | apply Grew.more | apply Grew.alloc | apply Grew.drew | apply Grew.drewN))).mono ?_; rintro e w1 ⟨rfl, R0, n0, rfl⟩))
    go_ret
    exact ⟨by rw [HQ.out]; rfl, by repeat (first | with_reducible exact Grew.refl _ | apply Grew.more | apply Grew.alloc | apply Grew.drew | apply Grew.drewN)⟩
  rw [Bool.true_and] at hq
  cases b2
  · have hq : q = false := by rw [hq]; rfl
    have HQ := Lib.hid hq
    clear hq
    go_enter Tryz.func27, Tryz.ntmps27
    go_wp2_with (first | (go_at_call 68; refine (H1.out _ (by repeat (first | with_reducible exact Grew.refl _ | apply Grew.more | apply Grew.alloc | apply Grew.drew | apply Grew.drewN))).mono ?_; rintro e w1 ⟨rfl, R0, n0, rfl⟩) | (go_at_call 69; refine (H2.out _ (by repeat (first | with_reducible exact Grew.refl _ | apply Grew.more | apply Grew.alloc | apply Grew.drew | apply Grew.drewN))).mono ?_; rintro e w1 ⟨rfl, R1, n1, rfl⟩))
    go_ret
    exact ⟨by rw [HQ.out]; rfl, by repeat (first | with_reducible exact Grew.refl _ | apply Grew.more | apply Grew.alloc | apply Grew.drew | apply Grew.drewN)⟩
  rw [Bool.true_and] at hq
  cases b3
  · have hq : q = false := by rw [hq]; rfl
    have HQ := Lib.hid hq
    clear hq
    go_enter Tryz.func27, Tryz.ntmps27
    go_wp2_with (first | (go_at_call 68; refine (H1.out _ (by repeat (first | with_reducible exact Grew.refl _ | apply Grew.more | apply Grew.alloc | apply Grew.drew | apply Grew.drewN))).mono ?_; rintro e w1 ⟨rfl, R0, n0, rfl⟩) | (go_at_call 69; refine (H2.out _ (by repeat (first | with_reducible exact Grew.refl _ | apply Grew.more | apply Grew.alloc | apply Grew.drew | apply Grew.drewN))).mono ?_; rintro e w1 ⟨rfl, R1, n1, rfl⟩) | (go_at_call 70; refine (H3.out _ (by repeat (first | with_reducible exact Grew.refl _ | apply Grew.more | apply Grew.alloc | apply Grew.drew | apply Grew.drewN))).mono ?_; rintro e w1 ⟨rfl, R2, n2, rfl⟩))
    go_ret
    exact ⟨by rw [HQ.out]; rfl, by repeat (first | with_reducible exact Grew.refl _ | apply Grew.more | apply Grew.alloc | apply Grew.drew | apply Grew.drewN)⟩
  rw [Bool.true_and] at hq
  cases b4
  · have hq : q = false := by rw [hq]; rfl
    have HQ := Lib.hid hq
    clear hq
    go_enter Tryz.func27, Tryz.ntmps27
    go_wp2_with (first | (go_at_call 68; refine (H1.out _ (by repeat (first | with_reducible exact Grew.refl _ | apply Grew.more | apply Grew.alloc | apply Grew.drew | apply Grew.drewN))).mono ?_; rintro e w1 ⟨rfl, R0, n0, rfl⟩) | (go_at_call 69; refine (H2.out _ (by repeat (first | with_reducible exact Grew.refl _ | apply Grew.more | apply Grew.alloc | apply Grew.drew | apply Grew.drewN))).mono ?_; rintro e w1 ⟨rfl, R1, n1, rfl⟩) | (go_at_call 70; refine (H3.out _ (by repeat (first | with_reducible exact Grew.refl _ | apply Grew.more | apply Grew.alloc | apply Grew.drew | apply Grew.drewN))).mono ?_; rintro e w1 ⟨rfl, R2, n2, rfl⟩) | (go_at_call 71; refine (H4.out _ (by repeat (first | with_reducible exact Grew.refl _ | apply Grew.more | apply Grew.alloc | apply Grew.drew | apply Grew.drewN))).mono ?_; rintro e w1 ⟨rfl, R3, n3, rfl⟩))
    go_ret
    exact ⟨by rw [HQ.out]; rfl, by repeat (first | with_reducible exact Grew.refl _ | apply Grew.more | apply Grew.alloc | apply Grew.drew | apply Grew.drewN)⟩
  rw [Bool.true_and] at hq
  have HQ := Lib.hid hq
  clear hq
  go_enter Tryz.func27, Tryz.ntmps27
  go_wp2_with (first | (go_at_call 68; refine (H1.out _ (by repeat (first | with_reducible exact Grew.refl _ | apply Grew.more | apply Grew.alloc | apply Grew.drew | apply Grew.drewN))).mono ?_; rintro e w1 ⟨rfl, R0, n0, rfl⟩) | (go_at_call 69; refine (H2.out _ (by repeat (first | with_reducible exact Grew.refl _ | apply Grew.more | apply Grew.alloc | apply Grew.drew | apply Grew.drewN))).mono ?_; rintro e w1 ⟨rfl, R1, n1, rfl⟩) | (go_at_call 70; refine (H3.out _ (by repeat (first | with_reducible exact Grew.refl _ | apply Grew.more | apply Grew.alloc | apply Grew.drew | apply Grew.drewN))).mono ?_; rintro e w1 ⟨rfl, R2, n2, rfl⟩) | (go_at_call 71; refine (H4.out _ (by repeat (first | with_reducible exact Grew.refl _ | apply Grew.more | apply Grew.alloc | apply Grew.drew | apply Grew.drewN))).mono ?_; rintro e w1 ⟨rfl, R3, n3, rfl⟩) | (go_at_call 72; refine (H5.out _ (by repeat (first | with_reducible exact Grew.refl _ | apply Grew.more | apply Grew.alloc | apply Grew.drew | apply Grew.drewN))).mono ?_; rintro e w1 ⟨rfl, R4, n4, rfl⟩))
  go_ret
  exact ⟨by rw [HQ.out]; rfl, by repeat (first | with_reducible exact Grew.refl _ | apply Grew.more | apply Grew.alloc | apply Grew.drew | apply Grew.drewN)⟩
end Go.Proofs.YtangapokicnfgaaGreat

/-! (*octet.Reader).Text: a text with its length ahead. -/
namespace Go.Proofs.YtangapokicnfgaaGreat
set_option linter.unusedSimpArgs false
set_option linter.unusedVariables false
open Go.RowKit
set_option maxRecDepth 100000

/-- What Text does. -/
def textR (most : Int) (s : List UInt8) : List UInt8 × Int × List UInt8 :=
  if s.length < 4 then ([], 3, s) else if Oc.num s < 0 ∨ most < Oc.num s then ([], 2, s)
  else if (s.length : Int) - 4 < Oc.num s then ([], 3, s) else ((s.drop 4).take (Oc.num s).toNat, 0, s.drop (4 + (Oc.num s).toNat))
theorem cutT (s : List UInt8) (a b : Nat) : (⟨s.toArray⟩ : ByteArray).extract a b = ⟨((s.drop a).take (b - a)).toArray⟩ := by
  have h : ((⟨s.toArray⟩ : ByteArray).extract a b).data.toList = (s.drop a).take (b - a) := by
    rw [Lib.extract_data]
  generalize (⟨s.toArray⟩ : ByteArray).extract a b = t at h
  obtain ⟨⟨l⟩⟩ := t
  simp only at h
  rw [h]

set_option maxHeartbeats 4000000 in
theorem octGetText_any (w0 : World) (B : Nat) (s : List UInt8) (most : Int) (w : World) (h : ReaderAt w0.heap.size B w s) (hg : Grew w0 w) (hs : s.length ≤ 1000000) :
    Calls Tryz.prog 103 #[.pointer (some ⟨B, 0, none⟩), .int .i64 most] w fun e w' => e = .returned (.tuple #[.string ⟨(textR most s).1.toArray⟩, .int .i64 (textR most s).2.1]) ∧ ReaderAt w0.heap.size B w' (textR most s).2.2 ∧ Grew w0 w' ∧ Keep B w w' := by
  have hc := cell_of_heap (o := 0) h.2
  have hf := frozen_of_heap (o := 0) h.2
  simp at hc
  have hB := Pre.ofCell hc
  have H := Lib.hid h
  have HG := Lib.hid hg
  clear h hg
  by_cases h4 : s.length < 4
  · have e0 : textR most s = ([], 3, s) := by unfold textR; rw [if_pos h4]
    have e1 : peekV s = 0 := by unfold peekV; rw [if_pos h4]
    have e2 : peekE s = 3 := by unfold peekE; rw [if_pos h4]
    have E1 := Lib.hid e1
    have E2 := Lib.hid e2
    rw [e0]
    clear e0 e1 e2
    go_enter Tryz.func103, Tryz.ntmps103
    go_wp2_with (go_at_call 117; refine (octPeek_any _ B s _ H.out hs).mono ?_; rintro e w1 ⟨rfl, R3, n3, rfl⟩; rw [E1.out, E2.out])
    exact bodyPost_ret (v := .tuple #[.string ⟨([] : List UInt8).toArray⟩, .int .i64 3]) (by simp [results, Tryz.results103, go_sem]) rfl ⟨rfl, H.out.grew (by repeat (first | with_reducible exact Grew.refl _ | apply Grew.more | apply Grew.alloc | apply Grew.drew | apply Grew.drewN)), HG.out.trans (by repeat (first | with_reducible exact Grew.refl _ | apply Grew.more | apply Grew.alloc | apply Grew.drew | apply Grew.drewN)), Keep.ofGrew (by repeat (first | with_reducible exact Grew.refl _ | apply Grew.more | apply Grew.alloc | apply Grew.drew | apply Grew.drewN))⟩
  · have e1 : peekV s = Oc.num s := by unfold peekV; rw [if_neg h4]
    have e2 : peekE s = 0 := by unfold peekE; rw [if_neg h4]
    have E1 := Lib.hid e1
    have E2 := Lib.hid e2
    clear e1 e2
    by_cases hr : Oc.num s < 0 ∨ most < Oc.num s
    · have e0 : textR most s = ([], 2, s) := by unfold textR; rw [if_neg h4, if_pos hr]
      rw [e0]
      clear e0
      generalize Oc.num s = z at *
      go_enter Tryz.func103, Tryz.ntmps103
      by_cases hra : z < 0
      · go_wp2_with (go_at_call 117; refine (octPeek_any _ B s _ H.out hs).mono ?_; rintro e w1 ⟨rfl, R3, n3, rfl⟩; rw [E1.out, E2.out])
        all_goals
          exact bodyPost_ret (v := .tuple #[.string ⟨([] : List UInt8).toArray⟩, .int .i64 2]) (by simp [results, Tryz.results103, go_sem]) rfl ⟨rfl, H.out.grew (by repeat (first | with_reducible exact Grew.refl _ | apply Grew.more | apply Grew.alloc | apply Grew.drew | apply Grew.drewN)), HG.out.trans (by repeat (first | with_reducible exact Grew.refl _ | apply Grew.more | apply Grew.alloc | apply Grew.drew | apply Grew.drewN)), Keep.ofGrew (by repeat (first | with_reducible exact Grew.refl _ | apply Grew.more | apply Grew.alloc | apply Grew.drew | apply Grew.drewN))⟩
      · have hrb : most < z := by omega
        clear hr
        go_wp2_with (go_at_call 117; refine (octPeek_any _ B s _ H.out hs).mono ?_; rintro e w1 ⟨rfl, R3, n3, rfl⟩; rw [E1.out, E2.out])
        all_goals
          exact bodyPost_ret (v := .tuple #[.string ⟨([] : List UInt8).toArray⟩, .int .i64 2]) (by simp [results, Tryz.results103, go_sem]) rfl ⟨rfl, H.out.grew (by repeat (first | with_reducible exact Grew.refl _ | apply Grew.more | apply Grew.alloc | apply Grew.drew | apply Grew.drewN)), HG.out.trans (by repeat (first | with_reducible exact Grew.refl _ | apply Grew.more | apply Grew.alloc | apply Grew.drew | apply Grew.drewN)), Keep.ofGrew (by repeat (first | with_reducible exact Grew.refl _ | apply Grew.more | apply Grew.alloc | apply Grew.drew | apply Grew.drewN))⟩
    · have hra : ¬ Oc.num s < 0 := fun h => hr (.inl h)
      have hrb : ¬ most < Oc.num s := fun h => hr (.inr h)
      have h4' : 4 ≤ s.length := by omega
      obtain ⟨N, hN⟩ : ∃ N : Nat, Oc.num s = N := ⟨(Oc.num s).toNat, by omega⟩
      by_cases hl : (s.length : Int) - 4 < Oc.num s
      · have e0 : textR most s = ([], 3, s) := by unfold textR; rw [if_neg h4, if_neg hr, if_pos hl]
        rw [e0]
        clear e0 hr hN
        have hz := Oc.num_range s
        generalize Oc.num s = z at *
        obtain ⟨hz0, hz1⟩ := hz
        go_enter Tryz.func103, Tryz.ntmps103
        go_wp2_with (go_at_call 117; refine (octPeek_any _ B s _ H.out hs).mono ?_; rintro e w1 ⟨rfl, R3, n3, rfl⟩; rw [E1.out, E2.out])
        exact bodyPost_ret (v := .tuple #[.string ⟨([] : List UInt8).toArray⟩, .int .i64 3]) (by simp [results, Tryz.results103, go_sem]) rfl ⟨rfl, H.out.grew (by repeat (first | with_reducible exact Grew.refl _ | apply Grew.more | apply Grew.alloc | apply Grew.drew | apply Grew.drewN)), HG.out.trans (by repeat (first | with_reducible exact Grew.refl _ | apply Grew.more | apply Grew.alloc | apply Grew.drew | apply Grew.drewN)), Keep.ofGrew (by repeat (first | with_reducible exact Grew.refl _ | apply Grew.more | apply Grew.alloc | apply Grew.drew | apply Grew.drewN))⟩
      · have e0 : textR most s = ((s.drop 4).take N, 0, s.drop (4 + N)) := by unfold textR; rw [if_neg h4, if_neg hr, if_neg hl, hN]; rfl
        rw [e0]
        clear e0 hr
        rw [hN] at hra hrb hl E1
        have hNl : 4 + N ≤ s.length := by omega
        have hd1 := cutT s 4 (4 + N)
        have hd2 := cutT s (4 + N) s.length
        rw [Nat.add_sub_cancel_left] at hd1
        rw [List.take_of_length_le (by rw [List.length_drop]; omega)] at hd2
        clear hN
        go_enter Tryz.func103, Tryz.ntmps103
        go_wp2_with (go_at_call 117; refine (octPeek_any _ B s _ H.out hs).mono ?_; rintro e w1 ⟨rfl, R3, n3, rfl⟩; rw [E1.out, E2.out])
        exact bodyPost_ret (v := .tuple #[.string ⟨((s.drop 4).take N).toArray⟩, .int .i64 0]) (by simp [results, Tryz.results103, go_sem]; exact hd1) rfl
          ⟨rfl, ReaderAt.grew (W := w.setCell ⟨B, 0, none⟩ (.string ⟨(s.drop (4 + N)).toArray⟩)) ⟨H.out.1, heap_set_self H.out.2⟩ (by repeat (first | with_reducible exact Grew.refl _ | apply Grew.more | apply Grew.alloc | apply Grew.drew | apply Grew.drewN)), (Grew.setBehind HG.out H.out.1 _).more _ _, (Keep.set _).trans (Keep.ofGrew (by repeat (first | with_reducible exact Grew.refl _ | apply Grew.more | apply Grew.alloc | apply Grew.drew | apply Grew.drewN)))⟩
end Go.Proofs.YtangapokicnfgaaGreat
