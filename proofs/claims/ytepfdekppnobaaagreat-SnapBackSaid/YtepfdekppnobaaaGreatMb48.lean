import Derived.Test.YtepfdekppnobaaaGreatMb47
import Derived.Test.YtepfdekppnobaaaGreatMb5
import Derived.Test.YtepfdekppnobaaaGreatMb36
import Derived.Test.YtepfdekppnobaaaGreatMb21
import Derived.Test.YtepfdekppnobaaaGreatMb19
import Derived.Test.YtepfdekppnobaaaGreatMb45
/-! pack.Right: it is the document's. -/
namespace Go.Proofs.YtepfdekppnobaaaGreat
set_option linter.unusedSimpArgs false
set_option linter.unusedVariables false
open Go.RowKit Ga
set_option maxRecDepth 100000

def srtE (l : List Tab.En) : List Tab.En := l.mergeSort fun a b => decide (Tab.num a ≤ Tab.num b)
theorem srtE_perm (l : List Tab.En) : (srtE l).Perm l := List.mergeSort_perm l _
theorem srtE_sorted (l : List Tab.En) : (srtE l).Pairwise fun a b => Tab.num a ≤ Tab.num b := by
  have := List.pairwise_mergeSort (le := fun a b : Tab.En => decide (Tab.num a ≤ Tab.num b)) (fun a b c h1 h2 => by simp at *; omega) (fun a b => by simp; omega) l
  exact this.imp fun h => by simpa using h
theorem badE_no {g : List Gr.Nd} {x : Tab.En} : badE g x = false ↔ ∃ n, Gr.nodeOf g x.node = some n ∧ n.kind = 1 := by
  unfold badE
  cases h : Gr.nodeOf g x.node with
  | none => simp
  | some n =>
    simp only [Option.some.injEq]
    constructor
    · intro hk
      exact ⟨n, rfl, by simpa using hk⟩
    · rintro ⟨m, rfl, hk⟩
      simp [hk]
theorem lineB_iff {x : Gr.Ln} : lineB x = true ↔ (0 ≤ x.sink ∧ x.sink ≤ 7) ∧ (0 ≤ x.frm ∧ x.frm ≤ 7) ∧ (0 ≤ x.key ∧ x.key < 64) ∧ rightV x.v = true := by
  unfold lineB
  simp only [Bool.and_eq_true, numB_iff]
  constructor
  · rintro ⟨h1, h2, h3, h4⟩
    exact ⟨h1, h2, ⟨h3.1, by omega⟩, h4⟩
  · rintro ⟨h1, h2, h3, h4⟩
    exact ⟨h1, h2, ⟨h3.1, by omega⟩, h4⟩
theorem okEn_iff {x : Tab.En} : okEn x = true ↔ (0 ≤ x.node ∧ x.node < 8) ∧ (0 ≤ x.key ∧ x.key < 64) ∧ rightV x.c0 = true ∧ rightV x.c1 = true := by
  unfold okEn
  rw [Bool.and_eq_true, Bool.and_eq_true, thereB_iff]
  unfold There
  exact ⟨fun ⟨⟨a, b⟩, c, d⟩ => ⟨a, b, c, d⟩, fun ⟨a, b, c, d⟩ => ⟨⟨a, b⟩, c, d⟩⟩
theorem any_not {α : Type} {l : List α} {p : α → Bool} : (!(l.any fun x => !(p x))) = true ↔ ∀ x ∈ l, p x = true := by
  rw [Bool.not_eq_true', List.any_eq_false]
  constructor
  · intro h x hx
    have := h x hx
    simpa using this
  · intro h x hx
    rw [h x hx]
    simp
open Classical in
theorem entB_iff {l : List Tab.En} {g : List Gr.Nd} : entB l g = true ↔ (∀ x ∈ l, okEn x = true) ∧ ((l.Pairwise fun a b => Tab.num a < Tab.num b) ∧ ∀ x ∈ l, Tab.nz x = true) ∧ ∀ x ∈ l, badE g x = false := by
  unfold entB newOk
  rw [Bool.and_eq_true, Bool.and_eq_true, List.all_eq_true, decide_eq_true_eq, Bool.not_eq_true', List.any_eq_false]
  refine ⟨fun ⟨h1, h2, h3⟩ => ⟨h1, h2, fun x hx => ?_⟩, fun ⟨h1, h2, h3⟩ => ⟨h1, h2, fun x hx => ?_⟩⟩
  · have := h3 x hx
    simpa using this
  · rw [h3 x hx]
    simp
open Classical in
theorem plB_iff {p : List Gr.Stp} : plB p = true ↔ p = [] ∨ (Gr.OkPl fitsP p ∧ p.map Gr.cleanS = p) := by unfold plB; rw [decide_eq_true_eq]
theorem sortedB_iff {l : List Gr.Nd} : sortedB l = true ↔ Gr.sortedG l := by unfold sortedB Gr.sortedG; rw [decide_eq_true_eq]
open Classical in
theorem rightB_iff {m : Gr.Mf} : rightB m = true ↔ Gr.RightM fitsP m := by
  rw [← Gr.rightM_iff (s := srtE (Tab.newT m.ents)) (srtE_perm _) (srtE_sorted _)]
  have hal := Tab.all_iff (srtE_perm (Tab.newT m.ents)) (srtE_sorted _)
  unfold rightB
  rw [Bool.and_eq_true, Bool.and_eq_true, Bool.and_eq_true, Bool.and_eq_true, Bool.and_eq_true, Bool.and_eq_true, Bool.and_eq_true, Bool.and_eq_true, Bool.and_eq_true, numB_iff, numB_iff, decide_eq_true_eq, decide_eq_true_eq, plB_iff, any_not, entB_iff, any_not, beq_iff_eq]
  constructor
  · rintro ⟨h1, h2, h3, h4, h5, h6, h7, h8, ⟨h9, h10, h11⟩, h12⟩
    have hr := checkR_zero h3
    obtain ⟨src, hsrc⟩ := source_some hr
    have hal2 := hal.2 h10
    refine ⟨h1, h2, hr, ?_, by omega, h6, ⟨src, hsrc, ?_⟩, fun x hx => numB_iff.1 (h8 x hx), fun x hx => okEn_iff.1 (h9 x hx), hal2, fun x hx => badE_no.1 (h11 x (by rw [← hal2]; exact hx)), fun x hx => lineB_iff.1 (h12 x hx)⟩
    · exact sortedB_iff.1 h4
    · rw [h7]
      unfold parOf
      rw [hsrc]
  · intro h
    refine ⟨h.ep, h.pl, checkR_ok h.gr.len h.gr, ?_, by have := h.ol; omega, h.pn, ?_, fun x hx => numB_iff.2 (h.o4 x hx), ⟨fun x hx => okEn_iff.2 (h.en x hx), hal.1 h.al, fun x hx => badE_no.2 (h.ft x (by rw [h.al]; exact hx))⟩, fun x hx => lineB_iff.2 (h.ou x hx)⟩
    · exact sortedB_iff.2 h.so
    · obtain ⟨n, hn, e⟩ := h.of
      rw [e]
      unfold parOf
      rw [hn]
end Go.Proofs.YtepfdekppnobaaaGreat

/-! snap.First. -/
namespace Go.Proofs.YtepfdekppnobaaaGreat
set_option linter.unusedSimpArgs false
set_option linter.unusedVariables false
open Go.RowKit Ga
set_option maxRecDepth 100000

def IntsZ (base p : Nat) (v : Value) (w : World) : Prop := ∃ b : Nat, v = .slice (some ⟨b, 0, none⟩) p p ∧ base ≤ b ∧ w.heap[b]? = some (.cells (Array.replicate p (.int .i64 0)) 3)
theorem IntsZ.st (base p : Nat) : ∀ v w w', IntsZ base p v w → Grew w w' → IntsZ base p v w' := fun _ _ _ ⟨b, h1, h2, h3⟩ g => ⟨b, h1, h2, grew_heap g h3⟩
theorem IntsZ.ints {base p : Nat} {v : Value} {w : World} (h : IntsZ base p v w) (hp : p ≤ 100) : IntsAt w v (List.replicate p 0) := by
  obtain ⟨b, rfl, -, h3⟩ := h
  refine ⟨_, p, by simp, by simp [maxLen]; omega, fun _ => ⟨b, 0, rfl, fun i x hi j u hu => ?_⟩⟩
  rw [cell_of h3]
  rw [List.getElem?_replicate] at hi
  split at hi
  · cases hi
    match j, hu with
    | 0, hu =>
      simp at hu
      subst hu
      rw [show 0 + i * 1 + 0 = i by omega, Array.getElem?_replicate, if_pos ‹_›]
  · cases hi
def IsFirst (base p : Nat) (g : List Gr.Nd) (v : Value) (w : World) : Prop := ∃ (b : Nat) (ag : Option Addr) (cg : Nat), v = .agg #[.int .i64 0, .int .i64 0, .slice (some ⟨b, 0, none⟩) p p, .slice ag g.length cg, .slice none 0 0, .slice none 0 0, .slice none 0 0] ∧ IntsZ base p (.slice (some ⟨b, 0, none⟩) p p) w ∧ NodesV base g (.slice ag g.length cg) w
theorem IsFirst.st (base p : Nat) (g : List Gr.Nd) : ∀ v w w', IsFirst base p g v w → Grew w w' → IsFirst base p g v w' := fun _ _ _ ⟨b, a, c, h1, h2, h3⟩ q => ⟨b, a, c, h1, IntsZ.st _ _ _ _ _ h2 q, NodesV.st _ _ _ _ _ h3 q⟩
theorem IsFirst.keep {base p : Nat} {g : List Gr.Nd} {b : Nat} {ag : Option Addr} {cg : Nat} {w w' : World} (h : IntsZ base p (.slice (some ⟨b, 0, none⟩) p p) w ∧ NodesV base g (.slice ag g.length cg) w) (hk : ∀ b, base ≤ b → b < w.heap.size → w'.heap[b]? = w.heap[b]?) (hp : p ≤ 100) : IntsAt w' (.slice (some ⟨b, 0, none⟩) p p) (List.replicate p 0) ∧ NodesAt w' (.slice ag g.length cg) g := by
  refine ⟨?_, (h.2.keep hk).at'⟩
  obtain ⟨⟨b', h1, h2, h3⟩, -⟩ := h
  cases h1
  exact IntsZ.ints ⟨b, rfl, h2, by rw [hk b h2 (heap_lt h3)]; exact h3⟩ hp
/-- two worlds that differ in one block at most -/
def SameBut (r : Nat) (W W' : World) : Prop := W.heap.size = W'.heap.size ∧ ∀ b, b ≠ r → W'.heap[b]? = W.heap[b]?
theorem SameBut.mk (w : World) (o o' : Obj) : SameBut w.heap.size (w.alloc o) (w.alloc o') := by
  refine ⟨by simp [World.size_alloc], fun b hb => ?_⟩
  show (w.heap.push o')[b]? = (w.heap.push o)[b]?
  rw [Array.getElem?_push, Array.getElem?_push, if_neg hb, if_neg hb]
theorem SameBut.more {r : Nat} {W W' : World} (h : SameBut r W W') (R : Array Obj) (n : Nat) : SameBut r (W.more R n) (W'.more R n) := by
  refine ⟨by simp [World.more_size, h.1], fun b hb => ?_⟩
  rcases Nat.lt_or_ge b W.heap.size with q | q
  · rw [World.heap_more R n b q, World.heap_more R n b (by rw [← h.1]; exact q)]
    exact h.2 b hb
  · exact heap_more_same h.1 R n b q
theorem SameBut.alloc {r : Nat} {W W' : World} (h : SameBut r W W') (o : Obj) : SameBut r (W.alloc o) (W'.alloc o) := by
  refine ⟨by simp [World.size_alloc, h.1], fun b hb => ?_⟩
  show (W'.heap.push o)[b]? = (W.heap.push o)[b]?
  rw [Array.getElem?_push, Array.getElem?_push, h.1]
  split
  · rfl
  · exact h.2 b hb
theorem SameBut.at {r : Nat} {W W' : World} (h : SameBut r W W') (b : Nat) (hb : b ≠ r) : W'.heap[b]? = W.heap[b]? := h.2 b hb
end Go.Proofs.YtepfdekppnobaaaGreat

/-! graph.Same at sorted lists; pack.Same. -/
namespace Go.Proofs.YtepfdekppnobaaaGreat
set_option linter.unusedSimpArgs false
set_option linter.unusedVariables false
open Go.RowKit Ga
set_option maxRecDepth 100000

theorem perm_strict {l l' : List Gr.Nd} (hp : l'.Perm l) (h : l.Pairwise fun a b => a.id < b.id) (h' : l'.Pairwise fun a b => a.id ≤ b.id) : l' = l := by
  have hu : (l.map (·.id)).Nodup := by
    rw [List.Nodup, List.pairwise_map]
    exact h.imp fun {a b} q e => by omega
  have hu' : (l'.map (·.id)).Nodup := (hp.map (·.id)).nodup_iff.2 hu
  have hs' : l'.Pairwise fun a b => a.id < b.id := by
    rw [List.Nodup, List.pairwise_map] at hu'
    exact (h'.and hu').imp fun {a b} ⟨q1, q2⟩ => by omega
  exact hp.eq_of_pairwise (le := fun a b : Gr.Nd => a.id < b.id) (fun a b _ _ h1 h2 => by omega) hs' h
theorem norm_strict (v : Value) (l : List Gr.Nd) (w : World) (hv : NodesAt w v l) (hs : Small l) (hl : l.length ≤ 19) (ho : l.Pairwise fun a b => a.id < b.id) : Calls Tryz.prog 30 #[v] w (fun e w' => ∃ v', e = .returned v' ∧ NodesAt w' v' l ∧ Grew w w') := by
  refine (norm_any v l w hv hs hl).mono ?_
  rintro e w' ⟨v', lc, l', rfl, h1, h2, h3, h4, g⟩
  obtain rfl := perm_strict h3 ho h4
  exact ⟨v', rfl, h2.at h1, g⟩
set_option maxHeartbeats 8000000 in
theorem same_strict (v u : Value) (l m : List Gr.Nd) (w : World) (hv : NodesAt w v l) (hu : NodesAt w u m) (hs : Small l) (hl : l.length ≤ 19) (ho : l.Pairwise fun a b => a.id < b.id) (ht : Small m) (hm : m.length ≤ 19) (hp : m.Pairwise fun a b => a.id < b.id) : Calls Tryz.prog 45 #[v, u] w (Gives (.bool (eqNds l m)) w) := by
  have HV := Lib.hid fun W (g : Grew w W) => norm_strict v l W (hv.grew g) hs hl ho
  have HU := Lib.hid fun W (g : Grew w W) => norm_strict u m W (hu.grew g) ht hm hp
  clear hv hu hs ho ht hp hl hm
  go_enter Tryz.func45, Tryz.ntmps45
  go_wp2_with fail
  refine (HV.out _ (by repeat (first | with_reducible exact Grew.refl _ | apply Grew.more | apply Grew.alloc | apply Grew.drew | apply Grew.drewN))).mono ?_
  rintro e w1 ⟨v1, rfl, hv1, R1, n1, rfl⟩
  have HV1 := Lib.hid hv1
  clear hv1
  go_wp2_with fail
  refine (HU.out _ (by repeat (first | with_reducible exact Grew.refl _ | apply Grew.more | apply Grew.alloc | apply Grew.drew | apply Grew.drewN))).mono ?_
  rintro e w1 ⟨v2, rfl, hv2, R2, n2, rfl⟩
  have HV2 := Lib.hid hv2
  clear hv2
  go_wp2_with fail
  refine (eqFnNodes_any _ _ l m _ (HV1.out.grew (by repeat (first | with_reducible exact Grew.refl _ | apply Grew.more | apply Grew.alloc | apply Grew.drew | apply Grew.drewN))) (HV2.out.grew (by repeat (first | with_reducible exact Grew.refl _ | apply Grew.more | apply Grew.alloc | apply Grew.drew | apply Grew.drewN)))).mono ?_
  rintro e w1 ⟨rfl, R3, n3, rfl⟩
  go_wp2
  go_ret
  exact ⟨rfl, by repeat (first | with_reducible exact Grew.refl _ | apply Grew.more | apply Grew.alloc | apply Grew.drew | apply Grew.drewN)⟩
open Classical in
/-- two manifests are one -/
noncomputable def eqMf (a b : Gr.Mf) : Bool := decide (a = b)
/-- .. as far as the program looks, graphs that stand by numbers -/
structure OkMf (m : Gr.Mf) : Prop where
  s : Small m.graph
  l : m.graph.length ≤ 19
  o : m.graph.Pairwise fun a b => a.id < b.id
  p : ∀ s ∈ m.plan, s.nd.frm.length ≤ 1000 ∧ s.nd.prog.length ≤ 1000
open Classical in
theorem eqMf_iff (a b : Gr.Mf) : eqMf a b = ((a.epoch == b.epoch) && ((a.plans == b.plans) && (decide (a.offs = b.offs) && (eqNds a.graph b.graph && (decide (a.ents = b.ents) && (decide (a.out = b.out) && eqBy eqSt a.plan b.plan)))))) := by
  have h1 := exact_iff a.plan b.plan
  have h2 : eqNds a.graph b.graph = true ↔ a.graph = b.graph := by unfold eqNds; rw [decide_eq_true_eq]
  obtain ⟨e1, p1, o1, g1, n1, x1, q1⟩ := a
  obtain ⟨e2, p2, o2, g2, n2, x2, q2⟩ := b
  unfold eqMf
  simp only at h1 h2 ⊢
  rw [Bool.eq_iff_iff]
  simp only [Gr.Mf.mk.injEq, Bool.and_eq_true, decide_eq_true_eq, beq_iff_eq, h1, h2]
open Classical in
set_option maxHeartbeats 16000000 in
theorem packSameM_any (c d : MfC) (a b : Gr.Mf) (w : World) (ha : MfIs w c a) (hb : MfIs w d b) (oa : OkMf a) (ob : OkMf b) : Calls Tryz.prog 23 #[.agg #[.int .i64 c.epoch, .int .i64 c.plans, .slice c.ao c.no c.co, .slice c.ag c.ng c.cg, .slice c.ae c.ne c.ce, .slice c.ax c.nx c.cx, .slice c.ap c.np c.cp], .agg #[.int .i64 d.epoch, .int .i64 d.plans, .slice d.ao d.no d.co, .slice d.ag d.ng d.cg, .slice d.ae d.ne d.ce, .slice d.ax d.nx d.cx, .slice d.ap d.np d.cp]] w (Gives (.bool (eqMf a b)) w) := by
  have hq := eqMf_iff a b
  have H1 := Lib.hid fun W (g : Grew w W) => eqInts_any _ _ a.offs b.offs W (ha.o.grew g) (hb.o.grew g)
  have H2 := Lib.hid fun W (g : Grew w W) => same_strict _ _ a.graph b.graph W (ha.g.grew g) (hb.g.grew g) oa.s oa.l oa.o ob.s ob.l ob.o
  have H3 := Lib.hid fun W (g : Grew w W) => eqEns_any _ _ a.ents b.ents W (ha.e.grew g) (hb.e.grew g)
  have H4 := Lib.hid fun W (g : Grew w W) => eqLns_any _ _ a.out b.out W (ha.x.grew g) (hb.x.grew g)
  have H5 := Lib.hid fun W (g : Grew w W) => eqFnExact_any _ _ a.plan b.plan W (ha.p.grew g) (hb.p.grew g) oa.p ob.p
  have e1 := ha.epoch
  have e2 := ha.plans
  have f1 := hb.epoch
  have f2 := hb.plans
  obtain ⟨ep, pl, ao, co, ag, cg, ae, ce, ax, cx, ap, cp, rfl⟩ := ha.lit
  obtain ⟨ep2, pl2, ao2, co2, ag2, cg2, ae2, ce2, ax2, cx2, ap2, cp2, rfl⟩ := hb.lit
  simp only at e1 e2 f1 f2 H1 H2 H3 H4 H5
  rw [e1, e2, f1, f2] at hq
  generalize eqMf a b = q at *
  clear ha hb oa ob e1 e2 f1 f2
  generalize a.offs.length = l1 at *
  generalize b.offs.length = m1 at *
  generalize a.graph.length = l2 at *
  generalize b.graph.length = m2 at *
  generalize a.ents.length = l3 at *
  generalize b.ents.length = m3 at *
  generalize a.out.length = l4 at *
  generalize b.out.length = m4 at *
  generalize a.plan.length = l5 at *
  generalize b.plan.length = m5 at *
  show Calls Tryz.prog _ #[.agg #[.int .i64 ep, .int .i64 pl, .slice ao l1 co, .slice ag l2 cg, .slice ae l3 ce, .slice ax l4 cx, .slice ap l5 cp], .agg #[.int .i64 ep2, .int .i64 pl2, .slice ao2 m1 co2, .slice ag2 m2 cg2, .slice ae2 m3 ce2, .slice ax2 m4 cx2, .slice ap2 m5 cp2]] w _
  generalize decide (a.offs = b.offs) = b1 at *
  generalize eqNds a.graph b.graph = b2 at *
  generalize decide (a.ents = b.ents) = b3 at *
  generalize decide (a.out = b.out) = b4 at *
  generalize eqBy eqSt a.plan b.plan = b5 at *
  cases h1 : (ep == ep2)
  · have hq : q = false := by rw [hq, h1]; rfl
    have HQ := Lib.hid hq
    clear hq
    go_enter Tryz.func23, Tryz.ntmps23
    go_wp2
    go_ret
    exact ⟨by rw [HQ.out]; rfl, by repeat (first | with_reducible exact Grew.refl _ | apply Grew.more | apply Grew.alloc | apply Grew.drew | apply Grew.drewN)⟩
  rw [h1, Bool.true_and] at hq
  cases h2 : (pl == pl2)
  · have hq : q = false := by rw [hq, h2]; rfl
    have HQ := Lib.hid hq
    clear hq
    go_enter Tryz.func23, Tryz.ntmps23
    go_wp2
    go_ret
    exact ⟨by rw [HQ.out]; rfl, by repeat (first | with_reducible exact Grew.refl _ | apply Grew.more | apply Grew.alloc | apply Grew.drew | apply Grew.drewN)⟩
  rw [h2, Bool.true_and] at hq
  cases b1
  · have hq : q = false := by rw [hq]; rfl
    have HQ := Lib.hid hq
    clear hq
    go_enter Tryz.func23, Tryz.ntmps23
    go_wp2_with (first | (go_at_call 57; refine (H1.out _ (by repeat (first | with_reducible exact Grew.refl _ | apply Grew.more | apply Grew.alloc | apply Grew.drew | apply Grew.drewN))).mono ?_; rintro e w1 ⟨rfl, R0, n0, rfl⟩))
    go_ret
    exact ⟨by rw [HQ.out]; rfl, by repeat (first | with_reducible exact Grew.refl _ | apply Grew.more | apply Grew.alloc | apply Grew.drew | apply Grew.drewN)⟩
  rw [Bool.true_and] at hq
  cases b2
  · have hq : q = false := by rw [hq]; rfl
    have HQ := Lib.hid hq
    clear hq
    go_enter Tryz.func23, Tryz.ntmps23
    go_wp2_with (first | (go_at_call 57; refine (H1.out _ (by repeat (first | with_reducible exact Grew.refl _ | apply Grew.more | apply Grew.alloc | apply Grew.drew | apply Grew.drewN))).mono ?_; rintro e w1 ⟨rfl, R0, n0, rfl⟩) | (go_at_call 45; refine (H2.out _ (by repeat (first | with_reducible exact Grew.refl _ | apply Grew.more | apply Grew.alloc | apply Grew.drew | apply Grew.drewN))).mono ?_; rintro e w1 ⟨rfl, R1, n1, rfl⟩))
    go_ret
    exact ⟨by rw [HQ.out]; rfl, by repeat (first | with_reducible exact Grew.refl _ | apply Grew.more | apply Grew.alloc | apply Grew.drew | apply Grew.drewN)⟩
  rw [Bool.true_and] at hq
  cases b3
  · have hq : q = false := by rw [hq]; rfl
    have HQ := Lib.hid hq
    clear hq
    go_enter Tryz.func23, Tryz.ntmps23
    go_wp2_with (first | (go_at_call 57; refine (H1.out _ (by repeat (first | with_reducible exact Grew.refl _ | apply Grew.more | apply Grew.alloc | apply Grew.drew | apply Grew.drewN))).mono ?_; rintro e w1 ⟨rfl, R0, n0, rfl⟩) | (go_at_call 45; refine (H2.out _ (by repeat (first | with_reducible exact Grew.refl _ | apply Grew.more | apply Grew.alloc | apply Grew.drew | apply Grew.drewN))).mono ?_; rintro e w1 ⟨rfl, R1, n1, rfl⟩) | (go_at_call 58; refine (H3.out _ (by repeat (first | with_reducible exact Grew.refl _ | apply Grew.more | apply Grew.alloc | apply Grew.drew | apply Grew.drewN))).mono ?_; rintro e w1 ⟨rfl, R2, n2, rfl⟩))
    go_ret
    exact ⟨by rw [HQ.out]; rfl, by repeat (first | with_reducible exact Grew.refl _ | apply Grew.more | apply Grew.alloc | apply Grew.drew | apply Grew.drewN)⟩
  rw [Bool.true_and] at hq
  cases b4
  · have hq : q = false := by rw [hq]; rfl
    have HQ := Lib.hid hq
    clear hq
    go_enter Tryz.func23, Tryz.ntmps23
    go_wp2_with (first | (go_at_call 57; refine (H1.out _ (by repeat (first | with_reducible exact Grew.refl _ | apply Grew.more | apply Grew.alloc | apply Grew.drew | apply Grew.drewN))).mono ?_; rintro e w1 ⟨rfl, R0, n0, rfl⟩) | (go_at_call 45; refine (H2.out _ (by repeat (first | with_reducible exact Grew.refl _ | apply Grew.more | apply Grew.alloc | apply Grew.drew | apply Grew.drewN))).mono ?_; rintro e w1 ⟨rfl, R1, n1, rfl⟩) | (go_at_call 58; refine (H3.out _ (by repeat (first | with_reducible exact Grew.refl _ | apply Grew.more | apply Grew.alloc | apply Grew.drew | apply Grew.drewN))).mono ?_; rintro e w1 ⟨rfl, R2, n2, rfl⟩) | (go_at_call 59; refine (H4.out _ (by repeat (first | with_reducible exact Grew.refl _ | apply Grew.more | apply Grew.alloc | apply Grew.drew | apply Grew.drewN))).mono ?_; rintro e w1 ⟨rfl, R3, n3, rfl⟩))
    go_ret
    exact ⟨by rw [HQ.out]; rfl, by repeat (first | with_reducible exact Grew.refl _ | apply Grew.more | apply Grew.alloc | apply Grew.drew | apply Grew.drewN)⟩
  rw [Bool.true_and] at hq
  have HQ := Lib.hid hq
  clear hq
  go_enter Tryz.func23, Tryz.ntmps23
  go_wp2_with (first | (go_at_call 57; refine (H1.out _ (by repeat (first | with_reducible exact Grew.refl _ | apply Grew.more | apply Grew.alloc | apply Grew.drew | apply Grew.drewN))).mono ?_; rintro e w1 ⟨rfl, R0, n0, rfl⟩) | (go_at_call 45; refine (H2.out _ (by repeat (first | with_reducible exact Grew.refl _ | apply Grew.more | apply Grew.alloc | apply Grew.drew | apply Grew.drewN))).mono ?_; rintro e w1 ⟨rfl, R1, n1, rfl⟩) | (go_at_call 58; refine (H3.out _ (by repeat (first | with_reducible exact Grew.refl _ | apply Grew.more | apply Grew.alloc | apply Grew.drew | apply Grew.drewN))).mono ?_; rintro e w1 ⟨rfl, R2, n2, rfl⟩) | (go_at_call 59; refine (H4.out _ (by repeat (first | with_reducible exact Grew.refl _ | apply Grew.more | apply Grew.alloc | apply Grew.drew | apply Grew.drewN))).mono ?_; rintro e w1 ⟨rfl, R3, n3, rfl⟩) | (go_at_call 60; refine (H5.out _ (by repeat (first | with_reducible exact Grew.refl _ | apply Grew.more | apply Grew.alloc | apply Grew.drew | apply Grew.drewN))).mono ?_; rintro e w1 ⟨rfl, R4, n4, rfl⟩))
  go_ret
  exact ⟨by rw [HQ.out]; rfl, by repeat (first | with_reducible exact Grew.refl _ | apply Grew.more | apply Grew.alloc | apply Grew.drew | apply Grew.drewN)⟩
end Go.Proofs.YtepfdekppnobaaaGreat
