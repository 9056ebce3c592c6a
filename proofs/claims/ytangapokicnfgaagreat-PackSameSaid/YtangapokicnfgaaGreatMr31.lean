import Derived.Test.YtangapokicnfgaaGreatMr19
import Derived.Test.YtangapokicnfgaaGreatMr29
import Derived.Test.YtangapokicnfgaaGreatMr30
import Derived.Test.YtangapokicnfgaaGreatMr20
/-! pack.same. -/
namespace Go.Proofs.YtangapokicnfgaaGreat
set_option linter.unusedSimpArgs false
set_option linter.unusedVariables false
open Go.RowKit Ga
set_option maxRecDepth 100000

def IsOwn (base : Nat) (z : Gr.Stp) (v : Value) (w : World) : Prop := ∃ d : StC, v = .agg #[.int .i64 d.kind, .int .i64 d.c.id, .int .i64 d.c.kind, .slice d.c.af d.c.nf d.c.cf, .slice d.c.ap d.c.np d.c.cp, .int .i64 d.c.par, .int .i64 d.c.r0, .int .i64 d.c.r1, .int .i64 d.c.r2, .int .i64 d.c.r3, .int .i64 d.c.r4, .int .i64 d.c.r5, .int .i64 d.c.r6, .int .i64 d.c.r7, .bool d.reset] ∧ StepIs w d z ∧ OwnsNd base w d.c z.nd
theorem IsOwn.st (base : Nat) (z : Gr.Stp) : ∀ v w w', IsOwn base z v w → Grew w w' → IsOwn base z v w' := fun _ _ _ ⟨d, h1, h2, h3⟩ g => ⟨d, h1, h2.grew g, h3.grew g⟩
set_option maxHeartbeats 8000000 in
theorem packSame_any (c d : StC) (s t : Gr.Stp) (w : World) (hn : StepIs w c s) (hm : StepIs w d t) (hs : s.nd.frm.length ≤ 1000 ∧ s.nd.prog.length ≤ 1000) (ht : t.nd.frm.length ≤ 1000 ∧ t.nd.prog.length ≤ 1000) : Calls Tryz.prog 86 #[.agg #[.int .i64 c.kind, .int .i64 c.c.id, .int .i64 c.c.kind, .slice c.c.af c.c.nf c.c.cf, .slice c.c.ap c.c.np c.c.cp, .int .i64 c.c.par, .int .i64 c.c.r0, .int .i64 c.c.r1, .int .i64 c.c.r2, .int .i64 c.c.r3, .int .i64 c.c.r4, .int .i64 c.c.r5, .int .i64 c.c.r6, .int .i64 c.c.r7, .bool c.reset], .agg #[.int .i64 d.kind, .int .i64 d.c.id, .int .i64 d.c.kind, .slice d.c.af d.c.nf d.c.cf, .slice d.c.ap d.c.np d.c.cp, .int .i64 d.c.par, .int .i64 d.c.r0, .int .i64 d.c.r1, .int .i64 d.c.r2, .int .i64 d.c.r3, .int .i64 d.c.r4, .int .i64 d.c.r5, .int .i64 d.c.r6, .int .i64 d.c.r7, .bool d.reset]] w (Gives (.bool (eqSt (Gr.cleanS s) (Gr.cleanS t))) w) := by
  have HC := Lib.hid fun W (g : Grew w W) => clean49_any c s W (hn.grew g) hs
  have HD := Lib.hid fun W (g : Grew w W) => clean49_any d t W (hm.grew g) ht
  have HEQ := Lib.hid (eqSt_iff (s := Gr.cleanS s) (t := Gr.cleanS t))
  have HSS := Lib.hid (clean_small hs)
  have HTT := Lib.hid (clean_small ht)
  obtain ⟨kd, rs, id, kind, af, cf, ap, cp, par, r0, r1, r2, r3, r4, r5, r6, r7, rfl⟩ := hn.lit
  obtain ⟨kd2, rs2, id2, kind2, af2, cf2, ap2, cp2, par2, s0, s1, s2, s3, s4, s5, s6, s7, rfl⟩ := hm.lit
  clear hn hm hs ht
  generalize Gr.cleanS s = x at *
  generalize Gr.cleanS t = y at *
  go_enter Tryz.func86, Tryz.ntmps86
  go_upto_region 1 with fail
  refine wp_region_seq 4 Tryz.mixed (by kernel_rfl) (by kernel_rfl) ?_
  iterate 1
    apply Seq.val
    focus
      rintro w1 u ⟨R1, n1, rfl⟩ hF
      simp [moreFacts, Fact.more, Oper.deps, Region.binds, List.filter_cons, World.more_drew] at hF
      simp [putFacts, Oper.deps, Region.binds, List.filter_cons, Region.dstOf, Fact.at, Act.put, World.more_drew]
      go_wp2
      exact ⟨by repeat (first | with_reducible exact Grew.refl _ | apply Grew.more | apply Grew.alloc | apply Grew.drew | apply Grew.drewN), rfl, _, _, rfl, rfl, rfl⟩
  apply Seq.of (IsOwn (w.heap.size + 1 + 1) x) (IsOwn.st _ x)
  focus
    rintro w1 u ⟨R1, n1, rfl⟩ hF
    simp [moreFacts, Fact.more, Oper.deps, Region.binds, List.filter_cons, World.more_drew] at hF
    simp [putFacts, Oper.deps, Region.binds, List.filter_cons, Region.dstOf, Fact.at, Act.put, World.more_drew]
    go_wp2_with (first
      | (go_at_call 49; refine (HC.out _ (by repeat (first | with_reducible exact Grew.refl _ | apply Grew.more | apply Grew.alloc | apply Grew.drew | apply Grew.drewN))).mono ?_; rintro e w2 ⟨d1, rfl, h1, h2, R3, n3, rfl⟩)
      )
    exact ⟨by repeat (first | with_reducible exact Grew.refl _ | apply Grew.more | apply Grew.alloc | apply Grew.drew | apply Grew.drewN), rfl, _, _, rfl, rfl, ⟨d1, rfl, h1, OwnsNd.low h2 (by simp [go_sem] <;> omega)⟩⟩
  iterate 1
    apply Seq.val
    focus
      rintro w1 u ⟨R1, n1, rfl⟩ hF
      simp [moreFacts, Fact.more, Oper.deps, Region.binds, List.filter_cons, World.more_drew] at hF
      simp [putFacts, Oper.deps, Region.binds, List.filter_cons, Region.dstOf, Fact.at, Act.put, World.more_drew]
      go_wp2
      exact ⟨by repeat (first | with_reducible exact Grew.refl _ | apply Grew.more | apply Grew.alloc | apply Grew.drew | apply Grew.drewN), rfl, _, _, rfl, rfl, rfl⟩
  apply Seq.of (IsOwn (w.heap.size + 1 + 1) y) (IsOwn.st _ y)
  focus
    rintro w1 u ⟨R1, n1, rfl⟩ hF
    simp [moreFacts, Fact.more, Oper.deps, Region.binds, List.filter_cons, World.more_drew] at hF
    simp [putFacts, Oper.deps, Region.binds, List.filter_cons, Region.dstOf, Fact.at, Act.put, World.more_drew]
    go_wp2_with (first
      | (go_at_call 49; refine (HD.out _ (by repeat (first | with_reducible exact Grew.refl _ | apply Grew.more | apply Grew.alloc | apply Grew.drew | apply Grew.drewN))).mono ?_; rintro e w2 ⟨d1, rfl, h1, h2, R3, n3, rfl⟩)
      )
    exact ⟨by repeat (first | with_reducible exact Grew.refl _ | apply Grew.more | apply Grew.alloc | apply Grew.drew | apply Grew.drewN), rfl, _, _, rfl, rfl, ⟨d1, rfl, h1, OwnsNd.low h2 (by simp [go_sem] <;> omega)⟩⟩
  rintro u w1 ⟨R1, n1, rfl⟩ hF
  simp [moreFacts, Fact.more, apartFacts, Fact.isNew, List.range_succ] at hF
  simp [putFacts, Region.dstOf, Fact.at, Act.put, List.range_succ, World.more_drew]
  obtain ⟨⟨d1, hu1, h1, o1⟩, d2, hu2, h2, o2⟩ := hF
  rw [hu1, hu2]
  have e1 := h1.kind
  have e2 := h1.reset
  have g1 := h2.kind
  have g2 := h2.reset
  have HN := Lib.hid fun (A B : Obj) => (show NodeIs (((w.alloc A).alloc B).more R1 n1) d1.c x.nd from (OwnsNd.to o1 (fun b hb _ => heap_more_same (by simp [World.size_alloc]) _ _ _ (by simp [World.size_alloc]; omega))).is h1.nd)
  have HM := Lib.hid fun (A B : Obj) => (show NodeIs (((w.alloc A).alloc B).more R1 n1) d2.c y.nd from (OwnsNd.to o2 (fun b hb _ => heap_more_same (by simp [World.size_alloc]) _ _ _ (by simp [World.size_alloc]; omega))).is h2.nd)
  obtain ⟨ka, ra, ida, kina, afa, cfa, apa, cpa, para, a0, a1, a2, a3, a4, a5, a6, a7, rfl⟩ := h1.lit
  obtain ⟨kb, rb, idb, kinb, afb, cfb, apb, cpb, parb, b0, b1, b2, b3, b4, b5, b6, b7, rfl⟩ := h2.lit
  simp only at e1 e2 g1 g2
  rw [e1, e2, g1, g2] at HEQ
  clear h1 h2 o1 o2 hu1 hu2 e1 e2 g1 g2
  generalize eqSt x y = q at *
  by_cases h1 : ka = kb
  case neg =>
    have hq : q = false := by rw [HEQ.out, decide_eq_false h1]; rfl
    have HQ := Lib.hid hq
    have h1b : (ka == kb) = false := by simpa using h1
    clear h1 hq
    go_wp2
    go_ret
    exact ⟨by rw [HQ.out]; rfl, by repeat (first | with_reducible exact Grew.refl _ | apply Grew.more | apply Grew.alloc | apply Grew.drew | apply Grew.drewN)⟩
  subst h1
  by_cases h2 : ra = rb
  case neg =>
    have hq : q = false := by rw [HEQ.out, beq_eq_false_iff_ne.2 h2]; simp
    have HQ := Lib.hid hq
    have h2b : (ra == rb) = false := beq_eq_false_iff_ne.2 h2
    clear h2 hq
    go_wp2
    go_ret
    exact ⟨by rw [HQ.out]; rfl, by repeat (first | with_reducible exact Grew.refl _ | apply Grew.more | apply Grew.alloc | apply Grew.drew | apply Grew.drewN)⟩
  subst h2
  cases hq2 : eqNd x.nd y.nd
  · have hq : q = false := by rw [HEQ.out, hq2]; simp
    have HQ := Lib.hid hq
    have HQ2 := Lib.hid hq2
    clear hq hq2
    go_wp2_with (go_at_call 69; refine Calls.mono (same_one _ _ x.nd y.nd _ ?_ ?_ HSS.out HTT.out) ?_; (focus (refine NodesAt.grew ?_ ((Grew.refl _).alloc _); exact NodesAt.one ((HN.out _ _).grew (by repeat (first | with_reducible exact Grew.refl _ | apply Grew.more | apply Grew.alloc | apply Grew.drew | apply Grew.drewN))) _ (by simp [go_sem]) _ rfl)); (focus exact NodesAt.one ((HM.out _ _).grew (by repeat (first | with_reducible exact Grew.refl _ | apply Grew.more | apply Grew.alloc | apply Grew.drew | apply Grew.drewN))) _ (by simp [go_sem]) _ rfl); rintro e w1 ⟨rfl, R1, n1, rfl⟩; rw [HQ2.out])
    go_ret
    exact ⟨by rw [HQ.out]; rfl, by repeat (first | with_reducible exact Grew.refl _ | apply Grew.more | apply Grew.alloc | apply Grew.drew | apply Grew.drewN)⟩
  · have hq : q = true := by rw [HEQ.out, hq2]; simp
    have HQ := Lib.hid hq
    have HQ2 := Lib.hid hq2
    clear hq hq2
    go_wp2_with (go_at_call 69; refine Calls.mono (same_one _ _ x.nd y.nd _ ?_ ?_ HSS.out HTT.out) ?_; (focus (refine NodesAt.grew ?_ ((Grew.refl _).alloc _); exact NodesAt.one ((HN.out _ _).grew (by repeat (first | with_reducible exact Grew.refl _ | apply Grew.more | apply Grew.alloc | apply Grew.drew | apply Grew.drewN))) _ (by simp [go_sem]) _ rfl)); (focus exact NodesAt.one ((HM.out _ _).grew (by repeat (first | with_reducible exact Grew.refl _ | apply Grew.more | apply Grew.alloc | apply Grew.drew | apply Grew.drewN))) _ (by simp [go_sem]) _ rfl); rintro e w1 ⟨rfl, R1, n1, rfl⟩; rw [HQ2.out])
    go_ret
    exact ⟨by rw [HQ.out]; rfl, by repeat (first | with_reducible exact Grew.refl _ | apply Grew.more | apply Grew.alloc | apply Grew.drew | apply Grew.drewN)⟩
end Go.Proofs.YtangapokicnfgaaGreat

/-! slices.EqualFunc at steps: with pack.same, with pack.exact; pack.kept. -/
namespace Go.Proofs.YtangapokicnfgaaGreat
set_option linter.unusedSimpArgs false
set_option linter.unusedVariables false
open Go.RowKit Ga
set_option maxRecDepth 100000

/-- two lists are one by R, element by element -/
def eqBy (R : Gr.Stp → Gr.Stp → Bool) : List Gr.Stp → List Gr.Stp → Bool
  | [], [] => true
  | x :: l, y :: m => R x y && eqBy R l m
  | _, _ => false
theorem eqBy_iff (R : Gr.Stp → Gr.Stp → Bool) : ∀ (l m : List Gr.Stp), eqBy R l m = true ↔ l.length = m.length ∧ ∀ (i : Nat) (h : i < l.length) (h2 : i < m.length), R l[i] m[i] = true
  | [], [] => by simp [eqBy]
  | [], y :: m => by simp [eqBy]
  | x :: l, [] => by simp [eqBy]
  | x :: l, y :: m => by
    rw [eqBy, Bool.and_eq_true, eqBy_iff R l m]
    constructor
    · rintro ⟨h1, h2, h3⟩
      refine ⟨by simp [h2], fun i hi hi2 => ?_⟩
      cases i with
      | zero => exact h1
      | succ i => exact h3 i (by simpa using hi) (by simpa using hi2)
    · rintro ⟨h1, h2⟩
      refine ⟨h2 0 (by simp) (by simp), by simpa using h1, fun i hi hi2 => ?_⟩
      exact h2 (i + 1) (by simpa using hi) (by simpa using hi2)
def UptoBy (R : Gr.Stp → Gr.Stp → Bool) (l m : List Gr.Stp) (g : Nat) : Prop := ∀ (i : Nat) (h : i < l.length) (h2 : i < m.length), i < g → R l[i] m[i] = true
theorem UptoBy.succ {R : Gr.Stp → Gr.Stp → Bool} {l m : List Gr.Stp} {g : Nat} (h : UptoBy R l m g) (h1 : g < l.length) (h2 : g < m.length) (h3 : R l[g] m[g] = true) : UptoBy R l m (g + 1) := fun i hi hi2 hg => by
  rcases Nat.lt_or_ge i g with h4 | h4
  · exact h i hi hi2 h4
  · obtain rfl : i = g := by omega
    exact h3
theorem UptoBy.eqBy {R : Gr.Stp → Gr.Stp → Bool} {l m : List Gr.Stp} (h : UptoBy R l m l.length) (hl : l.length = m.length) : eqBy R l m = true := (eqBy_iff R l m).2 ⟨hl, fun i h1 h2 => h i h1 h2 h1⟩
theorem eqBy_no (R : Gr.Stp → Gr.Stp → Bool) {l m : List Gr.Stp} {g : Nat} (h1 : g < l.length) (h2 : g < m.length) (h3 : R l[g] m[g] = false) : eqBy R l m = false := by
  rw [Bool.eq_false_iff]
  intro h
  have := ((eqBy_iff R l m).1 h).2 g h1 h2
  rw [h3] at this
  cases this
theorem eqBy_len (R : Gr.Stp → Gr.Stp → Bool) {l m : List Gr.Stp} (h : l.length ≠ m.length) : eqBy R l m = false := by
  rw [Bool.eq_false_iff]
  intro h1
  exact h ((eqBy_iff R l m).1 h1).1
noncomputable def sameSt (s t : Gr.Stp) : Bool := eqSt (Gr.cleanS s) (Gr.cleanS t)
theorem packSameS_any (c d : StC) (s t : Gr.Stp) (w : World) (hn : StepIs w c s) (hm : StepIs w d t) (hs : s.nd.frm.length ≤ 1000 ∧ s.nd.prog.length ≤ 1000) (ht : t.nd.frm.length ≤ 1000 ∧ t.nd.prog.length ≤ 1000) : Calls Tryz.prog 86 #[.agg #[.int .i64 c.kind, .int .i64 c.c.id, .int .i64 c.c.kind, .slice c.c.af c.c.nf c.c.cf, .slice c.c.ap c.c.np c.c.cp, .int .i64 c.c.par, .int .i64 c.c.r0, .int .i64 c.c.r1, .int .i64 c.c.r2, .int .i64 c.c.r3, .int .i64 c.c.r4, .int .i64 c.c.r5, .int .i64 c.c.r6, .int .i64 c.c.r7, .bool c.reset], .agg #[.int .i64 d.kind, .int .i64 d.c.id, .int .i64 d.c.kind, .slice d.c.af d.c.nf d.c.cf, .slice d.c.ap d.c.np d.c.cp, .int .i64 d.c.par, .int .i64 d.c.r0, .int .i64 d.c.r1, .int .i64 d.c.r2, .int .i64 d.c.r3, .int .i64 d.c.r4, .int .i64 d.c.r5, .int .i64 d.c.r6, .int .i64 d.c.r7, .bool d.reset]] w (Gives (.bool (sameSt s t)) w) := packSame_any c d s t w hn hm hs ht
theorem eqSt_true {s t : Gr.Stp} : eqSt s t = true ↔ s = t := by unfold eqSt; simp only [decide_eq_true_eq]
theorem same_iff (l m : List Gr.Stp) : eqBy sameSt l m = true ↔ l.map Gr.cleanS = m.map Gr.cleanS := by
  rw [eqBy_iff]
  constructor
  · rintro ⟨h1, h2⟩
    refine List.ext_getElem (by simpa using h1) fun i hi hi2 => ?_
    simp only [List.getElem_map]
    exact eqSt_true.1 (h2 i (by simpa using hi) (by simpa using hi2))
  · intro h
    have hl : l.length = m.length := by have := congrArg List.length h; simpa using this
    refine ⟨hl, fun i hi hi2 => eqSt_true.2 ?_⟩
    have h1 : (l.map Gr.cleanS)[i]? = (m.map Gr.cleanS)[i]? := by rw [h]
    rw [List.getElem?_map, List.getElem?_map, List.getElem?_eq_getElem hi, List.getElem?_eq_getElem hi2] at h1
    simpa using h1
theorem exact_iff (l m : List Gr.Stp) : eqBy eqSt l m = true ↔ l = m := by
  rw [eqBy_iff]
  constructor
  · rintro ⟨h1, h2⟩
    exact List.ext_getElem h1 fun i hi hi2 => eqSt_true.1 (h2 i hi hi2)
  · rintro rfl
    exact ⟨rfl, fun i _ _ => eqSt_true.2 rfl⟩
set_option maxHeartbeats 8000000 in
theorem eqFnSame_any (v u : Value) (l m : List Gr.Stp) (w : World) (hv : StepsAt w v l) (hu : StepsAt w u m) (hs : ∀ s ∈ l, s.nd.frm.length ≤ 1000 ∧ s.nd.prog.length ≤ 1000) (ht : ∀ s ∈ m, s.nd.frm.length ≤ 1000 ∧ s.nd.prog.length ≤ 1000) : Calls Tryz.prog 72 #[v, u, .func (.func 86) #[] #[]] w (Gives (.bool (eqBy sameSt l m)) w) := by
  have HV := Lib.hid hv
  have HU := Lib.hid hu
  have HSS := Lib.hid hs
  have HTT := Lib.hid ht
  obtain ⟨a, cap, rfl, hm, -⟩ := hv.openC
  obtain ⟨a2, cap2, rfl, hm2, -⟩ := hu.openC
  clear hv hu hs ht
  by_cases hlen : l.length = m.length
  · have hD2 : ((l.length : Int) != (m.length : Int)) = false := by rw [hlen]; simp
    have HLEN := Lib.hid hlen
    clear hlen
    go_enter Tryz.func72, Tryz.ntmps72
    go_wp2
    go_loopg [17] l.length (fun gg s17 wr => ∃ g : Nat, g ≤ l.length ∧ l.length - g ≤ gg ∧ s17 = .int .i64 g ∧ Hid (Grew w wr) ∧ Hid (UptoBy sameSt l m g))
    case atStart => exact ⟨0, by omega, by omega, rfl, Lib.hid (by repeat (first | with_reducible exact Grew.refl _ | apply Grew.more | apply Grew.alloc | apply Grew.drew | apply Grew.drewN)), Lib.hid fun i _ _ h => by omega⟩
    case round =>
      obtain ⟨g, hg8, hgg, rfl, HGR, HNO⟩ := hrel
      by_cases hlt : g < l.length
      · have hlt2 : g < m.length := by have := HLEN.out; omega
        obtain ⟨av, cv, e, -, hx⟩ := (HV.out.grew HGR.out).openC
        cases e
        obtain ⟨av2, cv2, e, -, hx2⟩ := (HU.out.grew HGR.out).openC
        cases e
        obtain ⟨b, off, c, rfl, hb, hn, c0, c1, c2, c3, c4, c5, c6, c7, c8, c9, c10, c11, c12, c13, c14⟩ := hx g hlt
        obtain ⟨b2, off2, d, rfl, hb2, hn2, d0, d1, d2, d3, d4, d5, d6, d7, d8, d9, d10, d11, d12, d13, d14⟩ := hx2 g hlt2
        have HS := Lib.hid fun h => HNO.out.succ hlt hlt2 h
        have HF := Lib.hid fun h => eqBy_no sameSt hlt hlt2 h
        have hy := HSS.out _ (List.getElem_mem hlt)
        have hz := HTT.out _ (List.getElem_mem hlt2)
        clear hx hx2
        generalize l[g] = y at *
        generalize m[g] = z at *
        have HA := Lib.hid fun W (g : Grew wr W) => packSameS_any c d y z W (hn.grew g) (hn2.grew g) hy hz
        obtain ⟨kd, rs, cid, kind, af, cf, ap, cp, par, r0, r1, r2, r3, r4, r5, r6, r7, rfl⟩ := hn.lit
        obtain ⟨kd2, rs2, cid2, kind2, af2, cf2, ap2, cp2, par2, s0, s1, s2, s3, s4, s5, s6, s7, rfl⟩ := hn2.lit
        simp only at c0 c1 c2 c3 c4 c5 c6 c7 c8 c9 c10 c11 c12 c13 c14 d0 d1 d2 d3 d4 d5 d6 d7 d8 d9 d10 d11 d12 d13 d14
        clear hn hn2 hy hz
        cases hq : sameSt y z
        · have HQ := Lib.hid hq
          have HFIN := Lib.hid (HF.out hq)
          clear hq
          go_wp2_with (go_at_call 86; refine (HA.out _ (by repeat (first | with_reducible exact Grew.refl _ | apply Grew.more | apply Grew.alloc | apply Grew.drew | apply Grew.drewN))).mono ?_; rintro e w1 ⟨rfl, R1, n1, rfl⟩; rw [HQ.out])
          go_ret
          exact ⟨by rw [HFIN.out]; rfl, HGR.out.trans (by repeat (first | with_reducible exact Grew.refl _ | apply Grew.more | apply Grew.alloc | apply Grew.drew | apply Grew.drewN))⟩
        · have HQ := Lib.hid hq
          have HS2 := Lib.hid (HS.out hq)
          clear hq
          go_wp2_with (go_at_call 86; refine (HA.out _ (by repeat (first | with_reducible exact Grew.refl _ | apply Grew.more | apply Grew.alloc | apply Grew.drew | apply Grew.drewN))).mono ?_; rintro e w1 ⟨rfl, R1, n1, rfl⟩; rw [HQ.out])
          go_roundg (l.length - (g + 1))
          case measure => omega
          case rel => exact ⟨g + 1, by omega, by omega, by go_num, Lib.hid (HGR.out.trans (by repeat (first | with_reducible exact Grew.refl _ | apply Grew.more | apply Grew.alloc | apply Grew.drew | apply Grew.drewN))), HS2⟩
      · obtain rfl : g = l.length := by omega
        have HFIN := Lib.hid (HNO.out.eqBy HLEN.out)
        go_wp2
        go_ret
        exact ⟨by rw [HFIN.out]; rfl, HGR.out⟩
  · have hD2 : ((l.length : Int) != (m.length : Int)) = true := by rw [bne_iff_ne]; omega
    have HFIN := Lib.hid (eqBy_len sameSt hlen)
    clear hlen
    go_enter Tryz.func72, Tryz.ntmps72
    go_wp2
    go_ret
    exact ⟨by rw [HFIN.out]; rfl, by repeat (first | with_reducible exact Grew.refl _ | apply Grew.more | apply Grew.alloc | apply Grew.drew | apply Grew.drewN)⟩
set_option maxHeartbeats 8000000 in
theorem eqFnExact_any (v u : Value) (l m : List Gr.Stp) (w : World) (hv : StepsAt w v l) (hu : StepsAt w u m) (hs : ∀ s ∈ l, s.nd.frm.length ≤ 1000 ∧ s.nd.prog.length ≤ 1000) (ht : ∀ s ∈ m, s.nd.frm.length ≤ 1000 ∧ s.nd.prog.length ≤ 1000) : Calls Tryz.prog 72 #[v, u, .func (.func 48) #[] #[]] w (Gives (.bool (eqBy eqSt l m)) w) := by
  have HV := Lib.hid hv
  have HU := Lib.hid hu
  have HSS := Lib.hid hs
  have HTT := Lib.hid ht
  obtain ⟨a, cap, rfl, hm, -⟩ := hv.openC
  obtain ⟨a2, cap2, rfl, hm2, -⟩ := hu.openC
  clear hv hu hs ht
  by_cases hlen : l.length = m.length
  · have hD2 : ((l.length : Int) != (m.length : Int)) = false := by rw [hlen]; simp
    have HLEN := Lib.hid hlen
    clear hlen
    go_enter Tryz.func72, Tryz.ntmps72
    go_wp2
    go_loopg [17] l.length (fun gg s17 wr => ∃ g : Nat, g ≤ l.length ∧ l.length - g ≤ gg ∧ s17 = .int .i64 g ∧ Hid (Grew w wr) ∧ Hid (UptoBy eqSt l m g))
    case atStart => exact ⟨0, by omega, by omega, rfl, Lib.hid (by repeat (first | with_reducible exact Grew.refl _ | apply Grew.more | apply Grew.alloc | apply Grew.drew | apply Grew.drewN)), Lib.hid fun i _ _ h => by omega⟩
    case round =>
      obtain ⟨g, hg8, hgg, rfl, HGR, HNO⟩ := hrel
      by_cases hlt : g < l.length
      · have hlt2 : g < m.length := by have := HLEN.out; omega
        obtain ⟨av, cv, e, -, hx⟩ := (HV.out.grew HGR.out).openC
        cases e
        obtain ⟨av2, cv2, e, -, hx2⟩ := (HU.out.grew HGR.out).openC
        cases e
        obtain ⟨b, off, c, rfl, hb, hn, c0, c1, c2, c3, c4, c5, c6, c7, c8, c9, c10, c11, c12, c13, c14⟩ := hx g hlt
        obtain ⟨b2, off2, d, rfl, hb2, hn2, d0, d1, d2, d3, d4, d5, d6, d7, d8, d9, d10, d11, d12, d13, d14⟩ := hx2 g hlt2
        have HS := Lib.hid fun h => HNO.out.succ hlt hlt2 h
        have HF := Lib.hid fun h => eqBy_no eqSt hlt hlt2 h
        have hy := HSS.out _ (List.getElem_mem hlt)
        have hz := HTT.out _ (List.getElem_mem hlt2)
        clear hx hx2
        generalize l[g] = y at *
        generalize m[g] = z at *
        have HA := Lib.hid fun W (g : Grew wr W) => exact_any c d y z W (hn.grew g) (hn2.grew g) hy hz
        obtain ⟨kd, rs, cid, kind, af, cf, ap, cp, par, r0, r1, r2, r3, r4, r5, r6, r7, rfl⟩ := hn.lit
        obtain ⟨kd2, rs2, cid2, kind2, af2, cf2, ap2, cp2, par2, s0, s1, s2, s3, s4, s5, s6, s7, rfl⟩ := hn2.lit
        simp only at c0 c1 c2 c3 c4 c5 c6 c7 c8 c9 c10 c11 c12 c13 c14 d0 d1 d2 d3 d4 d5 d6 d7 d8 d9 d10 d11 d12 d13 d14
        clear hn hn2 hy hz
        cases hq : eqSt y z
        · have HQ := Lib.hid hq
          have HFIN := Lib.hid (HF.out hq)
          clear hq
          go_wp2_with (go_at_call 48; refine (HA.out _ (by repeat (first | with_reducible exact Grew.refl _ | apply Grew.more | apply Grew.alloc | apply Grew.drew | apply Grew.drewN))).mono ?_; rintro e w1 ⟨rfl, R1, n1, rfl⟩; rw [HQ.out])
          go_ret
          exact ⟨by rw [HFIN.out]; rfl, HGR.out.trans (by repeat (first | with_reducible exact Grew.refl _ | apply Grew.more | apply Grew.alloc | apply Grew.drew | apply Grew.drewN))⟩
        · have HQ := Lib.hid hq
          have HS2 := Lib.hid (HS.out hq)
          clear hq
          go_wp2_with (go_at_call 48; refine (HA.out _ (by repeat (first | with_reducible exact Grew.refl _ | apply Grew.more | apply Grew.alloc | apply Grew.drew | apply Grew.drewN))).mono ?_; rintro e w1 ⟨rfl, R1, n1, rfl⟩; rw [HQ.out])
          go_roundg (l.length - (g + 1))
          case measure => omega
          case rel => exact ⟨g + 1, by omega, by omega, by go_num, Lib.hid (HGR.out.trans (by repeat (first | with_reducible exact Grew.refl _ | apply Grew.more | apply Grew.alloc | apply Grew.drew | apply Grew.drewN))), HS2⟩
      · obtain rfl : g = l.length := by omega
        have HFIN := Lib.hid (HNO.out.eqBy HLEN.out)
        go_wp2
        go_ret
        exact ⟨by rw [HFIN.out]; rfl, HGR.out⟩
  · have hD2 : ((l.length : Int) != (m.length : Int)) = true := by rw [bne_iff_ne]; omega
    have HFIN := Lib.hid (eqBy_len eqSt hlen)
    clear hlen
    go_enter Tryz.func72, Tryz.ntmps72
    go_wp2
    go_ret
    exact ⟨by rw [HFIN.out]; rfl, by repeat (first | with_reducible exact Grew.refl _ | apply Grew.more | apply Grew.alloc | apply Grew.drew | apply Grew.drewN)⟩
set_option maxHeartbeats 8000000 in
theorem kept_any (v : Value) (p : List Gr.Stp) (t : List UInt8) (w : World) (hv : StepsAt w v p) (hs : ∀ s ∈ p, s.nd.frm.length ≤ 1000 ∧ s.nd.prog.length ≤ 1000) (ht : t.length ≤ 100000) : Calls Tryz.prog 44 #[v, .string ⟨t.toArray⟩] w (Gives (.bool (eqBy sameSt p (Gr.getPl getL t).1)) w) := by
  have HV := Lib.hid hv
  have HS := Lib.hid hs
  have HG := Lib.hid fun W => getPlan_any t W ht
  have HT := Lib.hid (getPl_small t)
  obtain ⟨a, cap, rfl, hm, -⟩ := hv.openC
  clear hv hs
  generalize Gr.getPl getL t = r at *
  obtain ⟨q, er⟩ := r
  simp only at HG HT ⊢
  go_enter Tryz.func44, Tryz.ntmps44
  go_wp2_with (first
    | (go_at_call 18; refine (HG.out _).mono ?_; rintro e w1 ⟨v1, rfl, h1, hg1⟩; simp only at h1; obtain ⟨a1, cap1, rfl, hm1, -⟩ := h1.openC; (have H1 := Lib.hid h1); obtain ⟨R1, n1, rfl⟩ := hg1; clear h1)
    | (go_at_call 72; refine (eqFnSame_any _ _ p q _ (HV.out.grew (by repeat (first | with_reducible exact Grew.refl _ | apply Grew.more | apply Grew.alloc | apply Grew.drew | apply Grew.drewN))) (H1.out.grew (by repeat (first | with_reducible exact Grew.refl _ | apply Grew.more | apply Grew.alloc | apply Grew.drew | apply Grew.drewN))) HS.out HT.out).mono ?_; rintro e w1 ⟨rfl, R2, n2, rfl⟩))
  go_ret
  refine ⟨rfl, ?_⟩
  repeat (first | with_reducible exact Grew.refl _ | apply Grew.more | apply Grew.alloc | apply Grew.drew | apply Grew.drewN)
end Go.Proofs.YtangapokicnfgaaGreat

/-! What the library's sorts leave of a slice of one's own, whatever its elements. -/
namespace Go.Proofs.YtangapokicnfgaaGreat
set_option linter.unusedSimpArgs false
set_option linter.unusedVariables false
open Go.RowKit Ga
set_option maxRecDepth 100000

section
variable {α : Type} [Inhabited α] {enc : α → List Value} {k : Nat} {e : TypeId}
theorem flat_flatKG (henc : ∀ x, (enc x).length = k) (hk : 0 < k) (lc : List α) (j : Nat) (hj : j < lc.length * k) : (lc.flatMap enc)[j]? = some ((Sort.flatK enc k lc.toArray)[j]!) := by
  have hi : j / k < lc.length := Nat.div_lt_of_lt_mul (by rw [Nat.mul_comm]; exact hj)
  rw [Sort.get_flatK enc k lc.toArray j (by simpa using hj)]
  have e1 : lc.toArray[j / k]! = lc[j / k] := by rw [getElem!_pos lc.toArray (j / k) (by simpa using hi)]; simp
  rw [e1]
  have hm : j % k < (enc lc[j / k]).length := by rw [henc]; exact Nat.mod_lt _ hk
  have h2 : (enc lc[j / k])[j % k]? = some ((enc lc[j / k])[j % k]!) := by rw [List.getElem?_eq_getElem hm, getElem!_pos (enc lc[j / k]) (j % k) hm]
  have h3 := flat_get henc lc (j / k) lc[j / k] (List.getElem?_eq_getElem hi) (j % k) _ h2
  rw [show j / k * k + j % k = j from by rw [Nat.mul_comm]; exact Nat.div_add_mod j k] at h3
  exact h3
theorem own_holdsKG (henc : ∀ x, (enc x).length = k) (hk : 0 < k) {base : Nat} {W : World} {b cap n : Nat} {lc : List α} (h : OwnAt base e k enc W (.slice (some ⟨b, 0, none⟩) n cap) lc) : Sort.HoldsK enc k W b 0 lc.toArray ∧ base ≤ b ∧ b < W.heap.size := by
  obtain ⟨h1, h2⟩ := h
  rcases h2 with ⟨h, _⟩ | ⟨g, cap', cur, hv, hb, hh, hc, hm, hs, ht⟩
  · cases h
  · cases hv
    refine ⟨fun j hj => ?_, hb, (Array.getElem?_eq_some_iff.1 hh).1⟩
    rw [Sort.size_flatK] at hj
    have hj' : j < lc.length * k := by simpa using hj
    rw [Nat.zero_add, cell_of_heap hh, frozen_of_heap hh]
    refine ⟨?_, rfl⟩
    have h3 := flat_flatKG henc hk lc j hj'
    rw [← ht, List.getElem?_take, if_pos hj'] at h3
    simpa using h3
theorem own_ofSortG (henc : ∀ x, (enc x).length = k) (hk : 0 < k) {base : Nat} {W : World} {b cap n m : Nat} {lc lc' : List α} {os : Array Obj} (h : OwnAt base e k enc W (.slice (some ⟨b, 0, none⟩) n cap) lc) (hl : lc'.length = lc.length) :
    OwnAt base e k enc (Go.Proofs.sortWorldK enc k W b 0 m lc'.toArray os) (.slice (some ⟨b, 0, none⟩) n cap) lc' ∧ (∀ q, q < W.heap.size → q ≠ b → (Go.Proofs.sortWorldK enc k W b 0 m lc'.toArray os).heap[q]? = W.heap[q]?) ∧ W.heap.size ≤ (Go.Proofs.sortWorldK enc k W b 0 m lc'.toArray os).heap.size := by
  obtain ⟨h1, h2⟩ := h
  rcases h2 with ⟨h, _⟩ | ⟨g, cap', cur, hv, hb, hh, hc, hm, hs, ht⟩
  · cases h
  · cases hv
    have hblk : b < W.heap.size := (Array.getElem?_eq_some_iff.1 hh).1
    have hat : ∀ q, q < W.heap.size → (Go.Proofs.sortWorldK enc k W b 0 m lc'.toArray os).heap[q]? = (Sort.putRowK enc k (Sort.ahead W m) b 0 lc'.toArray).heap[q]? := by
      intro q hq
      unfold sortWorldK Sort.grow
      simp only
      rw [Array.getElem?_append_left]
      show q < (Sort.putRow id _ _ _ _).heap.size
      rw [Sort.size_putRow]
      exact hq
    have hself : (Go.Proofs.sortWorldK enc k W b 0 m lc'.toArray os).heap[b]? = some (.cells (Sort.putCells id 0 (Sort.flatK enc k lc'.toArray) cur) e) := by
      rw [hat b hblk]
      unfold Sort.putRowK Sort.putRow Sort.mapBlock
      simp only [Array.getElem?_modify, if_true]
      rw [show (Sort.ahead W m).heap = W.heap from rfl]
      have hh' : W.heap[b]? = some (.cells cur e) := hh
      rw [hh']
      rfl
    have hps : (Sort.putCells id 0 (Sort.flatK enc k lc'.toArray) cur).size = cur.size := by unfold Sort.putCells; rw [Array.size_mapIdx]
    refine ⟨⟨by rw [flat_length henc], .inr ⟨b, cap, _, by rw [hl], hb, hself, by rw [hl]; exact hc, hm, by rw [hps]; exact hs, ?_⟩⟩, fun q hq hne => ?_, ?_⟩
    · refine List.ext_getElem? fun j => ?_
      by_cases hj : j < lc'.length * k
      · rw [List.getElem?_take, if_pos hj, flat_flatKG henc hk lc' j hj]
        have hjc : j < cur.size := by
          rw [hs]
          exact Nat.lt_of_lt_of_le hj (Nat.mul_le_mul_right k (by rw [hl]; exact hc))
        unfold Sort.putCells
        rw [Array.getElem?_toList, Array.getElem?_mapIdx, Array.getElem?_eq_getElem hjc]
        simp only [Option.map_some, Nat.zero_le, true_and, Nat.zero_add, Sort.size_flatK, Nat.sub_zero, id]
        rw [if_pos (by simpa using hj)]
      · rw [List.getElem?_take, if_neg hj, List.getElem?_eq_none (by rw [flat_length henc]; omega)]
    · rw [hat q hq]
      unfold Sort.putRowK Sort.putRow Sort.mapBlock
      simp only [Array.getElem?_modify]
      rw [if_neg (fun e => hne e.symm)]
      rfl
    · unfold sortWorldK Sort.grow Sort.putRowK
      simp only [Array.size_append, Sort.size_putRow]
      exact Nat.le_add_right _ _
end
end Go.Proofs.YtangapokicnfgaaGreat
