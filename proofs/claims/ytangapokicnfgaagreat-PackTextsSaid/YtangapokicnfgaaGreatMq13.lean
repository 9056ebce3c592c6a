import Derived.Test.YtangapokicnfgaaGreatMq12
import Derived.Test.YtangapokicnfgaaGreatMq7
import Derived.Test.YtangapokicnfgaaGreatMq3
/-! A graph as bytes: what is put is got, and what is got was put: plain laws. -/
namespace Gr
open Oc (be bes)
set_option linter.unusedSimpArgs false
set_option linter.unusedVariables false

/-- a right graph's bytes -/
def putG (pp : List Vm.Ins → List UInt8) (l : List Nd) : List UInt8 := be l.length ++ (normG l).flatMap (putNd pp)
def sortedG (l : List Nd) : Prop := l.Pairwise fun a b => a.id ≤ b.id
/-- all nodes that bytes begin with -/
def graphS (gp : List UInt8 → List Vm.Ins × Int × List UInt8) (s : List UInt8) : List Nd × Rs := nodesS gp 1 (numS 0 8 (s, 0)).1.toNat (numS 0 8 (s, 0)).2
open Classical in
noncomputable def getG (gp : List UInt8 → List Vm.Ins × Int × List UInt8) (s : List UInt8) : List Nd × Int :=
  if (graphS gp s).2.2 ≠ 0 then ([], (graphS gp s).2.2)
  else if 0 < (graphS gp s).2.1.length ∨ ¬ sortedG (graphS gp s).1 then ([], 4)
  else if RightR (graphS gp s).1 then ((graphS gp s).1, 0) else ([], 10)
section
variable {gp : List UInt8 → List Vm.Ins × Int × List UInt8} {pp : List Vm.Ins → List UInt8} {fits : List Vm.Ins → Prop}
theorem RightR.ids {l : List Nd} (h : RightR l) : (ids l).Nodup := ids_nodup.1 fun i n hn => (h.ok i n hn).fst
theorem RightR.at {l : List Nd} (h : RightR l) {n : Nd} (hn : n ∈ l) : ∃ i, OkR l i n := by
  obtain ⟨i, hi, e⟩ := List.mem_iff_getElem.1 hn
  exact ⟨i, h.ok i n (by rw [List.getElem?_eq_getElem hi, e])⟩
theorem RightR.r7 {l : List Nd} (h : RightR l) : ∀ n ∈ l, 0 ≤ n.id ∧ n.id ≤ 7 := fun n hn => by
  obtain ⟨i, hr⟩ := h.at hn
  exact ⟨hr.id0, hr.id7⟩
theorem RightR.okB {l : List Nd} (h : RightR l) (h0 : fits []) (hs : ∀ p, Vm.safe p = true → fits p) (hl : ∀ n ∈ l, n.route.length = 8) : ∀ n ∈ l, OkB fits 1 n := fun n hn => by
  obtain ⟨i, hr⟩ := h.at hn
  refine ⟨⟨hr.id0, hr.id7⟩, ⟨hr.kd0, hr.kd2⟩, hr.fr3, fun x hx => ?_, ?_, ⟨hr.pr1, hr.pr3⟩, hl n hn, fun x hx => ?_⟩
  · obtain ⟨k, hk, e⟩ := List.mem_iff_getElem.1 hx
    obtain ⟨⟨j, m, h1, h2, -⟩, -⟩ := hr.fr k x (by rw [List.getElem?_eq_getElem hk, e])
    obtain ⟨m', h3, h4⟩ := find_some h1
    rw [h2] at h3
    cases h3
    rw [← h4]
    exact h.r7 m (List.mem_of_getElem? h2)
  · by_cases e : n.kind = 1
    · exact hs _ (hr.p1 e)
    · rw [List.length_eq_zero_iff.1 (hr.p0 e)]
      exact h0
  · have := hr.rt x hx
    have := hr.pr3
    omega
/-- the same nodes in another order are right too -/
theorem RightR.perm {l l' : List Nd} (hp : l.Perm l') (h : RightR l) : RightR l' := by
  have hq := (right_iff hp).1 h
  refine (right_iff (List.Perm.refl l')).2 ⟨by rw [← hp.length_eq]; exact hq.len, fun n hn => ?_, (perm_ids hp).nodup_iff.1 hq.un, (perm_ids hp).mem_iff.1 hq.z, by rw [← hp.length_eq, hp.length_eq]; exact hq.so.trans hp.length_eq⟩
  have ho := hq.ok n (hp.mem_iff.2 hn)
  refine ⟨ho.id0, ho.id7, ho.kd, ho.pr1, ho.pr3, ho.rt, fun f hf => ?_⟩
  obtain ⟨j, m, h1, h2, h3⟩ := ho.fr f hf
  have hb := bind_perm hp hq.un f
  rw [h1, Option.bind_some, h2] at hb
  cases hf' : find l' f with
  | none => rw [hf'] at hb; cases hb
  | some j' =>
    rw [hf', Option.bind_some] at hb
    exact ⟨j', m, rfl, hb.symm, h3⟩
theorem norm_self {l : List Nd} (hs : sortedG l) (hu : (ids l).Nodup) (h7 : ∀ n ∈ l, 0 ≤ n.id ∧ n.id ≤ 7) : normG l = l := (norm_unique (List.Perm.refl l) hs hu h7).symm
/-- the document's 'the same graph' -/
theorem same_norm {l : List Nd} (h : RightR l) : (normG l).length = l.length ∧ ∀ n ∈ l, nodeOf (normG l) n.id = some n := by
  have hp := normG_perm h.ids h.r7
  exact ⟨hp.length_eq, fun n hn => bind_find ((perm_ids hp.symm).nodup_iff.1 h.ids) (hp.mem_iff.2 hn)⟩
/-- what is put is got -/
theorem getG_put (hc : Codec gp pp fits) (h0 : fits []) (hs : ∀ p, Vm.safe p = true → fits p) {l : List Nd} (h : RightR l) (hl : ∀ n ∈ l, n.route.length = 8) : getG gp (putG pp l) = (normG l, 0) := by
  have hp := normG_perm h.ids h.r7
  have hok : ∀ n ∈ normG l, OkB fits 1 n := fun n hn => h.okB h0 hs hl n (hp.mem_iff.1 hn)
  have h8 := h.len
  have h1 : graphS gp (putG pp l) = (normG l, ([], 0)) := by
    unfold graphS putG
    rw [numS_put (by omega) (by omega) (by unfold Oc.fitsN; simp; omega)]
    simp only [Int.toNat_natCast]
    have := nodesS_put hc (lp := 1) (by decide) (normG l) [] hok
    rw [List.append_nil, hp.length_eq] at this
    exact this
  unfold getG
  rw [h1]
  simp only
  rw [if_neg (by simp), if_neg (by simp; exact (normG_sorted l).imp fun h => by omega), if_pos (h.perm hp.symm)]
/-- what is got was put, and is right -/
theorem getG_can (hc : Codec gp pp fits) {s : List UInt8} {m : List Nd} (h : getG gp s = (m, 0)) : RightR m ∧ putG pp m = s ∧ sortedG m ∧ ∀ n ∈ m, n.route.length = 8 := by
  unfold getG at h
  by_cases h1 : (graphS gp s).2.2 = 0
  · rw [if_neg (by simpa using h1)] at h
    by_cases h2 : 0 < (graphS gp s).2.1.length ∨ ¬ sortedG (graphS gp s).1
    · rw [if_pos h2] at h
      simp at h
    · rw [if_neg h2] at h
      by_cases h3 : RightR (graphS gp s).1
      · rw [if_pos h3] at h
        simp only [Prod.mk.injEq, and_true] at h
        have hso : sortedG m := by
          rw [← h]
          exact Classical.not_not.1 fun q => h2 (.inr q)
        have hnil : (graphS gp s).2.1 = [] := List.length_eq_zero_iff.1 (by omega)
        rw [h] at h3
        have hg : graphS gp s = (m, ([], 0)) := by
          generalize graphS gp s = g at *
          obtain ⟨a, b, c⟩ := g
          simp only at h h1 hnil
          subst h h1 hnil
          rfl
        unfold graphS at hg
        obtain ⟨i1, i2, i3, i4⟩ := nodesS_can hc _ hg
        obtain ⟨n1, n2, n3, n4⟩ := numS_can (eta (numS 0 8 (s, 0)) i1)
        refine ⟨h3, ?_, hso, fun n hn => (i4 n hn).ol⟩
        unfold putG
        have e1 : (numS 0 8 (s, 0)).2.1 = m.flatMap (putNd pp) := by rw [i2, List.append_nil]
        rw [norm_self hso h3.ids h3.r7, ← e1, show ((m.length : Nat) : Int) = (numS 0 8 (s, 0)).1 by omega]
        exact n2.symm
      · rw [if_neg h3] at h
        simp at h
  · rw [if_pos (by simpa using h1)] at h
    simp only [Prod.mk.injEq] at h
    exact absurd h.2 h1
theorem getG_bad {s : List UInt8} (h : (getG gp s).2 ≠ 0) : (getG gp s).1 = [] := by
  unfold getG at *
  split
  · rfl
  · split
    · rfl
    · split
      · rename_i h1 h2 h3
        rw [if_neg h1, if_neg h2, if_pos h3] at h
        exact absurd rfl h
      · rfl
end
end Gr

/-! graph.Find; the predicates route$1, sort$1, sort$2, node$1. -/
namespace Go.Proofs.YtangapokicnfgaaGreat
set_option linter.unusedSimpArgs false
set_option linter.unusedVariables false
open Go.RowKit Ga
set_option maxRecDepth 100000

theorem enters95 : ∀ args w, (callFunc 95 args).run Tryz.prog w = .ok (.enter 95 args) w := enters_of Tryz.func95 (by kernel_rfl) rfl
theorem find1_pred (id : Int) (B : Nat) (w : World) (hB : Pre B w) (hc : w.cell? ⟨B, 0, none⟩ = some (.int .i64 id)) : PredN 95 #[.pointer (some ⟨B, 0, none⟩)] (fun n => n.id == id) w := by
  intro W c n g hn
  obtain ⟨R, N, rfl⟩ := g
  have hid := hn.id
  have HI := Lib.hid hid
  clear hn hid
  obtain ⟨cid, kind, af, nf, cf, ap, np, cp, par, r0, r1, r2, r3, r4, r5, r6, r7⟩ := c
  have hb : (n.id == id) = (cid == id) := by rw [HI.out]
  show Calls Tryz.prog 95 #[.agg #[.int .i64 cid, .int .i64 kind, .slice af nf cf, .slice ap np cp, .int .i64 par, .int .i64 r0, .int .i64 r1, .int .i64 r2, .int .i64 r3, .int .i64 r4, .int .i64 r5, .int .i64 r6, .int .i64 r7], .pointer (some ⟨B, 0, none⟩)] _ (Gives (.bool (n.id == id)) _)
  rw [hb]
  clear HI hb
  go_enter Tryz.func95, Tryz.ntmps95
  go_wp2
  go_ret
  refine ⟨rfl, ?_⟩
  repeat (first | with_reducible exact Grew.refl _ | apply Grew.more | apply Grew.alloc | apply Grew.drew | apply Grew.drewN)
theorem find_idxP (l : List Gr.Nd) (id : Int) : idxP (fun n : Gr.Nd => n.id == id) l = findI l id := rfl

def GivesFind (r : Option Gr.Nd) (w : World) (e : Ending) (w' : World) : Prop := match r with
  | some n => ∃ c : NdC, e = .returned (.tuple #[.agg #[.int .i64 c.id, .int .i64 c.kind, .slice c.af c.nf c.cf, .slice c.ap c.np c.cp, .int .i64 c.par, .int .i64 c.r0, .int .i64 c.r1, .int .i64 c.r2, .int .i64 c.r3, .int .i64 c.r4, .int .i64 c.r5, .int .i64 c.r6, .int .i64 c.r7], .bool true]) ∧ NodeIs w' c n ∧ OwnsNd w.heap.size w' c n ∧ Grew w w'
  | none => e = .returned (.tuple #[.agg #[.int .i64 0, .int .i64 0, .slice none 0 0, .slice none 0 0, .int .i64 0, .int .i64 0, .int .i64 0, .int .i64 0, .int .i64 0, .int .i64 0, .int .i64 0, .int .i64 0, .int .i64 0], .bool false]) ∧ Grew w w'
theorem find_made {w w' w1 : World} (c : NdC) {n : Gr.Nd} (h : NodeIs w1 c n) (o : OwnsNd w.heap.size w' c n) (g : Grew w w') : GivesFind (some n) w (.returned (.tuple #[.agg #[.int .i64 c.id, .int .i64 c.kind, .slice c.af c.nf c.cf, .slice c.ap c.np c.cp, .int .i64 c.par, .int .i64 c.r0, .int .i64 c.r1, .int .i64 c.r2, .int .i64 c.r3, .int .i64 c.r4, .int .i64 c.r5, .int .i64 c.r6, .int .i64 c.r7], .bool true])) w' :=
  ⟨c, rfl, o.is h, o, g⟩
/-- nodes that are not too great -/
def Small (l : List Gr.Nd) : Prop := ∀ n ∈ l, n.frm.length ≤ 1000 ∧ n.prog.length ≤ 1000
set_option maxHeartbeats 4000000 in
theorem find_any (v : Value) (l : List Gr.Nd) (id : Int) (w : World) (hv : NodesAt w v l) (hs : Small l) : Calls Tryz.prog 56 #[v, .int .i64 id] w (GivesFind (Gr.nodeOf l id) w) := by
  have HV := Lib.hid hv
  have HS := Lib.hid hs
  have hI := fun W (g : Grew w W) (B : Nat) (hB : Pre B W) (hc : W.cell? ⟨B, 0, none⟩ = some (.int .i64 id)) => indexNodes_any v l 95 #[.pointer (some ⟨B, 0, none⟩)] (fun n => n.id == id) W (HV.out.grew g) enters95 (find1_pred id B W hB hc)
  have HI := Lib.hid hI
  obtain ⟨a, cap, rfl, hm, -⟩ := hv.openC
  clear hv hs hI
  cases hf : Gr.find l id with
  | none =>
    have hi := findI_none hf
    have hr : Gr.nodeOf l id = none := by unfold Gr.nodeOf; rw [hf]; rfl
    rw [hr]
    have HF := Lib.hid hi
    clear hi hf hr
    go_enter Tryz.func56, Tryz.ntmps56
    go_wp2_with (go_at_call 94; (refine (HI.out _ (by repeat (first | with_reducible exact Grew.refl _ | apply Grew.more | apply Grew.alloc | apply Grew.drew | apply Grew.drewN)) w.heap.size (by simp [go_sem]) (by simp [go_sem])).mono ?_; rintro e w1 ⟨rfl, R3, n3, rfl⟩; rw [find_idxP, HF.out]))
    exact bodyPost_ret (v := .tuple #[.agg #[.int .i64 0, .int .i64 0, .slice none 0 0, .slice none 0 0, .int .i64 0, .int .i64 0, .int .i64 0, .int .i64 0, .int .i64 0, .int .i64 0, .int .i64 0, .int .i64 0, .int .i64 0], .bool false]) (by simp [results, Tryz.results56, go_sem]) rfl ⟨rfl, by repeat (first | with_reducible exact Grew.refl _ | apply Grew.more | apply Grew.alloc | apply Grew.drew | apply Grew.drewN)⟩
  | some i =>
    obtain ⟨hi, hil⟩ := findI_some hf
    have hr : Gr.nodeOf l id = some l[i] := by unfold Gr.nodeOf; rw [hf, Option.bind_some, List.getElem?_eq_getElem hil]
    rw [hr]
    have HF := Lib.hid hi
    have hi0 : decide ((i : Int) < 0) = false := decide_eq_false (by omega)
    obtain ⟨a', cap', e, -, hx⟩ := HV.out.openC
    cases e
    obtain ⟨b, off, c, rfl, hb, hn, c0, c1, c2, c3, c4, c5, c6, c7, c8, c9, c10, c11, c12⟩ := hx i hil
    obtain ⟨hs1, hs2⟩ := HS.out _ (List.getElem_mem hil)
    have HN := Lib.hid hn
    clear hi hf hr hx hn
    generalize l[i] = n at *
    have HO := Lib.hid fun W (g : Grew w W) => own_any c n W (HN.out.grew g) hs1 hs2
    obtain ⟨cid, kind, af, cf, ap, cp, par, r0, r1, r2, r3, r4, r5, r6, r7, rfl⟩ := HN.out.lit
    simp only at c0 c1 c2 c3 c4 c5 c6 c7 c8 c9 c10 c11 c12
    go_enter Tryz.func56, Tryz.ntmps56
    go_wp2_with (first
      | (go_at_call 94; refine (HI.out _ (by repeat (first | with_reducible exact Grew.refl _ | apply Grew.more | apply Grew.alloc | apply Grew.drew | apply Grew.drewN)) w.heap.size (by simp [go_sem]) (by simp [go_sem])).mono ?_; rintro e w1 ⟨rfl, R3, n3, rfl⟩; rw [find_idxP, HF.out])
      | (go_at_call 96; refine (HO.out _ (by repeat (first | with_reducible exact Grew.refl _ | apply Grew.more | apply Grew.alloc | apply Grew.drew | apply Grew.drewN))).mono ?_; rintro e w1 ⟨c9, rfl, hn9, ho9, R4, n4, rfl⟩; obtain ⟨cid9, kind9, af9, cf9, ap9, cp9, par9, s0, s1, s2, s3, s4, s5, s6, s7, rfl⟩ := hn9.lit; (have HN9 := Lib.hid hn9); (have HO9 := Lib.hid ho9); clear hn9 ho9))
    refine bodyPost_ret (v := .tuple #[.agg #[.int .i64 cid9, .int .i64 kind9, .slice af9 n.frm.length cf9, .slice ap9 n.prog.length cp9, .int .i64 par9, .int .i64 s0, .int .i64 s1, .int .i64 s2, .int .i64 s3, .int .i64 s4, .int .i64 s5, .int .i64 s6, .int .i64 s7], .bool true]) (by simp [results, Tryz.results56, go_sem]) rfl ?_
    exact find_made ⟨cid9, kind9, af9, n.frm.length, cf9, ap9, n.prog.length, cp9, par9, s0, s1, s2, s3, s4, s5, s6, s7⟩ HN9.out (OwnsNd.low (OwnsNd.to HO9.out fun b h1 h2 => heap_more_same (by simp [World.size_alloc, World.more_size]) R4 n4 b h1) (by simp [World.size_alloc, World.more_size]; omega)) (by repeat (first | with_reducible exact Grew.refl _ | apply Grew.more | apply Grew.alloc | apply Grew.drew | apply Grew.drewN))
end Go.Proofs.YtangapokicnfgaaGreat

/-! The contracts of package gauss, part two. -/
namespace Go.Proofs.YtangapokicnfgaaGreat
set_option linter.unusedSimpArgs false
set_option linter.unusedVariables false
open Go.RowKit Ga


theorem run_neg_float {P : Program} (k : FloatKind) (b : Nat) (w : World) : (Op.unary .neg (.float k b)).run P w = .ok (.float k (Op.negFloat k b)) w := rfl

theorem fl_zero : fl 0 = 0 := by decide +kernel
theorem fl_one : fl 1 = 4607182418800017408 := by decide +kernel



theorem order_eq (a b : Int) (ha : In a) (hb : In b) : (FloatKind.f64.format.order (fl a) (fl b) == some .eq) = decide (a = b) := by
  rw [show FloatKind.f64.format.order (fl a) (fl b) = some (compare a b) from Fl.Rep.order (fl_rep a (by omega)) (fl_rep b (by omega))]
  by_cases h : a = b
  · rw [decide_eq_true h, Int.compare_eq_eq.2 h]; rfl
  · rw [decide_eq_false h, beq_eq_false_iff_ne]
    intro hc
    exact h (Int.compare_eq_eq.1 (Option.some.inj hc))
theorem order_lt (a b : Int) (ha : In a) (hb : In b) : (FloatKind.f64.format.order (fl a) (fl b) == some .lt) = decide (a < b) := by
  rw [show FloatKind.f64.format.order (fl a) (fl b) = some (compare a b) from Fl.Rep.order (fl_rep a (by omega)) (fl_rep b (by omega))]
  by_cases h : a < b
  · rw [decide_eq_true h, Int.compare_eq_lt.2 h]; rfl
  · rw [decide_eq_false h, beq_eq_false_iff_ne]
    intro hc
    exact h (Int.compare_eq_lt.1 (Option.some.inj hc))


set_option maxHeartbeats 1000000 in
theorem right_any (a : Val) (w : World) : Calls Tryz.prog 97 #[vv a] w (Gives (.bool (rightV a)) w) := by
  obtain ⟨x, y⟩ := a
  have H : rightV (x, y) = (decide (into x = x) && decide (into y = y)) := by
    unfold rightV; simp only [eq_comm]
  by_cases h1 : into x = x <;> by_cases h2 : into y = y
  all_goals
    rw [H]
    simp only [h1, h2, decide_true, decide_false, Bool.and_true, Bool.and_false, Bool.and_self]
    clear H
    try (have h1' : ¬ x = into x := fun e => h1 e.symm)
    try (have h2' : ¬ y = into y := fun e => h2 e.symm)
    go_enter Tryz.func97, Tryz.ntmps97
    go_wp2
    refine wp_region_seq 8 Tryz.mixed (by kernel_rfl) (by kernel_rfl) ?_
    iterate 8
      apply Seq.val
      focus
        rintro w1 u ⟨R1, n1, rfl⟩ -
        simp [putFacts, Oper.deps, Region.binds, List.filter_cons, Region.dstOf, Fact.at, Act.put, World.more_drew]
        go_wp2_with (first
        | (go_at_call 120; refine (of_any _ _ _).mono ?_; rintro e w1 ⟨rfl, R1, n1, rfl⟩))
        exact ⟨by repeat (first | exact Grew.refl _ | apply Grew.more | apply Grew.alloc | apply Grew.drew), rfl, _, _, rfl, rfl, rfl⟩
    rintro u w1 ⟨R1, n1, rfl⟩ -
    simp [putFacts, Region.dstOf, Fact.at, Act.put, List.range_succ, World.more_drew]
    go_wp2
    go_ret
    exact ⟨rfl, by repeat (first | exact Grew.refl _ | apply Grew.more | apply Grew.alloc | apply Grew.drew)⟩


/-- Two numbers that an int may hold. -/
def okVal (a : Ga.Val) : Prop := (-9223372036854775808 ≤ a.1 ∧ a.1 ≤ 9223372036854775807) ∧ (-9223372036854775808 ≤ a.2 ∧ a.2 ≤ 9223372036854775807)
end Go.Proofs.YtangapokicnfgaaGreat
