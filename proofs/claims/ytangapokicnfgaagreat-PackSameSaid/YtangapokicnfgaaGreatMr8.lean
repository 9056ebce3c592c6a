import Derived.Test.YtangapokicnfgaaGreatMr7
import Derived.Test.YtangapokicnfgaaGreatMr3
/-! Graphs: the nodes by their numbers: whatever sorts them makes the list that the document writes. -/
namespace Gr
set_option linter.unusedSimpArgs false
set_option linter.unusedVariables false

def nodeOf (l : List Nd) (x : Int) : Option Nd := (find l x).bind fun i => l[i]?
theorem nodeOf_some {l : List Nd} {x : Int} {n : Nd} (h : nodeOf l x = some n) : n ∈ l ∧ n.id = x := by
  unfold nodeOf at h
  cases hf : find l x with
  | none => rw [hf] at h; cases h
  | some i =>
    rw [hf] at h
    obtain ⟨m, hm, e⟩ := find_some hf
    rw [Option.bind_some, hm] at h
    cases h
    exact ⟨List.mem_of_getElem? hm, e⟩
/-- the nodes by numbers -/
def normG (l : List Nd) : List Nd := (List.range 8).filterMap fun (i : Nat) => nodeOf l (i : Int)
theorem normG_sorted (l : List Nd) : (normG l).Pairwise fun a b => a.id < b.id := by
  unfold normG
  refine List.Pairwise.filterMap (R := fun a b => a < b) _ (fun a a' hlt b hb b' hb' => ?_) List.pairwise_lt_range
  rw [(nodeOf_some hb).2, (nodeOf_some hb').2]
  omega
theorem normG_mem {l : List Nd} (hu : (ids l).Nodup) (h7 : ∀ n ∈ l, 0 ≤ n.id ∧ n.id ≤ 7) (n : Nd) : n ∈ normG l ↔ n ∈ l := by
  unfold normG
  rw [List.mem_filterMap]
  constructor
  · rintro ⟨i, -, h⟩
    exact (nodeOf_some h).1
  · intro h
    have := h7 n h
    refine ⟨n.id.toNat, List.mem_range.2 (by omega), ?_⟩
    rw [Int.toNat_of_nonneg this.1]
    exact bind_find hu h
theorem nodup_of_ids {l : List Nd} (hu : (ids l).Nodup) : l.Nodup := by
  unfold ids at hu
  rw [List.Nodup, List.pairwise_map] at hu
  exact hu.imp fun h e => h (by rw [e])
theorem normG_perm {l : List Nd} (hu : (ids l).Nodup) (h7 : ∀ n ∈ l, 0 ≤ n.id ∧ n.id ≤ 7) : (normG l).Perm l :=
  (List.perm_ext_iff_of_nodup ((normG_sorted l).imp fun h e => by rw [e] at h; omega) (nodup_of_ids hu)).2 (normG_mem hu h7)
/-- whatever sorts them -/
theorem norm_unique {l l' : List Nd} (hp : l'.Perm l) (hs : l'.Pairwise fun a b => a.id ≤ b.id) (hu : (ids l).Nodup) (h7 : ∀ n ∈ l, 0 ≤ n.id ∧ n.id ≤ 7) : l' = normG l := by
  have hp2 : l'.Perm (normG l) := hp.trans (normG_perm hu h7).symm
  refine List.Perm.eq_of_pairwise (le := fun a b => a.id ≤ b.id) (fun a b ha hb h1 h2 => ?_) hs ((normG_sorted l).imp fun h => by omega) hp2
  have e : a.id = b.id := by omega
  have ha' := hp.mem_iff.1 ha
  have hb' := (normG_mem hu h7 b).1 hb
  have h3 := bind_find hu ha'
  have h4 := bind_find hu hb'
  rw [e, h4] at h3
  exact (Option.some.inj h3).symm
end Gr

/-! Graphs as bytes: what is written is read again, and what is read was written: plain laws. -/
namespace Gr
open Oc (be bes)
set_option linter.unusedSimpArgs false
set_option linter.unusedVariables false

/-- what Within does: the number, the error, what is left -/
def wn (s : List UInt8) (a b : Int) : Int × Int × List UInt8 := if s.length < 4 then (0, 3, s) else if Oc.num s < a ∨ b < Oc.num s then (0, 2, s) else (Oc.num s, 0, s.drop 4)
/-- a reader that keeps its first error -/
abbrev Rs := List UInt8 × Int
def numS (a b : Int) (s : Rs) : Int × Rs := if s.2 ≠ 0 then (0, s) else ((wn s.1 a b).1, ((wn s.1 a b).2.2, (wn s.1 a b).2.1))
theorem wn_put {a b n : Int} (h1 : a ≤ n) (h2 : n ≤ b) (hf : Oc.fitsN n = true) (t : List UInt8) : wn (be n ++ t) a b = (n, 0, t) := by
  unfold wn
  rw [if_neg (by rw [List.length_append, Oc.be_len]; omega), Oc.num_be n hf, if_neg (by omega)]
  rfl
theorem wn_can {s t : List UInt8} {a b n : Int} (h : wn s a b = (n, 0, t)) : s = be n ++ t ∧ a ≤ n ∧ n ≤ b := by
  unfold wn at h
  by_cases h4 : s.length < 4
  · rw [if_pos h4] at h
    simp at h
  · rw [if_neg h4] at h
    by_cases hr : Oc.num s < a ∨ b < Oc.num s
    · rw [if_pos hr] at h
      simp at h
    · rw [if_neg hr] at h
      simp only [Prod.mk.injEq, true_and] at h
      obtain ⟨rfl, rfl⟩ := h
      match s, h4 with
      | x :: y :: z :: u :: s, _ =>
        refine ⟨?_, by omega, by omega⟩
        rw [Oc.be_num]
        rfl
      | [], h4 => simp at h4
      | [_], h4 => simp at h4
      | [_, _], h4 => simp at h4
      | [_, _, _], h4 => simp at h4
theorem numS_put {a b n : Int} (h1 : a ≤ n) (h2 : n ≤ b) (hf : Oc.fitsN n = true) (t : List UInt8) : numS a b (be n ++ t, 0) = (n, (t, 0)) := by
  unfold numS
  rw [if_neg (by simp)]
  simp only
  rw [wn_put h1 h2 hf]
theorem numS_can {a b n : Int} {s : Rs} {t : List UInt8} (h : numS a b s = (n, (t, 0))) : s.2 = 0 ∧ s.1 = be n ++ t ∧ a ≤ n ∧ n ≤ b := by
  obtain ⟨s, e⟩ := s
  unfold numS at h
  by_cases he : e = 0
  · subst he
    rw [if_neg (by simp)] at h
    simp only at h
    have hw : wn s a b = (n, 0, t) := by
      generalize wn s a b = w at h
      obtain ⟨x, y, z⟩ := w
      simp only [Prod.mk.injEq] at h
      obtain ⟨rfl, rfl, rfl⟩ := h
      rfl
    exact ⟨rfl, wn_can hw⟩
  · rw [if_pos he] at h
    simp only [Prod.mk.injEq] at h
    exact absurd h.2.2 he
theorem numS_err (a b : Int) {s : Rs} (h : s.2 ≠ 0) : numS a b s = (0, s) := by unfold numS; rw [if_pos h]

def listS (a b : Int) : Nat → Rs → List Int × Rs
  | 0, s => ([], s)
  | k + 1, s => ((numS a b s).1 :: (listS a b k (numS a b s).2).1, (listS a b k (numS a b s).2).2)
theorem listS_put {a b : Int} (ha : -2147483648 ≤ a) (hb : b ≤ 2147483647) : ∀ (l : List Int) (t : List UInt8), (∀ x ∈ l, a ≤ x ∧ x ≤ b) → listS a b l.length (bes l ++ t, 0) = (l, (t, 0))
  | [], t, _ => rfl
  | x :: l, t, h => by
    have hx := h x (List.mem_cons_self ..)
    have h1 : numS a b (bes (x :: l) ++ t, 0) = (x, (bes l ++ t, 0)) := by
      show numS a b ((be x ++ bes l) ++ t, 0) = _
      rw [List.append_assoc]
      exact numS_put hx.1 hx.2 (by unfold Oc.fitsN; simp; omega) _
    rw [List.length_cons, listS, h1]
    simp only
    rw [listS_put ha hb l t fun y hy => h y (List.mem_cons_of_mem _ hy)]
theorem listS_can {a b : Int} : ∀ (k : Nat) {s : Rs} {l : List Int} {t : List UInt8}, listS a b k s = (l, (t, 0)) → s.2 = 0 ∧ s.1 = bes l ++ t ∧ l.length = k ∧ ∀ x ∈ l, a ≤ x ∧ x ≤ b
  | 0, s, l, t, h => by
    unfold listS at h
    simp only [Prod.mk.injEq] at h
    obtain ⟨rfl, rfl⟩ := h
    exact ⟨rfl, rfl, rfl, fun x hx => (by cases hx)⟩
  | k + 1, s, l, t, h => by
    rw [listS] at h
    simp only [Prod.mk.injEq] at h
    obtain ⟨rfl, h2⟩ := h
    have ih := listS_can k (l := (listS a b k (numS a b s).2).1) (t := t) (by rw [← h2])
    obtain ⟨i1, i2, i3, i4⟩ := ih
    have hn := numS_can (a := a) (b := b) (n := (numS a b s).1) (s := s) (t := (numS a b s).2.1) (by
      generalize numS a b s = w at *
      obtain ⟨x, y, z⟩ := w
      simp only at i1
      subst i1
      rfl)
    obtain ⟨n1, n2, n3, n4⟩ := hn
    refine ⟨n1, ?_, by rw [List.length_cons, i3], fun x hx => ?_⟩
    · rw [n2, i2]
      show _ = (be _ ++ bes _) ++ t
      rw [List.append_assoc]
    · rcases List.mem_cons.1 hx with rfl | h3
      · exact ⟨n3, n4⟩
      · exact i4 x h3

/-- what is asked of a program's bytes -/
structure Codec (gp : List UInt8 → List Vm.Ins × Int × List UInt8) (pp : List Vm.Ins → List UInt8) (fits : List Vm.Ins → Prop) : Prop where
  put : ∀ l t, fits l → gp (pp l ++ t) = (l, 0, t)
  can : ∀ s l t, gp s = (l, 0, t) → s = pp l ++ t ∧ fits l
section
variable (gp : List UInt8 → List Vm.Ins × Int × List UInt8) (pp : List Vm.Ins → List UInt8) (fits : List Vm.Ins → Prop)
def progS (s : Rs) : List Vm.Ins × Rs := if s.2 ≠ 0 then ([], s) else ((gp s.1).1, ((gp s.1).2.2, (gp s.1).2.1))
def putNd (n : Nd) : List UInt8 := be n.id ++ (be n.kind ++ (be n.frm.length ++ (bes n.frm ++ (pp n.prog ++ (be n.par ++ bes n.route)))))
def nodeS (lp : Int) (s : Rs) : Nd × Rs :=
  let a := numS 0 7 s
  let b := numS 0 2 a.2
  let m := numS 0 3 b.2
  let f := listS 0 7 m.1.toNat m.2
  let p := progS gp f.2
  let r := numS lp 3 p.2
  let o := listS 0 2 8 r.2
  (⟨a.1, b.1, f.1, p.1, r.1, o.1⟩, o.2)
structure OkB (lp : Int) (n : Nd) : Prop where
  i : 0 ≤ n.id ∧ n.id ≤ 7
  k : 0 ≤ n.kind ∧ n.kind ≤ 2
  m : n.frm.length ≤ 3
  f : ∀ x ∈ n.frm, 0 ≤ x ∧ x ≤ 7
  p : fits n.prog
  r : lp ≤ n.par ∧ n.par ≤ 3
  ol : n.route.length = 8
  o : ∀ x ∈ n.route, 0 ≤ x ∧ x ≤ 2
end
section
variable {gp : List UInt8 → List Vm.Ins × Int × List UInt8} {pp : List Vm.Ins → List UInt8} {fits : List Vm.Ins → Prop}
theorem progS_put (hc : Codec gp pp fits) {l : List Vm.Ins} (h : fits l) (t : List UInt8) : progS gp (pp l ++ t, 0) = (l, (t, 0)) := by
  unfold progS
  rw [if_neg (by simp)]
  simp only
  rw [hc.put l t h]
theorem progS_can (hc : Codec gp pp fits) {s : Rs} {l : List Vm.Ins} {t : List UInt8} (h : progS gp s = (l, (t, 0))) : s.2 = 0 ∧ s.1 = pp l ++ t ∧ fits l := by
  obtain ⟨s, e⟩ := s
  unfold progS at h
  by_cases he : e = 0
  · subst he
    rw [if_neg (by simp)] at h
    simp only at h
    have hw : gp s = (l, 0, t) := by
      generalize gp s = w at h
      obtain ⟨x, y, z⟩ := w
      simp only [Prod.mk.injEq] at h
      obtain ⟨rfl, rfl, rfl⟩ := h
      rfl
    exact ⟨rfl, hc.can s l t hw⟩
  · rw [if_pos he] at h
    simp only [Prod.mk.injEq] at h
    exact absurd h.2.2 he
theorem eta {α : Type} (x : α × Rs) (h : x.2.2 = 0) : x = (x.1, (x.2.1, 0)) := by
  obtain ⟨a, b, c⟩ := x
  simp only at h
  subst h
  rfl
theorem nodeS_put (hc : Codec gp pp fits) {lp : Int} (hlp : -2147483648 ≤ lp) {n : Nd} (h : OkB fits lp n) (t : List UInt8) : nodeS gp lp (putNd pp n ++ t, 0) = (n, (t, 0)) := by
  obtain ⟨id, kind, frm, prog, par, route⟩ := n
  obtain ⟨h1, h2, h3, h4, h5, h6, h7, h8⟩ := h
  simp only at h1 h2 h3 h4 h5 h6 h7 h8
  unfold nodeS putNd
  simp only [List.append_assoc]
  rw [numS_put h1.1 h1.2 (by unfold Oc.fitsN; simp; omega)]
  simp only
  rw [numS_put h2.1 h2.2 (by unfold Oc.fitsN; simp; omega)]
  simp only
  rw [numS_put (by omega) (by omega) (by unfold Oc.fitsN; simp; omega)]
  simp only [Int.toNat_natCast]
  rw [listS_put (by decide) (by decide) frm _ h4]
  simp only
  rw [progS_put hc h5]
  simp only
  rw [numS_put h6.1 h6.2 (by unfold Oc.fitsN; simp; omega)]
  simp only
  have h9 := listS_put (a := 0) (b := 2) (by decide) (by decide) route t h8
  rw [h7] at h9
  rw [h9]
theorem nodeS_can (hc : Codec gp pp fits) {lp : Int} {s : Rs} {n : Nd} {t : List UInt8} (h : nodeS gp lp s = (n, (t, 0))) : s.2 = 0 ∧ s.1 = putNd pp n ++ t ∧ OkB fits lp n := by
  unfold nodeS at h
  simp only [Prod.mk.injEq] at h
  obtain ⟨rfl, h⟩ := h
  generalize ha : numS 0 7 s = a at *
  generalize hb : numS 0 2 a.2 = b at *
  generalize hm : numS 0 3 b.2 = m at *
  generalize hf : listS 0 7 m.1.toNat m.2 = f at *
  generalize hp : progS gp f.2 = p at *
  generalize hr : numS lp 3 p.2 = r at *
  generalize ho : listS 0 2 8 r.2 = o at *
  obtain ⟨o1, o2⟩ := o
  simp only at h
  subst h
  obtain ⟨o3, o4, o5, o6⟩ := listS_can 8 ho
  obtain ⟨r3, r4, r5, r6⟩ := numS_can (hr.trans (eta r o3))
  obtain ⟨p3, p4, p5⟩ := progS_can hc (hp.trans (eta p r3))
  obtain ⟨f3, f4, f5, f6⟩ := listS_can _ (hf.trans (eta f p3))
  obtain ⟨m3, m4, m5, m6⟩ := numS_can (hm.trans (eta m f3))
  obtain ⟨b3, b4, b5, b6⟩ := numS_can (hb.trans (eta b m3))
  obtain ⟨a3, a4, a5, a6⟩ := numS_can (ha.trans (eta a b3))
  refine ⟨a3, ?_, ⟨⟨a5, a6⟩, ⟨b5, b6⟩, by simp only; omega, f6, p5, ⟨r5, r6⟩, o5, o6⟩⟩
  unfold putNd
  simp only [List.append_assoc]
  rw [a4, b4, m4, f4, p4, r4, o4, show ((f.1.length : Nat) : Int) = m.1 by omega]
/-- as many nodes -/
def nodesS (gp : List UInt8 → List Vm.Ins × Int × List UInt8) (lp : Int) : Nat → Rs → List Nd × Rs
  | 0, s => ([], s)
  | k + 1, s => ((nodeS gp lp s).1 :: (nodesS gp lp k (nodeS gp lp s).2).1, (nodesS gp lp k (nodeS gp lp s).2).2)
theorem nodesS_put (hc : Codec gp pp fits) {lp : Int} (hlp : -2147483648 ≤ lp) : ∀ (l : List Nd) (t : List UInt8), (∀ n ∈ l, OkB fits lp n) → nodesS gp lp l.length (l.flatMap (putNd pp) ++ t, 0) = (l, (t, 0))
  | [], t, _ => rfl
  | n :: l, t, h => by
    have h1 : nodeS gp lp ((n :: l).flatMap (putNd pp) ++ t, 0) = (n, (l.flatMap (putNd pp) ++ t, 0)) := by
      rw [List.flatMap_cons, List.append_assoc]
      exact nodeS_put hc hlp (h n (List.mem_cons_self ..)) _
    rw [List.length_cons, nodesS, h1]
    simp only
    rw [nodesS_put hc hlp l t fun y hy => h y (List.mem_cons_of_mem _ hy)]
end
end Gr

/-! A graph as bytes: what is put is got, and what is got was put: plain laws. -/
namespace Gr
open Oc (be bes)
set_option linter.unusedSimpArgs false
set_option linter.unusedVariables false

/-- a right graph's bytes -/
def putG (pp : List Vm.Ins → List UInt8) (l : List Nd) : List UInt8 := be l.length ++ (normG l).flatMap (putNd pp)
def sortedG (l : List Nd) : Prop := l.Pairwise fun a b => a.id ≤ b.id
/-- all nodes that bytes begin with -/
def graphS (gp : List UInt8 → List Vm.Ins × Int × List UInt8) (s : List UInt8) : List Nd × Rs := nodesS gp 1 (numS 0 8 (s, 0)).1.toNat (numS 0 8 (s, 0)).2
open Classical in
noncomputable def getG (gp : List UInt8 → List Vm.Ins × Int × List UInt8) (s : List UInt8) : List Nd × Int :=
  if (graphS gp s).2.2 ≠ 0 then ([], (graphS gp s).2.2)
  else if 0 < (graphS gp s).2.1.length ∨ ¬ sortedG (graphS gp s).1 then ([], 4)
  else if RightR (graphS gp s).1 then ((graphS gp s).1, 0) else ([], 10)
section
variable {gp : List UInt8 → List Vm.Ins × Int × List UInt8} {pp : List Vm.Ins → List UInt8} {fits : List Vm.Ins → Prop}
theorem RightR.ids {l : List Nd} (h : RightR l) : (ids l).Nodup := ids_nodup.1 fun i n hn => (h.ok i n hn).fst
theorem RightR.at {l : List Nd} (h : RightR l) {n : Nd} (hn : n ∈ l) : ∃ i, OkR l i n := by
  obtain ⟨i, hi, e⟩ := List.mem_iff_getElem.1 hn
  exact ⟨i, h.ok i n (by rw [List.getElem?_eq_getElem hi, e])⟩
theorem RightR.r7 {l : List Nd} (h : RightR l) : ∀ n ∈ l, 0 ≤ n.id ∧ n.id ≤ 7 := fun n hn => by
  obtain ⟨i, hr⟩ := h.at hn
  exact ⟨hr.id0, hr.id7⟩
theorem RightR.okB {l : List Nd} (h : RightR l) (h0 : fits []) (hs : ∀ p, Vm.safe p = true → fits p) (hl : ∀ n ∈ l, n.route.length = 8) : ∀ n ∈ l, OkB fits 1 n := fun n hn => by
  obtain ⟨i, hr⟩ := h.at hn
  refine ⟨⟨hr.id0, hr.id7⟩, ⟨hr.kd0, hr.kd2⟩, hr.fr3, fun x hx => ?_, ?_, ⟨hr.pr1, hr.pr3⟩, hl n hn, fun x hx => ?_⟩
  · obtain ⟨k, hk, e⟩ := List.mem_iff_getElem.1 hx
    obtain ⟨⟨j, m, h1, h2, -⟩, -⟩ := hr.fr k x (by rw [List.getElem?_eq_getElem hk, e])
    obtain ⟨m', h3, h4⟩ := find_some h1
    rw [h2] at h3
    cases h3
    rw [← h4]
    exact h.r7 m (List.mem_of_getElem? h2)
  · by_cases e : n.kind = 1
    · exact hs _ (hr.p1 e)
    · rw [List.length_eq_zero_iff.1 (hr.p0 e)]
      exact h0
  · have := hr.rt x hx
    have := hr.pr3
    omega
/-- the same nodes in another order are right too -/
theorem RightR.perm {l l' : List Nd} (hp : l.Perm l') (h : RightR l) : RightR l' := by
  have hq := (right_iff hp).1 h
  refine (right_iff (List.Perm.refl l')).2 ⟨by rw [← hp.length_eq]; exact hq.len, fun n hn => ?_, (perm_ids hp).nodup_iff.1 hq.un, (perm_ids hp).mem_iff.1 hq.z, by rw [← hp.length_eq, hp.length_eq]; exact hq.so.trans hp.length_eq⟩
  have ho := hq.ok n (hp.mem_iff.2 hn)
  refine ⟨ho.id0, ho.id7, ho.kd, ho.pr1, ho.pr3, ho.rt, fun f hf => ?_⟩
  obtain ⟨j, m, h1, h2, h3⟩ := ho.fr f hf
  have hb := bind_perm hp hq.un f
  rw [h1, Option.bind_some, h2] at hb
  cases hf' : find l' f with
  | none => rw [hf'] at hb; cases hb
  | some j' =>
    rw [hf', Option.bind_some] at hb
    exact ⟨j', m, rfl, hb.symm, h3⟩
theorem norm_self {l : List Nd} (hs : sortedG l) (hu : (ids l).Nodup) (h7 : ∀ n ∈ l, 0 ≤ n.id ∧ n.id ≤ 7) : normG l = l := (norm_unique (List.Perm.refl l) hs hu h7).symm
/-- what is put is got -/
theorem getG_put (hc : Codec gp pp fits) (h0 : fits []) (hs : ∀ p, Vm.safe p = true → fits p) {l : List Nd} (h : RightR l) (hl : ∀ n ∈ l, n.route.length = 8) : getG gp (putG pp l) = (normG l, 0) := by
  have hp := normG_perm h.ids h.r7
  have hok : ∀ n ∈ normG l, OkB fits 1 n := fun n hn => h.okB h0 hs hl n (hp.mem_iff.1 hn)
  have h8 := h.len
  have h1 : graphS gp (putG pp l) = (normG l, ([], 0)) := by
    unfold graphS putG
    rw [numS_put (by omega) (by omega) (by unfold Oc.fitsN; simp; omega)]
    simp only [Int.toNat_natCast]
    have := nodesS_put hc (lp := 1) (by decide) (normG l) [] hok
    rw [List.append_nil, hp.length_eq] at this
    exact this
  unfold getG
  rw [h1]
  simp only
  rw [if_neg (by simp), if_neg (by simp; exact (normG_sorted l).imp fun h => by omega), if_pos (h.perm hp.symm)]
end
end Gr

/-! Plans as bytes: plain laws. -/
namespace Gr
open Oc (be bes)
set_option linter.unusedSimpArgs false
set_option linter.unusedVariables false

structure Stp where
  kind : Int
  nd : Nd
  reset : Bool
def zeros : List Int := List.replicate 8 0
/-- a step without what doesn't matter -/
def cleanS (s : Stp) : Stp :=
  if s.kind = 1 then ⟨1, ⟨s.nd.id, 0, [], s.nd.prog, 0, zeros⟩, s.reset⟩
  else if s.kind = 2 then ⟨2, s.nd, false⟩
  else if s.kind = 3 then ⟨3, ⟨s.nd.id, 0, [], [], 0, zeros⟩, false⟩
  else if s.kind = 4 then ⟨4, ⟨s.nd.id, 0, [], [], s.nd.par, s.nd.route⟩, false⟩
  else if s.kind = 5 then ⟨5, ⟨s.nd.id, 0, s.nd.frm, [], 0, zeros⟩, false⟩
  else ⟨0, ⟨0, 0, [], [], 0, zeros⟩, false⟩
theorem clean_kind {s : Stp} (h : 1 ≤ s.kind ∧ s.kind ≤ 5) : (cleanS s).kind = s.kind := by
  unfold cleanS
  rcases (show s.kind = 1 ∨ s.kind = 2 ∨ s.kind = 3 ∨ s.kind = 4 ∨ s.kind = 5 by omega) with e | e | e | e | e <;> simp [e]
theorem kind_clean {s : Stp} (h : 1 ≤ (cleanS s).kind) : 1 ≤ s.kind ∧ s.kind ≤ 5 := by
  by_cases h1 : s.kind = 1 ∨ s.kind = 2 ∨ s.kind = 3 ∨ s.kind = 4 ∨ s.kind = 5
  · omega
  · exfalso
    unfold cleanS at h
    rw [if_neg (by omega), if_neg (by omega), if_neg (by omega), if_neg (by omega), if_neg (by omega)] at h
    simp at h
theorem clean_clean (s : Stp) : cleanS (cleanS s) = cleanS s := by
  by_cases h1 : s.kind = 1
  · simp [cleanS, h1]
  by_cases h2 : s.kind = 2
  · simp [cleanS, h2]
  by_cases h3 : s.kind = 3
  · simp [cleanS, h3]
  by_cases h4 : s.kind = 4
  · simp [cleanS, h4]
  by_cases h5 : s.kind = 5
  · simp [cleanS, h5]
  · simp [cleanS, h1, h2, h3, h4, h5]
section
variable (gp : List UInt8 → List Vm.Ins × Int × List UInt8) (pp : List Vm.Ins → List UInt8) (fits : List Vm.Ins → Prop)
def putSt (s : Stp) : List UInt8 := be (cleanS s).kind ++ (be (if (cleanS s).reset then 1 else 0) ++ putNd pp (cleanS s).nd)
def putPl (p : List Stp) : List UInt8 := be p.length ++ p.flatMap (putSt pp)
def OkS (s : Stp) : Prop := (1 ≤ s.kind ∧ s.kind ≤ 5) ∧ OkB fits 0 (cleanS s).nd
def OkPl (p : List Stp) : Prop := 1 ≤ p.length ∧ p.length ≤ 6 ∧ ∀ s ∈ p, OkS fits s
def stepS (s : Rs) : Stp × Rs :=
  let k := numS 1 5 s
  let r := numS 0 1 k.2
  let n := nodeS gp 0 r.2
  (⟨k.1, n.1, r.1 == 1⟩, n.2)
def stepsS : Nat → Rs → List Stp × Rs
  | 0, s => ([], s)
  | k + 1, s => ((stepS gp s).1 :: (stepsS k (stepS gp s).2).1, (stepsS k (stepS gp s).2).2)
def planS (s : List UInt8) : List Stp × Rs := stepsS gp (numS 1 6 (s, 0)).1.toNat (numS 1 6 (s, 0)).2
open Classical in
noncomputable def getPl (s : List UInt8) : List Stp × Int :=
  if (planS gp s).2.2 ≠ 0 then ([], (planS gp s).2.2)
  else if 0 < (planS gp s).2.1.length ∨ ¬ ∀ x ∈ (planS gp s).1, cleanS x = x then ([], 4)
  else ((planS gp s).1, 0)
end
section
variable {gp : List UInt8 → List Vm.Ins × Int × List UInt8} {pp : List Vm.Ins → List UInt8} {fits : List Vm.Ins → Prop}
theorem stepS_put (hc : Codec gp pp fits) {s : Stp} (h : OkS fits s) (t : List UInt8) : stepS gp (putSt pp s ++ t, 0) = (cleanS s, (t, 0)) := by
  obtain ⟨hk, hn⟩ := h
  have hk2 := clean_kind hk
  unfold putSt stepS
  generalize cleanS s = c at *
  obtain ⟨ck, cn, cr⟩ := c
  simp only at hk2 hn
  subst hk2
  simp only [List.append_assoc]
  rw [numS_put hk.1 hk.2 (by unfold Oc.fitsN; simp; omega)]
  simp only
  rw [numS_put (by split <;> omega) (by split <;> omega) (by cases cr <;> rfl)]
  simp only
  rw [nodeS_put hc (by decide) hn]
  cases cr <;> rfl
theorem stepS_can (hc : Codec gp pp fits) {s : Rs} {x : Stp} {t : List UInt8} (h : stepS gp s = (x, (t, 0))) : s.2 = 0 ∧ s.1 = be x.kind ++ (be (if x.reset then 1 else 0) ++ (putNd pp x.nd ++ t)) ∧ (1 ≤ x.kind ∧ x.kind ≤ 5) ∧ OkB fits 0 x.nd := by
  unfold stepS at h
  simp only [Prod.mk.injEq] at h
  obtain ⟨rfl, h⟩ := h
  generalize hk : numS 1 5 s = k at *
  generalize hr : numS 0 1 k.2 = r at *
  generalize hn : nodeS gp 0 r.2 = n at *
  obtain ⟨n1, n2⟩ := n
  simp only at h
  subst h
  obtain ⟨n3, n4, n5⟩ := nodeS_can hc hn
  obtain ⟨r3, r4, r5, r6⟩ := numS_can (hr.trans (eta r n3))
  obtain ⟨k3, k4, k5, k6⟩ := numS_can (hk.trans (eta k r3))
  refine ⟨k3, ?_, ⟨k5, k6⟩, n5⟩
  rw [k4, r4, n4]
  rcases (show r.1 = 0 ∨ r.1 = 1 by omega) with e | e <;> simp [e]
theorem stepsS_put (hc : Codec gp pp fits) : ∀ (p : List Stp) (t : List UInt8), (∀ s ∈ p, OkS fits s) → stepsS gp p.length (p.flatMap (putSt pp) ++ t, 0) = (p.map cleanS, (t, 0))
  | [], t, _ => rfl
  | s :: p, t, h => by
    have h1 : stepS gp ((s :: p).flatMap (putSt pp) ++ t, 0) = (cleanS s, (p.flatMap (putSt pp) ++ t, 0)) := by
      rw [List.flatMap_cons, List.append_assoc]
      exact stepS_put hc (h s (List.mem_cons_self ..)) _
    rw [List.length_cons, stepsS, h1]
    simp only
    rw [stepsS_put hc p t fun y hy => h y (List.mem_cons_of_mem _ hy)]
    rfl
theorem stepsS_can (hc : Codec gp pp fits) : ∀ (k : Nat) {s : Rs} {p : List Stp} {t : List UInt8}, stepsS gp k s = (p, (t, 0)) → (∀ x ∈ p, cleanS x = x) → s.2 = 0 ∧ s.1 = p.flatMap (putSt pp) ++ t ∧ p.length = k ∧ ∀ x ∈ p, OkS fits x
  | 0, s, p, t, h, _ => by
    unfold stepsS at h
    simp only [Prod.mk.injEq] at h
    obtain ⟨rfl, rfl⟩ := h
    exact ⟨rfl, rfl, rfl, fun x hx => (by cases hx)⟩
  | k + 1, s, p, t, h, hcl => by
    rw [stepsS] at h
    simp only [Prod.mk.injEq] at h
    obtain ⟨rfl, h2⟩ := h
    obtain ⟨i1, i2, i3, i4⟩ := stepsS_can hc k (p := (stepsS gp k (stepS gp s).2).1) (t := t) (by rw [← h2]) fun x hx => hcl x (List.mem_cons_of_mem _ hx)
    obtain ⟨n1, n2, n3, n4⟩ := stepS_can hc (eta (stepS gp s) i1)
    have hx := hcl _ (List.mem_cons_self ..)
    refine ⟨n1, ?_, by rw [List.length_cons, i3], fun x hx2 => ?_⟩
    · rw [n2, i2, List.flatMap_cons, List.append_assoc]
      show _ = putSt pp _ ++ _
      unfold putSt
      rw [hx]
      simp only [List.append_assoc]
    · rcases List.mem_cons.1 hx2 with rfl | h3
      · exact ⟨n3, by rw [hx]; exact n4⟩
      · exact i4 x h3
theorem map_clean {p : List Stp} (h : ∀ x ∈ p, cleanS x = x) : p.map cleanS = p := by
  rw [List.map_congr_left (g := id) h, List.map_id]
/-- what is put is got, without what doesn't matter -/
theorem getPl_put (hc : Codec gp pp fits) {p : List Stp} (h : OkPl fits p) : getPl gp (putPl pp p) = (p.map cleanS, 0) := by
  obtain ⟨h1, h6, hs⟩ := h
  have hg : planS gp (putPl pp p) = (p.map cleanS, ([], 0)) := by
    unfold planS putPl
    rw [numS_put (by omega) (by omega) (by unfold Oc.fitsN; simp; omega)]
    simp only [Int.toNat_natCast]
    have := stepsS_put hc p [] hs
    rw [List.append_nil] at this
    exact this
  unfold getPl
  rw [hg]
  simp only
  rw [if_neg (by simp), if_neg]
  rintro (h | h)
  · simp at h
  · refine h fun x hx => ?_
    obtain ⟨y, -, rfl⟩ := List.mem_map.1 hx
    exact clean_clean y
/-- what is got was put, and may be told -/
theorem getPl_can (hc : Codec gp pp fits) {s : List UInt8} {q : List Stp} (h : getPl gp s = (q, 0)) : OkPl fits q ∧ putPl pp q = s ∧ ∀ x ∈ q, cleanS x = x := by
  unfold getPl at h
  by_cases h1 : (planS gp s).2.2 = 0
  · rw [if_neg (by simpa using h1)] at h
    by_cases h2 : 0 < (planS gp s).2.1.length ∨ ¬ ∀ x ∈ (planS gp s).1, cleanS x = x
    · rw [if_pos h2] at h
      simp at h
    · rw [if_neg h2] at h
      simp only [Prod.mk.injEq, and_true] at h
      have hcl : ∀ x ∈ q, cleanS x = x := by
        rw [← h]
        exact Classical.not_not.1 fun r => h2 (.inr r)
      have hnil : (planS gp s).2.1 = [] := List.length_eq_zero_iff.1 (by omega)
      have hg : planS gp s = (q, ([], 0)) := by
        generalize planS gp s = g at *
        obtain ⟨a, b, c⟩ := g
        simp only at h h1 hnil
        subst h h1 hnil
        rfl
      unfold planS at hg
      obtain ⟨i1, i2, i3, i4⟩ := stepsS_can hc _ hg hcl
      obtain ⟨n1, n2, n3, n4⟩ := numS_can (eta (numS 1 6 (s, 0)) i1)
      refine ⟨⟨by omega, by omega, i4⟩, ?_, hcl⟩
      unfold putPl
      have e1 : (numS 1 6 (s, 0)).2.1 = q.flatMap (putSt pp) := by rw [i2, List.append_nil]
      rw [← e1, show ((q.length : Nat) : Int) = (numS 1 6 (s, 0)).1 by omega]
      exact n2.symm
  · rw [if_pos (by simpa using h1)] at h
    simp only [Prod.mk.injEq] at h
    exact absurd h.2 h1
end
end Gr
