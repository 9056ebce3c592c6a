import Derived.Test.YtangapokicnfgaaGreatMp14
import Derived.Test.YtangapokicnfgaaGreatMp0
import Derived.Test.YtangapokicnfgaaGreatMp18
/-! Graphs as bytes: what is written is read again, and what is read was written: plain laws. -/
namespace Gr
open Oc (be bes)
set_option linter.unusedSimpArgs false
set_option linter.unusedVariables false

/-- what Within does: the number, the error, what is left -/
def wn (s : List UInt8) (a b : Int) : Int × Int × List UInt8 := if s.length < 4 then (0, 3, s) else if Oc.num s < a ∨ b < Oc.num s then (0, 2, s) else (Oc.num s, 0, s.drop 4)
/-- a reader that keeps its first error -/
abbrev Rs := List UInt8 × Int
def numS (a b : Int) (s : Rs) : Int × Rs := if s.2 ≠ 0 then (0, s) else ((wn s.1 a b).1, ((wn s.1 a b).2.2, (wn s.1 a b).2.1))
theorem wn_put {a b n : Int} (h1 : a ≤ n) (h2 : n ≤ b) (hf : Oc.fitsN n = true) (t : List UInt8) : wn (be n ++ t) a b = (n, 0, t) := by
  unfold wn
  rw [if_neg (by rw [List.length_append, Oc.be_len]; omega), Oc.num_be n hf, if_neg (by omega)]
  rfl
theorem wn_can {s t : List UInt8} {a b n : Int} (h : wn s a b = (n, 0, t)) : s = be n ++ t ∧ a ≤ n ∧ n ≤ b := by
  unfold wn at h
  by_cases h4 : s.length < 4
  · rw [if_pos h4] at h
    simp at h
  · rw [if_neg h4] at h
    by_cases hr : Oc.num s < a ∨ b < Oc.num s
    · rw [if_pos hr] at h
      simp at h
    · rw [if_neg hr] at h
      simp only [Prod.mk.injEq, true_and] at h
      obtain ⟨rfl, rfl⟩ := h
      match s, h4 with
      | x :: y :: z :: u :: s, _ =>
        refine ⟨?_, by omega, by omega⟩
        rw [Oc.be_num]
        rfl
      | [], h4 => simp at h4
      | [_], h4 => simp at h4
      | [_, _], h4 => simp at h4
      | [_, _, _], h4 => simp at h4
theorem numS_put {a b n : Int} (h1 : a ≤ n) (h2 : n ≤ b) (hf : Oc.fitsN n = true) (t : List UInt8) : numS a b (be n ++ t, 0) = (n, (t, 0)) := by
  unfold numS
  rw [if_neg (by simp)]
  simp only
  rw [wn_put h1 h2 hf]
theorem numS_can {a b n : Int} {s : Rs} {t : List UInt8} (h : numS a b s = (n, (t, 0))) : s.2 = 0 ∧ s.1 = be n ++ t ∧ a ≤ n ∧ n ≤ b := by
  obtain ⟨s, e⟩ := s
  unfold numS at h
  by_cases he : e = 0
  · subst he
    rw [if_neg (by simp)] at h
    simp only at h
    have hw : wn s a b = (n, 0, t) := by
      generalize wn s a b = w at h
      obtain ⟨x, y, z⟩ := w
      simp only [Prod.mk.injEq] at h
      obtain ⟨rfl, rfl, rfl⟩ := h
      rfl
    exact ⟨rfl, wn_can hw⟩
  · rw [if_pos he] at h
    simp only [Prod.mk.injEq] at h
    exact absurd h.2.2 he
theorem numS_err (a b : Int) {s : Rs} (h : s.2 ≠ 0) : numS a b s = (0, s) := by unfold numS; rw [if_pos h]

def listS (a b : Int) : Nat → Rs → List Int × Rs
  | 0, s => ([], s)
  | k + 1, s => ((numS a b s).1 :: (listS a b k (numS a b s).2).1, (listS a b k (numS a b s).2).2)
theorem listS_put {a b : Int} (ha : -2147483648 ≤ a) (hb : b ≤ 2147483647) : ∀ (l : List Int) (t : List UInt8), (∀ x ∈ l, a ≤ x ∧ x ≤ b) → listS a b l.length (bes l ++ t, 0) = (l, (t, 0))
  | [], t, _ => rfl
  | x :: l, t, h => by
    have hx := h x (List.mem_cons_self ..)
    have h1 : numS a b (bes (x :: l) ++ t, 0) = (x, (bes l ++ t, 0)) := by
      show numS a b ((be x ++ bes l) ++ t, 0) = _
      rw [List.append_assoc]
      exact numS_put hx.1 hx.2 (by unfold Oc.fitsN; simp; omega) _
    rw [List.length_cons, listS, h1]
    simp only
    rw [listS_put ha hb l t fun y hy => h y (List.mem_cons_of_mem _ hy)]
theorem listS_can {a b : Int} : ∀ (k : Nat) {s : Rs} {l : List Int} {t : List UInt8}, listS a b k s = (l, (t, 0)) → s.2 = 0 ∧ s.1 = bes l ++ t ∧ l.length = k ∧ ∀ x ∈ l, a ≤ x ∧ x ≤ b
  | 0, s, l, t, h => by
    unfold listS at h
    simp only [Prod.mk.injEq] at h
    obtain ⟨rfl, rfl⟩ := h
    exact ⟨rfl, rfl, rfl, fun x hx => (by cases hx)⟩
  | k + 1, s, l, t, h => by
    rw [listS] at h
    simp only [Prod.mk.injEq] at h
    obtain ⟨rfl, h2⟩ := h
    have ih := listS_can k (l := (listS a b k (numS a b s).2).1) (t := t) (by rw [← h2])
    obtain ⟨i1, i2, i3, i4⟩ := ih
    have hn := numS_can (a := a) (b := b) (n := (numS a b s).1) (s := s) (t := (numS a b s).2.1) (by
      generalize numS a b s = w at *
      obtain ⟨x, y, z⟩ := w
      simp only at i1
      subst i1
      rfl)
    obtain ⟨n1, n2, n3, n4⟩ := hn
    refine ⟨n1, ?_, by rw [List.length_cons, i3], fun x hx => ?_⟩
    · rw [n2, i2]
      show _ = (be _ ++ bes _) ++ t
      rw [List.append_assoc]
    · rcases List.mem_cons.1 hx with rfl | h3
      · exact ⟨n3, n4⟩
      · exact i4 x h3

/-- what is asked of a program's bytes -/
structure Codec (gp : List UInt8 → List Vm.Ins × Int × List UInt8) (pp : List Vm.Ins → List UInt8) (fits : List Vm.Ins → Prop) : Prop where
  put : ∀ l t, fits l → gp (pp l ++ t) = (l, 0, t)
  can : ∀ s l t, gp s = (l, 0, t) → s = pp l ++ t ∧ fits l
section
variable (gp : List UInt8 → List Vm.Ins × Int × List UInt8) (pp : List Vm.Ins → List UInt8) (fits : List Vm.Ins → Prop)
def progS (s : Rs) : List Vm.Ins × Rs := if s.2 ≠ 0 then ([], s) else ((gp s.1).1, ((gp s.1).2.2, (gp s.1).2.1))
def putNd (n : Nd) : List UInt8 := be n.id ++ (be n.kind ++ (be n.frm.length ++ (bes n.frm ++ (pp n.prog ++ (be n.par ++ bes n.route)))))
def nodeS (lp : Int) (s : Rs) : Nd × Rs :=
  let a := numS 0 7 s
  let b := numS 0 2 a.2
  let m := numS 0 3 b.2
  let f := listS 0 7 m.1.toNat m.2
  let p := progS gp f.2
  let r := numS lp 3 p.2
  let o := listS 0 2 8 r.2
  (⟨a.1, b.1, f.1, p.1, r.1, o.1⟩, o.2)
structure OkB (lp : Int) (n : Nd) : Prop where
  i : 0 ≤ n.id ∧ n.id ≤ 7
  k : 0 ≤ n.kind ∧ n.kind ≤ 2
  m : n.frm.length ≤ 3
  f : ∀ x ∈ n.frm, 0 ≤ x ∧ x ≤ 7
  p : fits n.prog
  r : lp ≤ n.par ∧ n.par ≤ 3
  ol : n.route.length = 8
  o : ∀ x ∈ n.route, 0 ≤ x ∧ x ≤ 2
end
section
variable {gp : List UInt8 → List Vm.Ins × Int × List UInt8} {pp : List Vm.Ins → List UInt8} {fits : List Vm.Ins → Prop}
theorem progS_put (hc : Codec gp pp fits) {l : List Vm.Ins} (h : fits l) (t : List UInt8) : progS gp (pp l ++ t, 0) = (l, (t, 0)) := by
  unfold progS
  rw [if_neg (by simp)]
  simp only
  rw [hc.put l t h]
theorem progS_can (hc : Codec gp pp fits) {s : Rs} {l : List Vm.Ins} {t : List UInt8} (h : progS gp s = (l, (t, 0))) : s.2 = 0 ∧ s.1 = pp l ++ t ∧ fits l := by
  obtain ⟨s, e⟩ := s
  unfold progS at h
  by_cases he : e = 0
  · subst he
    rw [if_neg (by simp)] at h
    simp only at h
    have hw : gp s = (l, 0, t) := by
      generalize gp s = w at h
      obtain ⟨x, y, z⟩ := w
      simp only [Prod.mk.injEq] at h
      obtain ⟨rfl, rfl, rfl⟩ := h
      rfl
    exact ⟨rfl, hc.can s l t hw⟩
  · rw [if_pos he] at h
    simp only [Prod.mk.injEq] at h
    exact absurd h.2.2 he
theorem eta {α : Type} (x : α × Rs) (h : x.2.2 = 0) : x = (x.1, (x.2.1, 0)) := by
  obtain ⟨a, b, c⟩ := x
  simp only at h
  subst h
  rfl
theorem nodeS_put (hc : Codec gp pp fits) {lp : Int} (hlp : -2147483648 ≤ lp) {n : Nd} (h : OkB fits lp n) (t : List UInt8) : nodeS gp lp (putNd pp n ++ t, 0) = (n, (t, 0)) := by
  obtain ⟨id, kind, frm, prog, par, route⟩ := n
  obtain ⟨h1, h2, h3, h4, h5, h6, h7, h8⟩ := h
  simp only at h1 h2 h3 h4 h5 h6 h7 h8
  unfold nodeS putNd
  simp only [List.append_assoc]
  rw [numS_put h1.1 h1.2 (by unfold Oc.fitsN; simp; omega)]
  simp only
  rw [numS_put h2.1 h2.2 (by unfold Oc.fitsN; simp; omega)]
  simp only
  rw [numS_put (by omega) (by omega) (by unfold Oc.fitsN; simp; omega)]
  simp only [Int.toNat_natCast]
  rw [listS_put (by decide) (by decide) frm _ h4]
  simp only
  rw [progS_put hc h5]
  simp only
  rw [numS_put h6.1 h6.2 (by unfold Oc.fitsN; simp; omega)]
  simp only
  have h9 := listS_put (a := 0) (b := 2) (by decide) (by decide) route t h8
  rw [h7] at h9
  rw [h9]
theorem nodeS_can (hc : Codec gp pp fits) {lp : Int} {s : Rs} {n : Nd} {t : List UInt8} (h : nodeS gp lp s = (n, (t, 0))) : s.2 = 0 ∧ s.1 = putNd pp n ++ t ∧ OkB fits lp n := by
  unfold nodeS at h
  simp only [Prod.mk.injEq] at h
  obtain ⟨rfl, h⟩ := h
  generalize ha : numS 0 7 s = a at *
  generalize hb : numS 0 2 a.2 = b at *
  generalize hm : numS 0 3 b.2 = m at *
  generalize hf : listS 0 7 m.1.toNat m.2 = f at *
  generalize hp : progS gp f.2 = p at *
  generalize hr : numS lp 3 p.2 = r at *
  generalize ho : listS 0 2 8 r.2 = o at *
  obtain ⟨o1, o2⟩ := o
  simp only at h
  subst h
  obtain ⟨o3, o4, o5, o6⟩ := listS_can 8 ho
  obtain ⟨r3, r4, r5, r6⟩ := numS_can (hr.trans (eta r o3))
  obtain ⟨p3, p4, p5⟩ := progS_can hc (hp.trans (eta p r3))
  obtain ⟨f3, f4, f5, f6⟩ := listS_can _ (hf.trans (eta f p3))
  obtain ⟨m3, m4, m5, m6⟩ := numS_can (hm.trans (eta m f3))
  obtain ⟨b3, b4, b5, b6⟩ := numS_can (hb.trans (eta b m3))
  obtain ⟨a3, a4, a5, a6⟩ := numS_can (ha.trans (eta a b3))
  refine ⟨a3, ?_, ⟨⟨a5, a6⟩, ⟨b5, b6⟩, by simp only; omega, f6, p5, ⟨r5, r6⟩, o5, o6⟩⟩
  unfold putNd
  simp only [List.append_assoc]
  rw [a4, b4, m4, f4, p4, r4, o4, show ((f.1.length : Nat) : Int) = m.1 by omega]
/-- as many nodes -/
def nodesS (gp : List UInt8 → List Vm.Ins × Int × List UInt8) (lp : Int) : Nat → Rs → List Nd × Rs
  | 0, s => ([], s)
  | k + 1, s => ((nodeS gp lp s).1 :: (nodesS gp lp k (nodeS gp lp s).2).1, (nodesS gp lp k (nodeS gp lp s).2).2)
theorem nodesS_put (hc : Codec gp pp fits) {lp : Int} (hlp : -2147483648 ≤ lp) : ∀ (l : List Nd) (t : List UInt8), (∀ n ∈ l, OkB fits lp n) → nodesS gp lp l.length (l.flatMap (putNd pp) ++ t, 0) = (l, (t, 0))
  | [], t, _ => rfl
  | n :: l, t, h => by
    have h1 : nodeS gp lp ((n :: l).flatMap (putNd pp) ++ t, 0) = (n, (l.flatMap (putNd pp) ++ t, 0)) := by
      rw [List.flatMap_cons, List.append_assoc]
      exact nodeS_put hc hlp (h n (List.mem_cons_self ..)) _
    rw [List.length_cons, nodesS, h1]
    simp only
    rw [nodesS_put hc hlp l t fun y hy => h y (List.mem_cons_of_mem _ hy)]
theorem nodesS_can (hc : Codec gp pp fits) {lp : Int} : ∀ (k : Nat) {s : Rs} {l : List Nd} {t : List UInt8}, nodesS gp lp k s = (l, (t, 0)) → s.2 = 0 ∧ s.1 = l.flatMap (putNd pp) ++ t ∧ l.length = k ∧ ∀ n ∈ l, OkB fits lp n
  | 0, s, l, t, h => by
    unfold nodesS at h
    simp only [Prod.mk.injEq] at h
    obtain ⟨rfl, rfl⟩ := h
    exact ⟨rfl, rfl, rfl, fun x hx => (by cases hx)⟩
  | k + 1, s, l, t, h => by
    rw [nodesS] at h
    simp only [Prod.mk.injEq] at h
    obtain ⟨rfl, h2⟩ := h
    obtain ⟨i1, i2, i3, i4⟩ := nodesS_can hc k (l := (nodesS gp lp k (nodeS gp lp s).2).1) (t := t) (by rw [← h2])
    obtain ⟨n1, n2, n3⟩ := nodeS_can hc (eta (nodeS gp lp s) i1)
    refine ⟨n1, ?_, by rw [List.length_cons, i3], fun x hx => ?_⟩
    · rw [n2, i2, List.flatMap_cons, List.append_assoc]
    · rcases List.mem_cons.1 hx with rfl | h3
      · exact n3
      · exact i4 x h3
end
end Gr

/-! A graph as bytes: what is put is got, and what is got was put: plain laws. -/
namespace Gr
open Oc (be bes)
set_option linter.unusedSimpArgs false
set_option linter.unusedVariables false

/-- a right graph's bytes -/
def putG (pp : List Vm.Ins → List UInt8) (l : List Nd) : List UInt8 := be l.length ++ (normG l).flatMap (putNd pp)
def sortedG (l : List Nd) : Prop := l.Pairwise fun a b => a.id ≤ b.id
/-- all nodes that bytes begin with -/
def graphS (gp : List UInt8 → List Vm.Ins × Int × List UInt8) (s : List UInt8) : List Nd × Rs := nodesS gp 1 (numS 0 8 (s, 0)).1.toNat (numS 0 8 (s, 0)).2
open Classical in
noncomputable def getG (gp : List UInt8 → List Vm.Ins × Int × List UInt8) (s : List UInt8) : List Nd × Int :=
  if (graphS gp s).2.2 ≠ 0 then ([], (graphS gp s).2.2)
  else if 0 < (graphS gp s).2.1.length ∨ ¬ sortedG (graphS gp s).1 then ([], 4)
  else if RightR (graphS gp s).1 then ((graphS gp s).1, 0) else ([], 10)
section
variable {gp : List UInt8 → List Vm.Ins × Int × List UInt8} {pp : List Vm.Ins → List UInt8} {fits : List Vm.Ins → Prop}
theorem RightR.ids {l : List Nd} (h : RightR l) : (ids l).Nodup := ids_nodup.1 fun i n hn => (h.ok i n hn).fst
theorem RightR.at {l : List Nd} (h : RightR l) {n : Nd} (hn : n ∈ l) : ∃ i, OkR l i n := by
  obtain ⟨i, hi, e⟩ := List.mem_iff_getElem.1 hn
  exact ⟨i, h.ok i n (by rw [List.getElem?_eq_getElem hi, e])⟩
theorem RightR.r7 {l : List Nd} (h : RightR l) : ∀ n ∈ l, 0 ≤ n.id ∧ n.id ≤ 7 := fun n hn => by
  obtain ⟨i, hr⟩ := h.at hn
  exact ⟨hr.id0, hr.id7⟩
theorem RightR.okB {l : List Nd} (h : RightR l) (h0 : fits []) (hs : ∀ p, Vm.safe p = true → fits p) (hl : ∀ n ∈ l, n.route.length = 8) : ∀ n ∈ l, OkB fits 1 n := fun n hn => by
  obtain ⟨i, hr⟩ := h.at hn
  refine ⟨⟨hr.id0, hr.id7⟩, ⟨hr.kd0, hr.kd2⟩, hr.fr3, fun x hx => ?_, ?_, ⟨hr.pr1, hr.pr3⟩, hl n hn, fun x hx => ?_⟩
  · obtain ⟨k, hk, e⟩ := List.mem_iff_getElem.1 hx
    obtain ⟨⟨j, m, h1, h2, -⟩, -⟩ := hr.fr k x (by rw [List.getElem?_eq_getElem hk, e])
    obtain ⟨m', h3, h4⟩ := find_some h1
    rw [h2] at h3
    cases h3
    rw [← h4]
    exact h.r7 m (List.mem_of_getElem? h2)
  · by_cases e : n.kind = 1
    · exact hs _ (hr.p1 e)
    · rw [List.length_eq_zero_iff.1 (hr.p0 e)]
      exact h0
  · have := hr.rt x hx
    have := hr.pr3
    omega
/-- the same nodes in another order are right too -/
theorem RightR.perm {l l' : List Nd} (hp : l.Perm l') (h : RightR l) : RightR l' := by
  have hq := (right_iff hp).1 h
  refine (right_iff (List.Perm.refl l')).2 ⟨by rw [← hp.length_eq]; exact hq.len, fun n hn => ?_, (perm_ids hp).nodup_iff.1 hq.un, (perm_ids hp).mem_iff.1 hq.z, by rw [← hp.length_eq, hp.length_eq]; exact hq.so.trans hp.length_eq⟩
  have ho := hq.ok n (hp.mem_iff.2 hn)
  refine ⟨ho.id0, ho.id7, ho.kd, ho.pr1, ho.pr3, ho.rt, fun f hf => ?_⟩
  obtain ⟨j, m, h1, h2, h3⟩ := ho.fr f hf
  have hb := bind_perm hp hq.un f
  rw [h1, Option.bind_some, h2] at hb
  cases hf' : find l' f with
  | none => rw [hf'] at hb; cases hb
  | some j' =>
    rw [hf', Option.bind_some] at hb
    exact ⟨j', m, rfl, hb.symm, h3⟩
theorem norm_self {l : List Nd} (hs : sortedG l) (hu : (ids l).Nodup) (h7 : ∀ n ∈ l, 0 ≤ n.id ∧ n.id ≤ 7) : normG l = l := (norm_unique (List.Perm.refl l) hs hu h7).symm
/-- the document's 'the same graph' -/
theorem same_norm {l : List Nd} (h : RightR l) : (normG l).length = l.length ∧ ∀ n ∈ l, nodeOf (normG l) n.id = some n := by
  have hp := normG_perm h.ids h.r7
  exact ⟨hp.length_eq, fun n hn => bind_find ((perm_ids hp.symm).nodup_iff.1 h.ids) (hp.mem_iff.2 hn)⟩
/-- what is put is got -/
theorem getG_put (hc : Codec gp pp fits) (h0 : fits []) (hs : ∀ p, Vm.safe p = true → fits p) {l : List Nd} (h : RightR l) (hl : ∀ n ∈ l, n.route.length = 8) : getG gp (putG pp l) = (normG l, 0) := by
  have hp := normG_perm h.ids h.r7
  have hok : ∀ n ∈ normG l, OkB fits 1 n := fun n hn => h.okB h0 hs hl n (hp.mem_iff.1 hn)
  have h8 := h.len
  have h1 : graphS gp (putG pp l) = (normG l, ([], 0)) := by
    unfold graphS putG
    rw [numS_put (by omega) (by omega) (by unfold Oc.fitsN; simp; omega)]
    simp only [Int.toNat_natCast]
    have := nodesS_put hc (lp := 1) (by decide) (normG l) [] hok
    rw [List.append_nil, hp.length_eq] at this
    exact this
  unfold getG
  rw [h1]
  simp only
  rw [if_neg (by simp), if_neg (by simp; exact (normG_sorted l).imp fun h => by omega), if_pos (h.perm hp.symm)]
/-- what is got was put, and is right -/
theorem getG_can (hc : Codec gp pp fits) {s : List UInt8} {m : List Nd} (h : getG gp s = (m, 0)) : RightR m ∧ putG pp m = s ∧ sortedG m ∧ ∀ n ∈ m, n.route.length = 8 := by
  unfold getG at h
  by_cases h1 : (graphS gp s).2.2 = 0
  · rw [if_neg (by simpa using h1)] at h
    by_cases h2 : 0 < (graphS gp s).2.1.length ∨ ¬ sortedG (graphS gp s).1
    · rw [if_pos h2] at h
      simp at h
    · rw [if_neg h2] at h
      by_cases h3 : RightR (graphS gp s).1
      · rw [if_pos h3] at h
        simp only [Prod.mk.injEq, and_true] at h
        have hso : sortedG m := by
          rw [← h]
          exact Classical.not_not.1 fun q => h2 (.inr q)
        have hnil : (graphS gp s).2.1 = [] := List.length_eq_zero_iff.1 (by omega)
        rw [h] at h3
        have hg : graphS gp s = (m, ([], 0)) := by
          generalize graphS gp s = g at *
          obtain ⟨a, b, c⟩ := g
          simp only at h h1 hnil
          subst h h1 hnil
          rfl
        unfold graphS at hg
        obtain ⟨i1, i2, i3, i4⟩ := nodesS_can hc _ hg
        obtain ⟨n1, n2, n3, n4⟩ := numS_can (eta (numS 0 8 (s, 0)) i1)
        refine ⟨h3, ?_, hso, fun n hn => (i4 n hn).ol⟩
        unfold putG
        have e1 : (numS 0 8 (s, 0)).2.1 = m.flatMap (putNd pp) := by rw [i2, List.append_nil]
        rw [norm_self hso h3.ids h3.r7, ← e1, show ((m.length : Nat) : Int) = (numS 0 8 (s, 0)).1 by omega]
        exact n2.symm
      · rw [if_neg h3] at h
        simp at h
  · rw [if_pos (by simpa using h1)] at h
    simp only [Prod.mk.injEq] at h
    exact absurd h.2 h1
theorem getG_bad {s : List UInt8} (h : (getG gp s).2 ≠ 0) : (getG gp s).1 = [] := by
  unfold getG at *
  split
  · rfl
  · split
    · rfl
    · split
      · rename_i h1 h2 h3
        rw [if_neg h1, if_neg h2, if_pos h3] at h
        exact absurd rfl h
      · rfl
end
end Gr
