import Derived.Test.YtmdmbimfdpngaaaGreatMs7
import Derived.Test.YtmdmbimfdpngaaaGreatMs3
import Derived.Test.YtmdmbimfdpngaaaGreatMs2
/-! Graphs as bytes: what is written is read again, and what is read was written: plain laws. -/
namespace Gr
open Oc (be bes)
set_option linter.unusedSimpArgs false
set_option linter.unusedVariables false

/-- what Within does: the number, the error, what is left -/
def wn (s : List UInt8) (a b : Int) : Int × Int × List UInt8 := if s.length < 4 then (0, 3, s) else if Oc.num s < a ∨ b < Oc.num s then (0, 2, s) else (Oc.num s, 0, s.drop 4)
/-- a reader that keeps its first error -/
abbrev Rs := List UInt8 × Int
def numS (a b : Int) (s : Rs) : Int × Rs := if s.2 ≠ 0 then (0, s) else ((wn s.1 a b).1, ((wn s.1 a b).2.2, (wn s.1 a b).2.1))
theorem wn_put {a b n : Int} (h1 : a ≤ n) (h2 : n ≤ b) (hf : Oc.fitsN n = true) (t : List UInt8) : wn (be n ++ t) a b = (n, 0, t) := by
  unfold wn
  rw [if_neg (by rw [List.length_append, Oc.be_len]; omega), Oc.num_be n hf, if_neg (by omega)]
  rfl
theorem wn_can {s t : List UInt8} {a b n : Int} (h : wn s a b = (n, 0, t)) : s = be n ++ t ∧ a ≤ n ∧ n ≤ b := by
  unfold wn at h
  by_cases h4 : s.length < 4
  · rw [if_pos h4] at h
    simp at h
  · rw [if_neg h4] at h
    by_cases hr : Oc.num s < a ∨ b < Oc.num s
    · rw [if_pos hr] at h
      simp at h
    · rw [if_neg hr] at h
      simp only [Prod.mk.injEq, true_and] at h
      obtain ⟨rfl, rfl⟩ := h
      match s, h4 with
      | x :: y :: z :: u :: s, _ =>
        refine ⟨?_, by omega, by omega⟩
        rw [Oc.be_num]
        rfl
      | [], h4 => simp at h4
      | [_], h4 => simp at h4
      | [_, _], h4 => simp at h4
      | [_, _, _], h4 => simp at h4
theorem numS_put {a b n : Int} (h1 : a ≤ n) (h2 : n ≤ b) (hf : Oc.fitsN n = true) (t : List UInt8) : numS a b (be n ++ t, 0) = (n, (t, 0)) := by
  unfold numS
  rw [if_neg (by simp)]
  simp only
  rw [wn_put h1 h2 hf]
theorem numS_can {a b n : Int} {s : Rs} {t : List UInt8} (h : numS a b s = (n, (t, 0))) : s.2 = 0 ∧ s.1 = be n ++ t ∧ a ≤ n ∧ n ≤ b := by
  obtain ⟨s, e⟩ := s
  unfold numS at h
  by_cases he : e = 0
  · subst he
    rw [if_neg (by simp)] at h
    simp only at h
    have hw : wn s a b = (n, 0, t) := by
      generalize wn s a b = w at h
      obtain ⟨x, y, z⟩ := w
      simp only [Prod.mk.injEq] at h
      obtain ⟨rfl, rfl, rfl⟩ := h
      rfl
    exact ⟨rfl, wn_can hw⟩
  · rw [if_pos he] at h
    simp only [Prod.mk.injEq] at h
    exact absurd h.2.2 he
theorem numS_err (a b : Int) {s : Rs} (h : s.2 ≠ 0) : numS a b s = (0, s) := by unfold numS; rw [if_pos h]

def listS (a b : Int) : Nat → Rs → List Int × Rs
  | 0, s => ([], s)
  | k + 1, s => ((numS a b s).1 :: (listS a b k (numS a b s).2).1, (listS a b k (numS a b s).2).2)
theorem listS_put {a b : Int} (ha : -2147483648 ≤ a) (hb : b ≤ 2147483647) : ∀ (l : List Int) (t : List UInt8), (∀ x ∈ l, a ≤ x ∧ x ≤ b) → listS a b l.length (bes l ++ t, 0) = (l, (t, 0))
  | [], t, _ => rfl
  | x :: l, t, h => by
    have hx := h x (List.mem_cons_self ..)
    have h1 : numS a b (bes (x :: l) ++ t, 0) = (x, (bes l ++ t, 0)) := by
      show numS a b ((be x ++ bes l) ++ t, 0) = _
      rw [List.append_assoc]
      exact numS_put hx.1 hx.2 (by unfold Oc.fitsN; simp; omega) _
    rw [List.length_cons, listS, h1]
    simp only
    rw [listS_put ha hb l t fun y hy => h y (List.mem_cons_of_mem _ hy)]
theorem listS_can {a b : Int} : ∀ (k : Nat) {s : Rs} {l : List Int} {t : List UInt8}, listS a b k s = (l, (t, 0)) → s.2 = 0 ∧ s.1 = bes l ++ t ∧ l.length = k ∧ ∀ x ∈ l, a ≤ x ∧ x ≤ b
  | 0, s, l, t, h => by
    unfold listS at h
    simp only [Prod.mk.injEq] at h
    obtain ⟨rfl, rfl⟩ := h
    exact ⟨rfl, rfl, rfl, fun x hx => (by cases hx)⟩
  | k + 1, s, l, t, h => by
    rw [listS] at h
    simp only [Prod.mk.injEq] at h
    obtain ⟨rfl, h2⟩ := h
    have ih := listS_can k (l := (listS a b k (numS a b s).2).1) (t := t) (by rw [← h2])
    obtain ⟨i1, i2, i3, i4⟩ := ih
    have hn := numS_can (a := a) (b := b) (n := (numS a b s).1) (s := s) (t := (numS a b s).2.1) (by
      generalize numS a b s = w at *
      obtain ⟨x, y, z⟩ := w
      simp only at i1
      subst i1
      rfl)
    obtain ⟨n1, n2, n3, n4⟩ := hn
    refine ⟨n1, ?_, by rw [List.length_cons, i3], fun x hx => ?_⟩
    · rw [n2, i2]
      show _ = (be _ ++ bes _) ++ t
      rw [List.append_assoc]
    · rcases List.mem_cons.1 hx with rfl | h3
      · exact ⟨n3, n4⟩
      · exact i4 x h3

/-- what is asked of a program's bytes -/
structure Codec (gp : List UInt8 → List Vm.Ins × Int × List UInt8) (pp : List Vm.Ins → List UInt8) (fits : List Vm.Ins → Prop) : Prop where
  put : ∀ l t, fits l → gp (pp l ++ t) = (l, 0, t)
  can : ∀ s l t, gp s = (l, 0, t) → s = pp l ++ t ∧ fits l
section
variable (gp : List UInt8 → List Vm.Ins × Int × List UInt8) (pp : List Vm.Ins → List UInt8) (fits : List Vm.Ins → Prop)
def progS (s : Rs) : List Vm.Ins × Rs := if s.2 ≠ 0 then ([], s) else ((gp s.1).1, ((gp s.1).2.2, (gp s.1).2.1))
def putNd (n : Nd) : List UInt8 := be n.id ++ (be n.kind ++ (be n.frm.length ++ (bes n.frm ++ (pp n.prog ++ (be n.par ++ bes n.route)))))
def nodeS (lp : Int) (s : Rs) : Nd × Rs :=
  let a := numS 0 7 s
  let b := numS 0 2 a.2
  let m := numS 0 3 b.2
  let f := listS 0 7 m.1.toNat m.2
  let p := progS gp f.2
  let r := numS lp 3 p.2
  let o := listS 0 2 8 r.2
  (⟨a.1, b.1, f.1, p.1, r.1, o.1⟩, o.2)
structure OkB (lp : Int) (n : Nd) : Prop where
  i : 0 ≤ n.id ∧ n.id ≤ 7
  k : 0 ≤ n.kind ∧ n.kind ≤ 2
  m : n.frm.length ≤ 3
  f : ∀ x ∈ n.frm, 0 ≤ x ∧ x ≤ 7
  p : fits n.prog
  r : lp ≤ n.par ∧ n.par ≤ 3
  ol : n.route.length = 8
  o : ∀ x ∈ n.route, 0 ≤ x ∧ x ≤ 2
end
section
variable {gp : List UInt8 → List Vm.Ins × Int × List UInt8} {pp : List Vm.Ins → List UInt8} {fits : List Vm.Ins → Prop}
theorem progS_put (hc : Codec gp pp fits) {l : List Vm.Ins} (h : fits l) (t : List UInt8) : progS gp (pp l ++ t, 0) = (l, (t, 0)) := by
  unfold progS
  rw [if_neg (by simp)]
  simp only
  rw [hc.put l t h]
theorem progS_can (hc : Codec gp pp fits) {s : Rs} {l : List Vm.Ins} {t : List UInt8} (h : progS gp s = (l, (t, 0))) : s.2 = 0 ∧ s.1 = pp l ++ t ∧ fits l := by
  obtain ⟨s, e⟩ := s
  unfold progS at h
  by_cases he : e = 0
  · subst he
    rw [if_neg (by simp)] at h
    simp only at h
    have hw : gp s = (l, 0, t) := by
      generalize gp s = w at h
      obtain ⟨x, y, z⟩ := w
      simp only [Prod.mk.injEq] at h
      obtain ⟨rfl, rfl, rfl⟩ := h
      rfl
    exact ⟨rfl, hc.can s l t hw⟩
  · rw [if_pos he] at h
    simp only [Prod.mk.injEq] at h
    exact absurd h.2.2 he
theorem eta {α : Type} (x : α × Rs) (h : x.2.2 = 0) : x = (x.1, (x.2.1, 0)) := by
  obtain ⟨a, b, c⟩ := x
  simp only at h
  subst h
  rfl
theorem nodeS_put (hc : Codec gp pp fits) {lp : Int} (hlp : -2147483648 ≤ lp) {n : Nd} (h : OkB fits lp n) (t : List UInt8) : nodeS gp lp (putNd pp n ++ t, 0) = (n, (t, 0)) := by
  obtain ⟨id, kind, frm, prog, par, route⟩ := n
  obtain ⟨h1, h2, h3, h4, h5, h6, h7, h8⟩ := h
  simp only at h1 h2 h3 h4 h5 h6 h7 h8
  unfold nodeS putNd
  simp only [List.append_assoc]
  rw [numS_put h1.1 h1.2 (by unfold Oc.fitsN; simp; omega)]
  simp only
  rw [numS_put h2.1 h2.2 (by unfold Oc.fitsN; simp; omega)]
  simp only
  rw [numS_put (by omega) (by omega) (by unfold Oc.fitsN; simp; omega)]
  simp only [Int.toNat_natCast]
  rw [listS_put (by decide) (by decide) frm _ h4]
  simp only
  rw [progS_put hc h5]
  simp only
  rw [numS_put h6.1 h6.2 (by unfold Oc.fitsN; simp; omega)]
  simp only
  have h9 := listS_put (a := 0) (b := 2) (by decide) (by decide) route t h8
  rw [h7] at h9
  rw [h9]
theorem nodeS_can (hc : Codec gp pp fits) {lp : Int} {s : Rs} {n : Nd} {t : List UInt8} (h : nodeS gp lp s = (n, (t, 0))) : s.2 = 0 ∧ s.1 = putNd pp n ++ t ∧ OkB fits lp n := by
  unfold nodeS at h
  simp only [Prod.mk.injEq] at h
  obtain ⟨rfl, h⟩ := h
  generalize ha : numS 0 7 s = a at *
  generalize hb : numS 0 2 a.2 = b at *
  generalize hm : numS 0 3 b.2 = m at *
  generalize hf : listS 0 7 m.1.toNat m.2 = f at *
  generalize hp : progS gp f.2 = p at *
  generalize hr : numS lp 3 p.2 = r at *
  generalize ho : listS 0 2 8 r.2 = o at *
  obtain ⟨o1, o2⟩ := o
  simp only at h
  subst h
  obtain ⟨o3, o4, o5, o6⟩ := listS_can 8 ho
  obtain ⟨r3, r4, r5, r6⟩ := numS_can (hr.trans (eta r o3))
  obtain ⟨p3, p4, p5⟩ := progS_can hc (hp.trans (eta p r3))
  obtain ⟨f3, f4, f5, f6⟩ := listS_can _ (hf.trans (eta f p3))
  obtain ⟨m3, m4, m5, m6⟩ := numS_can (hm.trans (eta m f3))
  obtain ⟨b3, b4, b5, b6⟩ := numS_can (hb.trans (eta b m3))
  obtain ⟨a3, a4, a5, a6⟩ := numS_can (ha.trans (eta a b3))
  refine ⟨a3, ?_, ⟨⟨a5, a6⟩, ⟨b5, b6⟩, by simp only; omega, f6, p5, ⟨r5, r6⟩, o5, o6⟩⟩
  unfold putNd
  simp only [List.append_assoc]
  rw [a4, b4, m4, f4, p4, r4, o4, show ((f.1.length : Nat) : Int) = m.1 by omega]
end
end Gr

/-! A graph as bytes: what is put is got, and what is got was put: plain laws. -/
namespace Gr
open Oc (be bes)
set_option linter.unusedSimpArgs false
set_option linter.unusedVariables false

def sortedG (l : List Nd) : Prop := l.Pairwise fun a b => a.id ≤ b.id
section
variable {gp : List UInt8 → List Vm.Ins × Int × List UInt8} {pp : List Vm.Ins → List UInt8} {fits : List Vm.Ins → Prop}
theorem RightR.ids {l : List Nd} (h : RightR l) : (ids l).Nodup := ids_nodup.1 fun i n hn => (h.ok i n hn).fst
theorem RightR.at {l : List Nd} (h : RightR l) {n : Nd} (hn : n ∈ l) : ∃ i, OkR l i n := by
  obtain ⟨i, hi, e⟩ := List.mem_iff_getElem.1 hn
  exact ⟨i, h.ok i n (by rw [List.getElem?_eq_getElem hi, e])⟩
theorem RightR.r7 {l : List Nd} (h : RightR l) : ∀ n ∈ l, 0 ≤ n.id ∧ n.id ≤ 7 := fun n hn => by
  obtain ⟨i, hr⟩ := h.at hn
  exact ⟨hr.id0, hr.id7⟩
theorem RightR.okB {l : List Nd} (h : RightR l) (h0 : fits []) (hs : ∀ p, Vm.safe p = true → fits p) (hl : ∀ n ∈ l, n.route.length = 8) : ∀ n ∈ l, OkB fits 1 n := fun n hn => by
  obtain ⟨i, hr⟩ := h.at hn
  refine ⟨⟨hr.id0, hr.id7⟩, ⟨hr.kd0, hr.kd2⟩, hr.fr3, fun x hx => ?_, ?_, ⟨hr.pr1, hr.pr3⟩, hl n hn, fun x hx => ?_⟩
  · obtain ⟨k, hk, e⟩ := List.mem_iff_getElem.1 hx
    obtain ⟨⟨j, m, h1, h2, -⟩, -⟩ := hr.fr k x (by rw [List.getElem?_eq_getElem hk, e])
    obtain ⟨m', h3, h4⟩ := find_some h1
    rw [h2] at h3
    cases h3
    rw [← h4]
    exact h.r7 m (List.mem_of_getElem? h2)
  · by_cases e : n.kind = 1
    · exact hs _ (hr.p1 e)
    · rw [List.length_eq_zero_iff.1 (hr.p0 e)]
      exact h0
  · have := hr.rt x hx
    have := hr.pr3
    omega
/-- the same nodes in another order are right too -/
theorem RightR.perm {l l' : List Nd} (hp : l.Perm l') (h : RightR l) : RightR l' := by
  have hq := (right_iff hp).1 h
  refine (right_iff (List.Perm.refl l')).2 ⟨by rw [← hp.length_eq]; exact hq.len, fun n hn => ?_, (perm_ids hp).nodup_iff.1 hq.un, (perm_ids hp).mem_iff.1 hq.z, by rw [← hp.length_eq, hp.length_eq]; exact hq.so.trans hp.length_eq⟩
  have ho := hq.ok n (hp.mem_iff.2 hn)
  refine ⟨ho.id0, ho.id7, ho.kd, ho.pr1, ho.pr3, ho.rt, fun f hf => ?_⟩
  obtain ⟨j, m, h1, h2, h3⟩ := ho.fr f hf
  have hb := bind_perm hp hq.un f
  rw [h1, Option.bind_some, h2] at hb
  cases hf' : find l' f with
  | none => rw [hf'] at hb; cases hb
  | some j' =>
    rw [hf', Option.bind_some] at hb
    exact ⟨j', m, rfl, hb.symm, h3⟩
end
end Gr

/-! Plans as bytes: plain laws. -/
namespace Gr
open Oc (be bes)
set_option linter.unusedSimpArgs false
set_option linter.unusedVariables false

structure Stp where
  kind : Int
  nd : Nd
  reset : Bool
def zeros : List Int := List.replicate 8 0
/-- a step without what doesn't matter -/
def cleanS (s : Stp) : Stp :=
  if s.kind = 1 then ⟨1, ⟨s.nd.id, 0, [], s.nd.prog, 0, zeros⟩, s.reset⟩
  else if s.kind = 2 then ⟨2, s.nd, false⟩
  else if s.kind = 3 then ⟨3, ⟨s.nd.id, 0, [], [], 0, zeros⟩, false⟩
  else if s.kind = 4 then ⟨4, ⟨s.nd.id, 0, [], [], s.nd.par, s.nd.route⟩, false⟩
  else if s.kind = 5 then ⟨5, ⟨s.nd.id, 0, s.nd.frm, [], 0, zeros⟩, false⟩
  else ⟨0, ⟨0, 0, [], [], 0, zeros⟩, false⟩
theorem clean_kind {s : Stp} (h : 1 ≤ s.kind ∧ s.kind ≤ 5) : (cleanS s).kind = s.kind := by
  unfold cleanS
  rcases (show s.kind = 1 ∨ s.kind = 2 ∨ s.kind = 3 ∨ s.kind = 4 ∨ s.kind = 5 by omega) with e | e | e | e | e <;> simp [e]
theorem kind_clean {s : Stp} (h : 1 ≤ (cleanS s).kind) : 1 ≤ s.kind ∧ s.kind ≤ 5 := by
  by_cases h1 : s.kind = 1 ∨ s.kind = 2 ∨ s.kind = 3 ∨ s.kind = 4 ∨ s.kind = 5
  · omega
  · exfalso
    unfold cleanS at h
    rw [if_neg (by omega), if_neg (by omega), if_neg (by omega), if_neg (by omega), if_neg (by omega)] at h
    simp at h
theorem clean_clean (s : Stp) : cleanS (cleanS s) = cleanS s := by
  by_cases h1 : s.kind = 1
  · simp [cleanS, h1]
  by_cases h2 : s.kind = 2
  · simp [cleanS, h2]
  by_cases h3 : s.kind = 3
  · simp [cleanS, h3]
  by_cases h4 : s.kind = 4
  · simp [cleanS, h4]
  by_cases h5 : s.kind = 5
  · simp [cleanS, h5]
  · simp [cleanS, h1, h2, h3, h4, h5]
section
variable (gp : List UInt8 → List Vm.Ins × Int × List UInt8) (pp : List Vm.Ins → List UInt8) (fits : List Vm.Ins → Prop)
def putSt (s : Stp) : List UInt8 := be (cleanS s).kind ++ (be (if (cleanS s).reset then 1 else 0) ++ putNd pp (cleanS s).nd)
def putPl (p : List Stp) : List UInt8 := be p.length ++ p.flatMap (putSt pp)
def OkS (s : Stp) : Prop := (1 ≤ s.kind ∧ s.kind ≤ 5) ∧ OkB fits 0 (cleanS s).nd
def OkPl (p : List Stp) : Prop := 1 ≤ p.length ∧ p.length ≤ 6 ∧ ∀ s ∈ p, OkS fits s
def stepS (s : Rs) : Stp × Rs :=
  let k := numS 1 5 s
  let r := numS 0 1 k.2
  let n := nodeS gp 0 r.2
  (⟨k.1, n.1, r.1 == 1⟩, n.2)
def stepsS : Nat → Rs → List Stp × Rs
  | 0, s => ([], s)
  | k + 1, s => ((stepS gp s).1 :: (stepsS k (stepS gp s).2).1, (stepsS k (stepS gp s).2).2)
def planS (s : List UInt8) : List Stp × Rs := stepsS gp (numS 1 6 (s, 0)).1.toNat (numS 1 6 (s, 0)).2
open Classical in
noncomputable def getPl (s : List UInt8) : List Stp × Int :=
  if (planS gp s).2.2 ≠ 0 then ([], (planS gp s).2.2)
  else if 0 < (planS gp s).2.1.length ∨ ¬ ∀ x ∈ (planS gp s).1, cleanS x = x then ([], 4)
  else ((planS gp s).1, 0)
end
section
variable {gp : List UInt8 → List Vm.Ins × Int × List UInt8} {pp : List Vm.Ins → List UInt8} {fits : List Vm.Ins → Prop}
theorem stepS_put (hc : Codec gp pp fits) {s : Stp} (h : OkS fits s) (t : List UInt8) : stepS gp (putSt pp s ++ t, 0) = (cleanS s, (t, 0)) := by
  obtain ⟨hk, hn⟩ := h
  have hk2 := clean_kind hk
  unfold putSt stepS
  generalize cleanS s = c at *
  obtain ⟨ck, cn, cr⟩ := c
  simp only at hk2 hn
  subst hk2
  simp only [List.append_assoc]
  rw [numS_put hk.1 hk.2 (by unfold Oc.fitsN; simp; omega)]
  simp only
  rw [numS_put (by split <;> omega) (by split <;> omega) (by cases cr <;> rfl)]
  simp only
  rw [nodeS_put hc (by decide) hn]
  cases cr <;> rfl
theorem stepS_can (hc : Codec gp pp fits) {s : Rs} {x : Stp} {t : List UInt8} (h : stepS gp s = (x, (t, 0))) : s.2 = 0 ∧ s.1 = be x.kind ++ (be (if x.reset then 1 else 0) ++ (putNd pp x.nd ++ t)) ∧ (1 ≤ x.kind ∧ x.kind ≤ 5) ∧ OkB fits 0 x.nd := by
  unfold stepS at h
  simp only [Prod.mk.injEq] at h
  obtain ⟨rfl, h⟩ := h
  generalize hk : numS 1 5 s = k at *
  generalize hr : numS 0 1 k.2 = r at *
  generalize hn : nodeS gp 0 r.2 = n at *
  obtain ⟨n1, n2⟩ := n
  simp only at h
  subst h
  obtain ⟨n3, n4, n5⟩ := nodeS_can hc hn
  obtain ⟨r3, r4, r5, r6⟩ := numS_can (hr.trans (eta r n3))
  obtain ⟨k3, k4, k5, k6⟩ := numS_can (hk.trans (eta k r3))
  refine ⟨k3, ?_, ⟨k5, k6⟩, n5⟩
  rw [k4, r4, n4]
  rcases (show r.1 = 0 ∨ r.1 = 1 by omega) with e | e <;> simp [e]
theorem stepsS_put (hc : Codec gp pp fits) : ∀ (p : List Stp) (t : List UInt8), (∀ s ∈ p, OkS fits s) → stepsS gp p.length (p.flatMap (putSt pp) ++ t, 0) = (p.map cleanS, (t, 0))
  | [], t, _ => rfl
  | s :: p, t, h => by
    have h1 : stepS gp ((s :: p).flatMap (putSt pp) ++ t, 0) = (cleanS s, (p.flatMap (putSt pp) ++ t, 0)) := by
      rw [List.flatMap_cons, List.append_assoc]
      exact stepS_put hc (h s (List.mem_cons_self ..)) _
    rw [List.length_cons, stepsS, h1]
    simp only
    rw [stepsS_put hc p t fun y hy => h y (List.mem_cons_of_mem _ hy)]
    rfl
theorem stepsS_can (hc : Codec gp pp fits) : ∀ (k : Nat) {s : Rs} {p : List Stp} {t : List UInt8}, stepsS gp k s = (p, (t, 0)) → (∀ x ∈ p, cleanS x = x) → s.2 = 0 ∧ s.1 = p.flatMap (putSt pp) ++ t ∧ p.length = k ∧ ∀ x ∈ p, OkS fits x
  | 0, s, p, t, h, _ => by
    unfold stepsS at h
    simp only [Prod.mk.injEq] at h
    obtain ⟨rfl, rfl⟩ := h
    exact ⟨rfl, rfl, rfl, fun x hx => (by cases hx)⟩
  | k + 1, s, p, t, h, hcl => by
    rw [stepsS] at h
    simp only [Prod.mk.injEq] at h
    obtain ⟨rfl, h2⟩ := h
    obtain ⟨i1, i2, i3, i4⟩ := stepsS_can hc k (p := (stepsS gp k (stepS gp s).2).1) (t := t) (by rw [← h2]) fun x hx => hcl x (List.mem_cons_of_mem _ hx)
    obtain ⟨n1, n2, n3, n4⟩ := stepS_can hc (eta (stepS gp s) i1)
    have hx := hcl _ (List.mem_cons_self ..)
    refine ⟨n1, ?_, by rw [List.length_cons, i3], fun x hx2 => ?_⟩
    · rw [n2, i2, List.flatMap_cons, List.append_assoc]
      show _ = putSt pp _ ++ _
      unfold putSt
      rw [hx]
      simp only [List.append_assoc]
    · rcases List.mem_cons.1 hx2 with rfl | h3
      · exact ⟨n3, by rw [hx]; exact n4⟩
      · exact i4 x h3
theorem map_clean {p : List Stp} (h : ∀ x ∈ p, cleanS x = x) : p.map cleanS = p := by
  rw [List.map_congr_left (g := id) h, List.map_id]
/-- what is put is got, without what doesn't matter -/
theorem getPl_put (hc : Codec gp pp fits) {p : List Stp} (h : OkPl fits p) : getPl gp (putPl pp p) = (p.map cleanS, 0) := by
  obtain ⟨h1, h6, hs⟩ := h
  have hg : planS gp (putPl pp p) = (p.map cleanS, ([], 0)) := by
    unfold planS putPl
    rw [numS_put (by omega) (by omega) (by unfold Oc.fitsN; simp; omega)]
    simp only [Int.toNat_natCast]
    have := stepsS_put hc p [] hs
    rw [List.append_nil] at this
    exact this
  unfold getPl
  rw [hg]
  simp only
  rw [if_neg (by simp), if_neg]
  rintro (h | h)
  · simp at h
  · refine h fun x hx => ?_
    obtain ⟨y, -, rfl⟩ := List.mem_map.1 hx
    exact clean_clean y
/-- what is got was put, and may be told -/
theorem getPl_can (hc : Codec gp pp fits) {s : List UInt8} {q : List Stp} (h : getPl gp s = (q, 0)) : OkPl fits q ∧ putPl pp q = s ∧ ∀ x ∈ q, cleanS x = x := by
  unfold getPl at h
  by_cases h1 : (planS gp s).2.2 = 0
  · rw [if_neg (by simpa using h1)] at h
    by_cases h2 : 0 < (planS gp s).2.1.length ∨ ¬ ∀ x ∈ (planS gp s).1, cleanS x = x
    · rw [if_pos h2] at h
      simp at h
    · rw [if_neg h2] at h
      simp only [Prod.mk.injEq, and_true] at h
      have hcl : ∀ x ∈ q, cleanS x = x := by
        rw [← h]
        exact Classical.not_not.1 fun r => h2 (.inr r)
      have hnil : (planS gp s).2.1 = [] := List.length_eq_zero_iff.1 (by omega)
      have hg : planS gp s = (q, ([], 0)) := by
        generalize planS gp s = g at *
        obtain ⟨a, b, c⟩ := g
        simp only at h h1 hnil
        subst h h1 hnil
        rfl
      unfold planS at hg
      obtain ⟨i1, i2, i3, i4⟩ := stepsS_can hc _ hg hcl
      obtain ⟨n1, n2, n3, n4⟩ := numS_can (eta (numS 1 6 (s, 0)) i1)
      refine ⟨⟨by omega, by omega, i4⟩, ?_, hcl⟩
      unfold putPl
      have e1 : (numS 1 6 (s, 0)).2.1 = q.flatMap (putSt pp) := by rw [i2, List.append_nil]
      rw [← e1, show ((q.length : Nat) : Int) = (numS 1 6 (s, 0)).1 by omega]
      exact n2.symm
  · rw [if_pos (by simpa using h1)] at h
    simp only [Prod.mk.injEq] at h
    exact absurd h.2 h1
end
end Gr

/-! Manifests as bytes: plain laws. -/
namespace Gr
open Oc (be bes)
open Ga Tab
set_option linter.unusedSimpArgs false
set_option linter.unusedVariables false

end Gr

/-! A manifest as bytes: what is put is got, and what is got was put: plain laws. -/
namespace Gr
open Oc (be bes)
open Ga Tab
set_option linter.unusedSimpArgs false
set_option linter.unusedVariables false

structure Ln where
  sink : Int
  frm : Int
  key : Int
  v : Val
structure Mf where
  epoch : Int
  plans : Int
  offs : List Int
  graph : List Nd
  ents : List En
  out : List Ln
  plan : List Stp
def okV (v : Int × Int) : Prop := (-2147483648 ≤ v.1 ∧ v.1 ≤ 2147483647) ∧ (-2147483648 ≤ v.2 ∧ v.2 ≤ 2147483647)
def okE (x : En) : Prop := (((0 ≤ x.node ∧ x.node ≤ 7) ∧ (0 ≤ x.key ∧ x.key ≤ 63)) ∧ okV x.c0) ∧ okV x.c1
def okLn (x : Ln) : Prop := (((0 ≤ x.sink ∧ x.sink ≤ 7) ∧ (0 ≤ x.frm ∧ x.frm ≤ 7)) ∧ (0 ≤ x.key ∧ x.key ≤ 63)) ∧ okV x.v
section
variable (gp : List UInt8 → List Vm.Ins × Int × List UInt8) (pp : List Vm.Ins → List UInt8) (fits : List Vm.Ins → Prop)
def okP (p : List Stp) : Prop := p = [] ∨ OkPl fits p ∧ (∀ x ∈ p, cleanS x = x) ∧ ((putPl pp p).length : Int) ≤ 8000
def okM (m : Mf) : Prop := (0 ≤ m.epoch ∧ m.epoch ≤ 2147483647) ∧ (0 ≤ m.plans ∧ m.plans ≤ 2147483647) ∧ ((m.offs.length : Int) ≤ 3 ∧ ∀ x ∈ m.offs, 0 ≤ x ∧ x ≤ 400) ∧ ((m.graph.length : Int) ≤ 8 ∧ ∀ n ∈ m.graph, OkB fits 1 n) ∧ ((m.ents.length : Int) ≤ 512 ∧ ∀ x ∈ m.ents, okE x) ∧ ((m.out.length : Int) ≤ 4000 ∧ ∀ x ∈ m.out, okLn x) ∧ okP pp fits m.plan
end
section
variable {gp : List UInt8 → List Vm.Ins × Int × List UInt8} {pp : List Vm.Ins → List UInt8} {fits : List Vm.Ins → Prop}
end
end Gr

/-! Nodes in memory: thirteen cells each, two slices among them. -/
namespace Go.Proofs.YtmdmbimfdpngaaaGreat
set_option linter.unusedSimpArgs false
set_option linter.unusedVariables false
open Go.RowKit Ga
set_option maxRecDepth 100000

abbrev IntsAt (w : World) (v : Value) (l : List Int) : Prop := RowsAt 1 (fun x => [Value.int .i64 x]) w v l
/-- a node as it lies: its slices are values -/
structure NdC where
  id : Int
  kind : Int
  af : Option Addr
  nf : Nat
  cf : Nat
  ap : Option Addr
  np : Nat
  cp : Nat
  par : Int
  r0 : Int
  r1 : Int
  r2 : Int
  r3 : Int
  r4 : Int
  r5 : Int
  r6 : Int
  r7 : Int
instance : Inhabited NdC := ⟨⟨0, 0, none, 0, 0, none, 0, 0, 0, 0, 0, 0, 0, 0, 0, 0, 0⟩⟩
abbrev NdC.vf (c : NdC) : Value := .slice c.af c.nf c.cf
abbrev NdC.vp (c : NdC) : Value := .slice c.ap c.np c.cp
def encNd (n : NdC) : List Value := [.int .i64 n.id, .int .i64 n.kind, .slice n.af n.nf n.cf, .slice n.ap n.np n.cp, .int .i64 n.par, .int .i64 n.r0, .int .i64 n.r1, .int .i64 n.r2, .int .i64 n.r3, .int .i64 n.r4, .int .i64 n.r5, .int .i64 n.r6, .int .i64 n.r7]
theorem encNd_len (n : NdC) : (encNd n).length = 13 := rfl
structure NodeIs (w : World) (c : NdC) (n : Gr.Nd) : Prop where
  id : n.id = c.id
  kind : n.kind = c.kind
  f : IntsAt w c.vf n.frm
  p : ValsAt w c.vp n.prog
  par : n.par = c.par
  route : n.route = [c.r0, c.r1, c.r2, c.r3, c.r4, c.r5, c.r6, c.r7]
  fc : n.frm.length ≤ c.cf
theorem NodeIs.grew {w w' : World} {c : NdC} {n : Gr.Nd} (h : NodeIs w c n) (g : Grew w w') : NodeIs w' c n :=
  { h with f := h.f.grew g, p := h.p.grew g }
theorem IntsAt.one {w : World} {v : Value} {l : List Int} (h : IntsAt w v l) : v.oneCell' = true := by
  obtain ⟨a, cap, rfl, -⟩ := h
  rfl
theorem ValsAt.one {w : World} {v : Value} {l : List Val} (h : ValsAt w v l) : v.oneCell' = true := by
  obtain ⟨a, cap, rfl, -⟩ := h
  rfl
theorem encNd_one (c : NdC) : ∀ u ∈ encNd c, u.oneCell' = true := by
  intro u hu
  simp [encNd] at hu
  rcases hu with rfl | rfl | rfl | rfl | rfl | rfl | rfl | rfl | rfl | rfl | rfl | rfl | rfl <;> rfl
/-- .. written out -/
theorem NodeIs.lit {w : World} {c : NdC} {n : Gr.Nd} (h : NodeIs w c n) : ∃ id kind af cf ap cp par r0 r1 r2 r3 r4 r5 r6 r7, c = ⟨id, kind, af, n.frm.length, cf, ap, n.prog.length, cp, par, r0, r1, r2, r3, r4, r5, r6, r7⟩ := by
  obtain ⟨id, kind, af, nf, cf, ap, np, cp, par, r0, r1, r2, r3, r4, r5, r6, r7⟩ := c
  obtain ⟨af', cf', e1⟩ := h.f.len
  obtain ⟨ap', cp', e2⟩ := h.p.len
  simp only [NdC.vf, NdC.vp] at e1 e2
  cases e1
  cases e2
  exact ⟨id, kind, _, _, _, _, par, r0, r1, r2, r3, r4, r5, r6, r7, rfl⟩
def NodesAt (w : World) (v : Value) (l : List Gr.Nd) : Prop := ∃ lc : List NdC, RowsAt 13 encNd w v lc ∧ lc.length = l.length ∧ ∀ (i : Nat) (c : NdC) (n : Gr.Nd), lc[i]? = some c → l[i]? = some n → NodeIs w c n
theorem NodesAt.grew {w w' : World} {v : Value} {l : List Gr.Nd} (h : NodesAt w v l) (g : Grew w w') : NodesAt w' v l := by
  obtain ⟨lc, h1, h2, h3⟩ := h
  exact ⟨lc, h1.grew g, h2, fun i c n hc hn => (h3 i c n hc hn).grew g⟩
theorem NodeIs.r8 {w : World} {c : NdC} {n : Gr.Nd} (h : NodeIs w c n) : n.route.length = 8 := by rw [h.route]; rfl
theorem NodesAt.r8 {w : World} {v : Value} {l : List Gr.Nd} (h : NodesAt w v l) : ∀ n ∈ l, n.route.length = 8 := by
  obtain ⟨lc, h1, h2, h3⟩ := h
  intro n hn
  obtain ⟨i, hi, e⟩ := List.mem_iff_getElem.1 hn
  exact (h3 i _ n (List.getElem?_eq_getElem (by omega)) (by rw [List.getElem?_eq_getElem hi, e])).r8
/-- the slice and its cells, the node as it lies -/
theorem NodesAt.openC {w : World} {v : Value} {l : List Gr.Nd} (h : NodesAt w v l) : ∃ a cap, v = .slice a l.length cap ∧ l.length ≤ 9223372036854775807 ∧ ∀ i (hi : i < l.length), ∃ b off c, a = some ⟨b, off, none⟩ ∧ Pre b w ∧ NodeIs w c l[i] ∧
    w.cell? ⟨b, off + i * 13, none⟩ = some (.int .i64 c.id) ∧ w.cell? ⟨b, off + i * 13 + 1, none⟩ = some (.int .i64 c.kind) ∧ w.cell? ⟨b, off + i * 13 + 2, none⟩ = some (.slice c.af c.nf c.cf) ∧ w.cell? ⟨b, off + i * 13 + 3, none⟩ = some (.slice c.ap c.np c.cp) ∧ w.cell? ⟨b, off + i * 13 + 4, none⟩ = some (.int .i64 c.par) ∧
    w.cell? ⟨b, off + i * 13 + 5, none⟩ = some (.int .i64 c.r0) ∧ w.cell? ⟨b, off + i * 13 + 6, none⟩ = some (.int .i64 c.r1) ∧ w.cell? ⟨b, off + i * 13 + 7, none⟩ = some (.int .i64 c.r2) ∧ w.cell? ⟨b, off + i * 13 + 8, none⟩ = some (.int .i64 c.r3) ∧ w.cell? ⟨b, off + i * 13 + 9, none⟩ = some (.int .i64 c.r4) ∧ w.cell? ⟨b, off + i * 13 + 10, none⟩ = some (.int .i64 c.r5) ∧ w.cell? ⟨b, off + i * 13 + 11, none⟩ = some (.int .i64 c.r6) ∧ w.cell? ⟨b, off + i * 13 + 12, none⟩ = some (.int .i64 c.r7) := by
  obtain ⟨lc, ⟨a, cap, rfl, hm, hx⟩, h2, h3⟩ := h
  refine ⟨a, cap, by rw [h2], by unfold maxLen at hm; omega, fun i hi => ?_⟩
  have hi' : i < lc.length := by omega
  obtain ⟨b, off, rfl, hc⟩ := hx (by intro e; subst e; simp at hi')
  have hn := h3 i lc[i] l[i] (List.getElem?_eq_getElem hi') (List.getElem?_eq_getElem hi)
  have hj := fun j u => hc i lc[i] (List.getElem?_eq_getElem hi') j u
  have h0 := hj 0 _ rfl
  exact ⟨b, off, lc[i], rfl, Pre.mk (World.block_lt_of_cell? w _ h0), hn, h0, hj 1 _ rfl, hj 2 _ rfl, hj 3 _ rfl, hj 4 _ rfl, hj 5 _ rfl, hj 6 _ rfl, hj 7 _ rfl, hj 8 _ rfl, hj 9 _ rfl, hj 10 _ rfl, hj 11 _ rfl, hj 12 _ rfl⟩
/-- .. what the first cells hold, in the node's own words -/
theorem NodesAt.open' {w : World} {v : Value} {l : List Gr.Nd} (h : NodesAt w v l) : ∃ a cap, v = .slice a l.length cap ∧ l.length ≤ 9223372036854775807 ∧ ∀ i (hi : i < l.length), ∃ b off vf vp, a = some ⟨b, off, none⟩ ∧ Pre b w ∧ IntsAt w vf l[i].frm ∧ ValsAt w vp l[i].prog ∧
    w.cell? ⟨b, off + i * 13, none⟩ = some (.int .i64 l[i].id) ∧ w.cell? ⟨b, off + i * 13 + 1, none⟩ = some (.int .i64 l[i].kind) ∧ w.cell? ⟨b, off + i * 13 + 2, none⟩ = some vf ∧ w.cell? ⟨b, off + i * 13 + 3, none⟩ = some vp ∧ w.cell? ⟨b, off + i * 13 + 4, none⟩ = some (.int .i64 l[i].par) ∧
    ∀ g, g < 8 → w.cell? ⟨b, off + i * 13 + 5 + g, none⟩ = some (.int .i64 (l[i].route.getD g 0)) := by
  obtain ⟨a, cap, rfl, hm, hx⟩ := h.openC
  refine ⟨a, cap, rfl, hm, fun i hi => ?_⟩
  obtain ⟨b, off, c, rfl, hb, hn, c0, c1, c2, c3, c4, c5, c6, c7, c8, c9, c10, c11, c12⟩ := hx i hi
  refine ⟨b, off, c.vf, c.vp, rfl, hb, hn.f, hn.p, by rw [hn.id]; exact c0, by rw [hn.kind]; exact c1, c2, c3, by rw [hn.par]; exact c4, fun g hg => ?_⟩
  rw [hn.route]
  rcases (show g = 0 ∨ g = 1 ∨ g = 2 ∨ g = 3 ∨ g = 4 ∨ g = 5 ∨ g = 6 ∨ g = 7 by omega) with rfl | rfl | rfl | rfl | rfl | rfl | rfl | rfl
  · exact c5
  · exact c6
  · exact c7
  · exact c8
  · exact c9
  · exact c10
  · exact c11
  · exact c12
/-- .. all thirteen cells written out -/
theorem NodesAt.open13 {w : World} {v : Value} {l : List Gr.Nd} (h : NodesAt w v l) : ∃ a cap, v = .slice a l.length cap ∧ l.length ≤ 9223372036854775807 ∧ ∀ i (hi : i < l.length), ∃ b off vf vp, a = some ⟨b, off, none⟩ ∧ Pre b w ∧ IntsAt w vf l[i].frm ∧ ValsAt w vp l[i].prog ∧
    w.cell? ⟨b, off + i * 13, none⟩ = some (.int .i64 l[i].id) ∧ w.cell? ⟨b, off + i * 13 + 1, none⟩ = some (.int .i64 l[i].kind) ∧ w.cell? ⟨b, off + i * 13 + 2, none⟩ = some vf ∧ w.cell? ⟨b, off + i * 13 + 3, none⟩ = some vp ∧ w.cell? ⟨b, off + i * 13 + 4, none⟩ = some (.int .i64 l[i].par) ∧
    w.cell? ⟨b, off + i * 13 + 5, none⟩ = some (.int .i64 (l[i].route.getD 0 0)) ∧ w.cell? ⟨b, off + i * 13 + 6, none⟩ = some (.int .i64 (l[i].route.getD 1 0)) ∧ w.cell? ⟨b, off + i * 13 + 7, none⟩ = some (.int .i64 (l[i].route.getD 2 0)) ∧ w.cell? ⟨b, off + i * 13 + 8, none⟩ = some (.int .i64 (l[i].route.getD 3 0)) ∧
    w.cell? ⟨b, off + i * 13 + 9, none⟩ = some (.int .i64 (l[i].route.getD 4 0)) ∧ w.cell? ⟨b, off + i * 13 + 10, none⟩ = some (.int .i64 (l[i].route.getD 5 0)) ∧ w.cell? ⟨b, off + i * 13 + 11, none⟩ = some (.int .i64 (l[i].route.getD 6 0)) ∧ w.cell? ⟨b, off + i * 13 + 12, none⟩ = some (.int .i64 (l[i].route.getD 7 0)) := by
  obtain ⟨a, cap, rfl, hm, hx⟩ := h.open'
  refine ⟨a, cap, rfl, hm, fun i hi => ?_⟩
  obtain ⟨b, off, vf, vp, e, hb, hf, hp, c0, c1, c2, c3, c4, cr⟩ := hx i hi
  exact ⟨b, off, vf, vp, e, hb, hf, hp, c0, c1, c2, c3, c4, cr 0 (by decide), cr 1 (by decide), cr 2 (by decide), cr 3 (by decide), cr 4 (by decide), cr 5 (by decide), cr 6 (by decide), cr 7 (by decide)⟩
end Go.Proofs.YtmdmbimfdpngaaaGreat
