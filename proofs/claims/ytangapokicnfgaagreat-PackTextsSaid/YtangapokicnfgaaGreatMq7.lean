import Derived.Test.YtangapokicnfgaaGreatMq6
/-! Graphs as bytes: what is written is read again, and what is read was written: plain laws. -/
namespace Gr
open Oc (be bes)
set_option linter.unusedSimpArgs false
set_option linter.unusedVariables false

/-- what Within does: the number, the error, what is left -/
def wn (s : List UInt8) (a b : Int) : Int × Int × List UInt8 := if s.length < 4 then (0, 3, s) else if Oc.num s < a ∨ b < Oc.num s then (0, 2, s) else (Oc.num s, 0, s.drop 4)
/-- a reader that keeps its first error -/
abbrev Rs := List UInt8 × Int
def numS (a b : Int) (s : Rs) : Int × Rs := if s.2 ≠ 0 then (0, s) else ((wn s.1 a b).1, ((wn s.1 a b).2.2, (wn s.1 a b).2.1))
theorem wn_put {a b n : Int} (h1 : a ≤ n) (h2 : n ≤ b) (hf : Oc.fitsN n = true) (t : List UInt8) : wn (be n ++ t) a b = (n, 0, t) := by
  unfold wn
  rw [if_neg (by rw [List.length_append, Oc.be_len]; omega), Oc.num_be n hf, if_neg (by omega)]
  rfl
theorem wn_can {s t : List UInt8} {a b n : Int} (h : wn s a b = (n, 0, t)) : s = be n ++ t ∧ a ≤ n ∧ n ≤ b := by
  unfold wn at h
  by_cases h4 : s.length < 4
  · rw [if_pos h4] at h
    simp at h
  · rw [if_neg h4] at h
    by_cases hr : Oc.num s < a ∨ b < Oc.num s
    · rw [if_pos hr] at h
      simp at h
    · rw [if_neg hr] at h
      simp only [Prod.mk.injEq, true_and] at h
      obtain ⟨rfl, rfl⟩ := h
      match s, h4 with
      | x :: y :: z :: u :: s, _ =>
        refine ⟨?_, by omega, by omega⟩
        rw [Oc.be_num]
        rfl
      | [], h4 => simp at h4
      | [_], h4 => simp at h4
      | [_, _], h4 => simp at h4
      | [_, _, _], h4 => simp at h4
theorem numS_put {a b n : Int} (h1 : a ≤ n) (h2 : n ≤ b) (hf : Oc.fitsN n = true) (t : List UInt8) : numS a b (be n ++ t, 0) = (n, (t, 0)) := by
  unfold numS
  rw [if_neg (by simp)]
  simp only
  rw [wn_put h1 h2 hf]
theorem numS_can {a b n : Int} {s : Rs} {t : List UInt8} (h : numS a b s = (n, (t, 0))) : s.2 = 0 ∧ s.1 = be n ++ t ∧ a ≤ n ∧ n ≤ b := by
  obtain ⟨s, e⟩ := s
  unfold numS at h
  by_cases he : e = 0
  · subst he
    rw [if_neg (by simp)] at h
    simp only at h
    have hw : wn s a b = (n, 0, t) := by
      generalize wn s a b = w at h
      obtain ⟨x, y, z⟩ := w
      simp only [Prod.mk.injEq] at h
      obtain ⟨rfl, rfl, rfl⟩ := h
      rfl
    exact ⟨rfl, wn_can hw⟩
  · rw [if_pos he] at h
    simp only [Prod.mk.injEq] at h
    exact absurd h.2.2 he
theorem numS_err (a b : Int) {s : Rs} (h : s.2 ≠ 0) : numS a b s = (0, s) := by unfold numS; rw [if_pos h]

def listS (a b : Int) : Nat → Rs → List Int × Rs
  | 0, s => ([], s)
  | k + 1, s => ((numS a b s).1 :: (listS a b k (numS a b s).2).1, (listS a b k (numS a b s).2).2)
theorem listS_put {a b : Int} (ha : -2147483648 ≤ a) (hb : b ≤ 2147483647) : ∀ (l : List Int) (t : List UInt8), (∀ x ∈ l, a ≤ x ∧ x ≤ b) → listS a b l.length (bes l ++ t, 0) = (l, (t, 0))
  | [], t, _ => rfl
  | x :: l, t, h => by
    have hx := h x (List.mem_cons_self ..)
    have h1 : numS a b (bes (x :: l) ++ t, 0) = (x, (bes l ++ t, 0)) := by
      show numS a b ((be x ++ bes l) ++ t, 0) = _
      rw [List.append_assoc]
      exact numS_put hx.1 hx.2 (by unfold Oc.fitsN; simp; omega) _
    rw [List.length_cons, listS, h1]
    simp only
    rw [listS_put ha hb l t fun y hy => h y (List.mem_cons_of_mem _ hy)]
theorem listS_can {a b : Int} : ∀ (k : Nat) {s : Rs} {l : List Int} {t : List UInt8}, listS a b k s = (l, (t, 0)) → s.2 = 0 ∧ s.1 = bes l ++ t ∧ l.length = k ∧ ∀ x ∈ l, a ≤ x ∧ x ≤ b
  | 0, s, l, t, h => by
    unfold listS at h
    simp only [Prod.mk.injEq] at h
    obtain ⟨rfl, rfl⟩ := h
    exact ⟨rfl, rfl, rfl, fun x hx => (by cases hx)⟩
  | k + 1, s, l, t, h => by
    rw [listS] at h
    simp only [Prod.mk.injEq] at h
    obtain ⟨rfl, h2⟩ := h
    have ih := listS_can k (l := (listS a b k (numS a b s).2).1) (t := t) (by rw [← h2])
    obtain ⟨i1, i2, i3, i4⟩ := ih
    have hn := numS_can (a := a) (b := b) (n := (numS a b s).1) (s := s) (t := (numS a b s).2.1) (by
      generalize numS a b s = w at *
      obtain ⟨x, y, z⟩ := w
      simp only at i1
      subst i1
      rfl)
    obtain ⟨n1, n2, n3, n4⟩ := hn
    refine ⟨n1, ?_, by rw [List.length_cons, i3], fun x hx => ?_⟩
    · rw [n2, i2]
      show _ = (be _ ++ bes _) ++ t
      rw [List.append_assoc]
    · rcases List.mem_cons.1 hx with rfl | h3
      · exact ⟨n3, n4⟩
      · exact i4 x h3

/-- what is asked of a program's bytes -/
structure Codec (gp : List UInt8 → List Vm.Ins × Int × List UInt8) (pp : List Vm.Ins → List UInt8) (fits : List Vm.Ins → Prop) : Prop where
  put : ∀ l t, fits l → gp (pp l ++ t) = (l, 0, t)
  can : ∀ s l t, gp s = (l, 0, t) → s = pp l ++ t ∧ fits l
section
variable (gp : List UInt8 → List Vm.Ins × Int × List UInt8) (pp : List Vm.Ins → List UInt8) (fits : List Vm.Ins → Prop)
def progS (s : Rs) : List Vm.Ins × Rs := if s.2 ≠ 0 then ([], s) else ((gp s.1).1, ((gp s.1).2.2, (gp s.1).2.1))
def putNd (n : Nd) : List UInt8 := be n.id ++ (be n.kind ++ (be n.frm.length ++ (bes n.frm ++ (pp n.prog ++ (be n.par ++ bes n.route)))))
def nodeS (lp : Int) (s : Rs) : Nd × Rs :=
  let a := numS 0 7 s
  let b := numS 0 2 a.2
  let m := numS 0 3 b.2
  let f := listS 0 7 m.1.toNat m.2
  let p := progS gp f.2
  let r := numS lp 3 p.2
  let o := listS 0 2 8 r.2
  (⟨a.1, b.1, f.1, p.1, r.1, o.1⟩, o.2)
structure OkB (lp : Int) (n : Nd) : Prop where
  i : 0 ≤ n.id ∧ n.id ≤ 7
  k : 0 ≤ n.kind ∧ n.kind ≤ 2
  m : n.frm.length ≤ 3
  f : ∀ x ∈ n.frm, 0 ≤ x ∧ x ≤ 7
  p : fits n.prog
  r : lp ≤ n.par ∧ n.par ≤ 3
  ol : n.route.length = 8
  o : ∀ x ∈ n.route, 0 ≤ x ∧ x ≤ 2
end
section
variable {gp : List UInt8 → List Vm.Ins × Int × List UInt8} {pp : List Vm.Ins → List UInt8} {fits : List Vm.Ins → Prop}
theorem progS_put (hc : Codec gp pp fits) {l : List Vm.Ins} (h : fits l) (t : List UInt8) : progS gp (pp l ++ t, 0) = (l, (t, 0)) := by
  unfold progS
  rw [if_neg (by simp)]
  simp only
  rw [hc.put l t h]
theorem progS_can (hc : Codec gp pp fits) {s : Rs} {l : List Vm.Ins} {t : List UInt8} (h : progS gp s = (l, (t, 0))) : s.2 = 0 ∧ s.1 = pp l ++ t ∧ fits l := by
  obtain ⟨s, e⟩ := s
  unfold progS at h
  by_cases he : e = 0
  · subst he
    rw [if_neg (by simp)] at h
    simp only at h
    have hw : gp s = (l, 0, t) := by
      generalize gp s = w at h
      obtain ⟨x, y, z⟩ := w
      simp only [Prod.mk.injEq] at h
      obtain ⟨rfl, rfl, rfl⟩ := h
      rfl
    exact ⟨rfl, hc.can s l t hw⟩
  · rw [if_pos he] at h
    simp only [Prod.mk.injEq] at h
    exact absurd h.2.2 he
theorem eta {α : Type} (x : α × Rs) (h : x.2.2 = 0) : x = (x.1, (x.2.1, 0)) := by
  obtain ⟨a, b, c⟩ := x
  simp only at h
  subst h
  rfl
theorem nodeS_put (hc : Codec gp pp fits) {lp : Int} (hlp : -2147483648 ≤ lp) {n : Nd} (h : OkB fits lp n) (t : List UInt8) : nodeS gp lp (putNd pp n ++ t, 0) = (n, (t, 0)) := by
  obtain ⟨id, kind, frm, prog, par, route⟩ := n
  obtain ⟨h1, h2, h3, h4, h5, h6, h7, h8⟩ := h
  simp only at h1 h2 h3 h4 h5 h6 h7 h8
  unfold nodeS putNd
  simp only [List.append_assoc]
  rw [numS_put h1.1 h1.2 (by unfold Oc.fitsN; simp; omega)]
  simp only
  rw [numS_put h2.1 h2.2 (by unfold Oc.fitsN; simp; omega)]
  simp only
  rw [numS_put (by omega) (by omega) (by unfold Oc.fitsN; simp; omega)]
  simp only [Int.toNat_natCast]
  rw [listS_put (by decide) (by decide) frm _ h4]
  simp only
  rw [progS_put hc h5]
  simp only
  rw [numS_put h6.1 h6.2 (by unfold Oc.fitsN; simp; omega)]
  simp only
  have h9 := listS_put (a := 0) (b := 2) (by decide) (by decide) route t h8
  rw [h7] at h9
  rw [h9]
theorem nodeS_can (hc : Codec gp pp fits) {lp : Int} {s : Rs} {n : Nd} {t : List UInt8} (h : nodeS gp lp s = (n, (t, 0))) : s.2 = 0 ∧ s.1 = putNd pp n ++ t ∧ OkB fits lp n := by
  unfold nodeS at h
  simp only [Prod.mk.injEq] at h
  obtain ⟨rfl, h⟩ := h
  generalize ha : numS 0 7 s = a at *
  generalize hb : numS 0 2 a.2 = b at *
  generalize hm : numS 0 3 b.2 = m at *
  generalize hf : listS 0 7 m.1.toNat m.2 = f at *
  generalize hp : progS gp f.2 = p at *
  generalize hr : numS lp 3 p.2 = r at *
  generalize ho : listS 0 2 8 r.2 = o at *
  obtain ⟨o1, o2⟩ := o
  simp only at h
  subst h
  obtain ⟨o3, o4, o5, o6⟩ := listS_can 8 ho
  obtain ⟨r3, r4, r5, r6⟩ := numS_can (hr.trans (eta r o3))
  obtain ⟨p3, p4, p5⟩ := progS_can hc (hp.trans (eta p r3))
  obtain ⟨f3, f4, f5, f6⟩ := listS_can _ (hf.trans (eta f p3))
  obtain ⟨m3, m4, m5, m6⟩ := numS_can (hm.trans (eta m f3))
  obtain ⟨b3, b4, b5, b6⟩ := numS_can (hb.trans (eta b m3))
  obtain ⟨a3, a4, a5, a6⟩ := numS_can (ha.trans (eta a b3))
  refine ⟨a3, ?_, ⟨⟨a5, a6⟩, ⟨b5, b6⟩, by simp only; omega, f6, p5, ⟨r5, r6⟩, o5, o6⟩⟩
  unfold putNd
  simp only [List.append_assoc]
  rw [a4, b4, m4, f4, p4, r4, o4, show ((f.1.length : Nat) : Int) = m.1 by omega]
/-- as many nodes -/
def nodesS (gp : List UInt8 → List Vm.Ins × Int × List UInt8) (lp : Int) : Nat → Rs → List Nd × Rs
  | 0, s => ([], s)
  | k + 1, s => ((nodeS gp lp s).1 :: (nodesS gp lp k (nodeS gp lp s).2).1, (nodesS gp lp k (nodeS gp lp s).2).2)
theorem nodesS_put (hc : Codec gp pp fits) {lp : Int} (hlp : -2147483648 ≤ lp) : ∀ (l : List Nd) (t : List UInt8), (∀ n ∈ l, OkB fits lp n) → nodesS gp lp l.length (l.flatMap (putNd pp) ++ t, 0) = (l, (t, 0))
  | [], t, _ => rfl
  | n :: l, t, h => by
    have h1 : nodeS gp lp ((n :: l).flatMap (putNd pp) ++ t, 0) = (n, (l.flatMap (putNd pp) ++ t, 0)) := by
      rw [List.flatMap_cons, List.append_assoc]
      exact nodeS_put hc hlp (h n (List.mem_cons_self ..)) _
    rw [List.length_cons, nodesS, h1]
    simp only
    rw [nodesS_put hc hlp l t fun y hy => h y (List.mem_cons_of_mem _ hy)]
theorem nodesS_can (hc : Codec gp pp fits) {lp : Int} : ∀ (k : Nat) {s : Rs} {l : List Nd} {t : List UInt8}, nodesS gp lp k s = (l, (t, 0)) → s.2 = 0 ∧ s.1 = l.flatMap (putNd pp) ++ t ∧ l.length = k ∧ ∀ n ∈ l, OkB fits lp n
  | 0, s, l, t, h => by
    unfold nodesS at h
    simp only [Prod.mk.injEq] at h
    obtain ⟨rfl, rfl⟩ := h
    exact ⟨rfl, rfl, rfl, fun x hx => (by cases hx)⟩
  | k + 1, s, l, t, h => by
    rw [nodesS] at h
    simp only [Prod.mk.injEq] at h
    obtain ⟨rfl, h2⟩ := h
    obtain ⟨i1, i2, i3, i4⟩ := nodesS_can hc k (l := (nodesS gp lp k (nodeS gp lp s).2).1) (t := t) (by rw [← h2])
    obtain ⟨n1, n2, n3⟩ := nodeS_can hc (eta (nodeS gp lp s) i1)
    refine ⟨n1, ?_, by rw [List.length_cons, i3], fun x hx => ?_⟩
    · rw [n2, i2, List.flatMap_cons, List.append_assoc]
    · rcases List.mem_cons.1 hx with rfl | h3
      · exact n3
      · exact i4 x h3
end
end Gr

/-! Plans as bytes: plain laws. -/
namespace Gr
open Oc (be bes)
set_option linter.unusedSimpArgs false
set_option linter.unusedVariables false

structure Stp where
  kind : Int
  nd : Nd
  reset : Bool
def zeros : List Int := List.replicate 8 0
/-- a step without what doesn't matter -/
def cleanS (s : Stp) : Stp :=
  if s.kind = 1 then ⟨1, ⟨s.nd.id, 0, [], s.nd.prog, 0, zeros⟩, s.reset⟩
  else if s.kind = 2 then ⟨2, s.nd, false⟩
  else if s.kind = 3 then ⟨3, ⟨s.nd.id, 0, [], [], 0, zeros⟩, false⟩
  else if s.kind = 4 then ⟨4, ⟨s.nd.id, 0, [], [], s.nd.par, s.nd.route⟩, false⟩
  else if s.kind = 5 then ⟨5, ⟨s.nd.id, 0, s.nd.frm, [], 0, zeros⟩, false⟩
  else ⟨0, ⟨0, 0, [], [], 0, zeros⟩, false⟩
theorem clean_kind {s : Stp} (h : 1 ≤ s.kind ∧ s.kind ≤ 5) : (cleanS s).kind = s.kind := by
  unfold cleanS
  rcases (show s.kind = 1 ∨ s.kind = 2 ∨ s.kind = 3 ∨ s.kind = 4 ∨ s.kind = 5 by omega) with e | e | e | e | e <;> simp [e]
theorem kind_clean {s : Stp} (h : 1 ≤ (cleanS s).kind) : 1 ≤ s.kind ∧ s.kind ≤ 5 := by
  by_cases h1 : s.kind = 1 ∨ s.kind = 2 ∨ s.kind = 3 ∨ s.kind = 4 ∨ s.kind = 5
  · omega
  · exfalso
    unfold cleanS at h
    rw [if_neg (by omega), if_neg (by omega), if_neg (by omega), if_neg (by omega), if_neg (by omega)] at h
    simp at h
theorem clean_clean (s : Stp) : cleanS (cleanS s) = cleanS s := by
  by_cases h1 : s.kind = 1
  · simp [cleanS, h1]
  by_cases h2 : s.kind = 2
  · simp [cleanS, h2]
  by_cases h3 : s.kind = 3
  · simp [cleanS, h3]
  by_cases h4 : s.kind = 4
  · simp [cleanS, h4]
  by_cases h5 : s.kind = 5
  · simp [cleanS, h5]
  · simp [cleanS, h1, h2, h3, h4, h5]
section
variable (gp : List UInt8 → List Vm.Ins × Int × List UInt8) (pp : List Vm.Ins → List UInt8) (fits : List Vm.Ins → Prop)
def putSt (s : Stp) : List UInt8 := be (cleanS s).kind ++ (be (if (cleanS s).reset then 1 else 0) ++ putNd pp (cleanS s).nd)
def putPl (p : List Stp) : List UInt8 := be p.length ++ p.flatMap (putSt pp)
def OkS (s : Stp) : Prop := (1 ≤ s.kind ∧ s.kind ≤ 5) ∧ OkB fits 0 (cleanS s).nd
def OkPl (p : List Stp) : Prop := 1 ≤ p.length ∧ p.length ≤ 6 ∧ ∀ s ∈ p, OkS fits s
def stepS (s : Rs) : Stp × Rs :=
  let k := numS 1 5 s
  let r := numS 0 1 k.2
  let n := nodeS gp 0 r.2
  (⟨k.1, n.1, r.1 == 1⟩, n.2)
def stepsS : Nat → Rs → List Stp × Rs
  | 0, s => ([], s)
  | k + 1, s => ((stepS gp s).1 :: (stepsS k (stepS gp s).2).1, (stepsS k (stepS gp s).2).2)
def planS (s : List UInt8) : List Stp × Rs := stepsS gp (numS 1 6 (s, 0)).1.toNat (numS 1 6 (s, 0)).2
open Classical in
noncomputable def getPl (s : List UInt8) : List Stp × Int :=
  if (planS gp s).2.2 ≠ 0 then ([], (planS gp s).2.2)
  else if 0 < (planS gp s).2.1.length ∨ ¬ ∀ x ∈ (planS gp s).1, cleanS x = x then ([], 4)
  else ((planS gp s).1, 0)
end
section
variable {gp : List UInt8 → List Vm.Ins × Int × List UInt8} {pp : List Vm.Ins → List UInt8} {fits : List Vm.Ins → Prop}
theorem stepS_put (hc : Codec gp pp fits) {s : Stp} (h : OkS fits s) (t : List UInt8) : stepS gp (putSt pp s ++ t, 0) = (cleanS s, (t, 0)) := by
  obtain ⟨hk, hn⟩ := h
  have hk2 := clean_kind hk
  unfold putSt stepS
  generalize cleanS s = c at *
  obtain ⟨ck, cn, cr⟩ := c
  simp only at hk2 hn
  subst hk2
  simp only [List.append_assoc]
  rw [numS_put hk.1 hk.2 (by unfold Oc.fitsN; simp; omega)]
  simp only
  rw [numS_put (by split <;> omega) (by split <;> omega) (by cases cr <;> rfl)]
  simp only
  rw [nodeS_put hc (by decide) hn]
  cases cr <;> rfl
theorem stepS_can (hc : Codec gp pp fits) {s : Rs} {x : Stp} {t : List UInt8} (h : stepS gp s = (x, (t, 0))) : s.2 = 0 ∧ s.1 = be x.kind ++ (be (if x.reset then 1 else 0) ++ (putNd pp x.nd ++ t)) ∧ (1 ≤ x.kind ∧ x.kind ≤ 5) ∧ OkB fits 0 x.nd := by
  unfold stepS at h
  simp only [Prod.mk.injEq] at h
  obtain ⟨rfl, h⟩ := h
  generalize hk : numS 1 5 s = k at *
  generalize hr : numS 0 1 k.2 = r at *
  generalize hn : nodeS gp 0 r.2 = n at *
  obtain ⟨n1, n2⟩ := n
  simp only at h
  subst h
  obtain ⟨n3, n4, n5⟩ := nodeS_can hc hn
  obtain ⟨r3, r4, r5, r6⟩ := numS_can (hr.trans (eta r n3))
  obtain ⟨k3, k4, k5, k6⟩ := numS_can (hk.trans (eta k r3))
  refine ⟨k3, ?_, ⟨k5, k6⟩, n5⟩
  rw [k4, r4, n4]
  rcases (show r.1 = 0 ∨ r.1 = 1 by omega) with e | e <;> simp [e]
theorem stepsS_put (hc : Codec gp pp fits) : ∀ (p : List Stp) (t : List UInt8), (∀ s ∈ p, OkS fits s) → stepsS gp p.length (p.flatMap (putSt pp) ++ t, 0) = (p.map cleanS, (t, 0))
  | [], t, _ => rfl
  | s :: p, t, h => by
    have h1 : stepS gp ((s :: p).flatMap (putSt pp) ++ t, 0) = (cleanS s, (p.flatMap (putSt pp) ++ t, 0)) := by
      rw [List.flatMap_cons, List.append_assoc]
      exact stepS_put hc (h s (List.mem_cons_self ..)) _
    rw [List.length_cons, stepsS, h1]
    simp only
    rw [stepsS_put hc p t fun y hy => h y (List.mem_cons_of_mem _ hy)]
    rfl
theorem stepsS_can (hc : Codec gp pp fits) : ∀ (k : Nat) {s : Rs} {p : List Stp} {t : List UInt8}, stepsS gp k s = (p, (t, 0)) → (∀ x ∈ p, cleanS x = x) → s.2 = 0 ∧ s.1 = p.flatMap (putSt pp) ++ t ∧ p.length = k ∧ ∀ x ∈ p, OkS fits x
  | 0, s, p, t, h, _ => by
    unfold stepsS at h
    simp only [Prod.mk.injEq] at h
    obtain ⟨rfl, rfl⟩ := h
    exact ⟨rfl, rfl, rfl, fun x hx => (by cases hx)⟩
  | k + 1, s, p, t, h, hcl => by
    rw [stepsS] at h
    simp only [Prod.mk.injEq] at h
    obtain ⟨rfl, h2⟩ := h
    obtain ⟨i1, i2, i3, i4⟩ := stepsS_can hc k (p := (stepsS gp k (stepS gp s).2).1) (t := t) (by rw [← h2]) fun x hx => hcl x (List.mem_cons_of_mem _ hx)
    obtain ⟨n1, n2, n3, n4⟩ := stepS_can hc (eta (stepS gp s) i1)
    have hx := hcl _ (List.mem_cons_self ..)
    refine ⟨n1, ?_, by rw [List.length_cons, i3], fun x hx2 => ?_⟩
    · rw [n2, i2, List.flatMap_cons, List.append_assoc]
      show _ = putSt pp _ ++ _
      unfold putSt
      rw [hx]
      simp only [List.append_assoc]
    · rcases List.mem_cons.1 hx2 with rfl | h3
      · exact ⟨n3, by rw [hx]; exact n4⟩
      · exact i4 x h3
theorem map_clean {p : List Stp} (h : ∀ x ∈ p, cleanS x = x) : p.map cleanS = p := by
  rw [List.map_congr_left (g := id) h, List.map_id]
/-- what is put is got, without what doesn't matter -/
theorem getPl_put (hc : Codec gp pp fits) {p : List Stp} (h : OkPl fits p) : getPl gp (putPl pp p) = (p.map cleanS, 0) := by
  obtain ⟨h1, h6, hs⟩ := h
  have hg : planS gp (putPl pp p) = (p.map cleanS, ([], 0)) := by
    unfold planS putPl
    rw [numS_put (by omega) (by omega) (by unfold Oc.fitsN; simp; omega)]
    simp only [Int.toNat_natCast]
    have := stepsS_put hc p [] hs
    rw [List.append_nil] at this
    exact this
  unfold getPl
  rw [hg]
  simp only
  rw [if_neg (by simp), if_neg]
  rintro (h | h)
  · simp at h
  · refine h fun x hx => ?_
    obtain ⟨y, -, rfl⟩ := List.mem_map.1 hx
    exact clean_clean y
/-- what is got was put, and may be told -/
theorem getPl_can (hc : Codec gp pp fits) {s : List UInt8} {q : List Stp} (h : getPl gp s = (q, 0)) : OkPl fits q ∧ putPl pp q = s ∧ ∀ x ∈ q, cleanS x = x := by
  unfold getPl at h
  by_cases h1 : (planS gp s).2.2 = 0
  · rw [if_neg (by simpa using h1)] at h
    by_cases h2 : 0 < (planS gp s).2.1.length ∨ ¬ ∀ x ∈ (planS gp s).1, cleanS x = x
    · rw [if_pos h2] at h
      simp at h
    · rw [if_neg h2] at h
      simp only [Prod.mk.injEq, and_true] at h
      have hcl : ∀ x ∈ q, cleanS x = x := by
        rw [← h]
        exact Classical.not_not.1 fun r => h2 (.inr r)
      have hnil : (planS gp s).2.1 = [] := List.length_eq_zero_iff.1 (by omega)
      have hg : planS gp s = (q, ([], 0)) := by
        generalize planS gp s = g at *
        obtain ⟨a, b, c⟩ := g
        simp only at h h1 hnil
        subst h h1 hnil
        rfl
      unfold planS at hg
      obtain ⟨i1, i2, i3, i4⟩ := stepsS_can hc _ hg hcl
      obtain ⟨n1, n2, n3, n4⟩ := numS_can (eta (numS 1 6 (s, 0)) i1)
      refine ⟨⟨by omega, by omega, i4⟩, ?_, hcl⟩
      unfold putPl
      have e1 : (numS 1 6 (s, 0)).2.1 = q.flatMap (putSt pp) := by rw [i2, List.append_nil]
      rw [← e1, show ((q.length : Nat) : Int) = (numS 1 6 (s, 0)).1 by omega]
      exact n2.symm
  · rw [if_pos (by simpa using h1)] at h
    simp only [Prod.mk.injEq] at h
    exact absurd h.2 h1
theorem getPl_bad {s : List UInt8} (h : (getPl gp s).2 ≠ 0) : (getPl gp s).1 = [] := by
  unfold getPl at *
  split
  · rfl
  · split
    · rfl
    · rename_i h1 h2
      rw [if_neg h1, if_neg h2] at h
      exact absurd rfl h
/-- a plan may be told just if its bytes are read again as what was kept of it -/
theorem plan_iff (hc : Codec gp pp fits) {p : List Stp} (h1 : 1 ≤ p.length) (h6 : p.length ≤ 6) : OkPl fits p ↔ ∃ q, getPl gp (putPl pp p) = (q, 0) ∧ p.map cleanS = q.map cleanS := by
  constructor
  · intro h
    exact ⟨_, getPl_put hc h, (map_clean fun x hx => by obtain ⟨y, -, rfl⟩ := List.mem_map.1 hx; exact clean_clean y).symm⟩
  · rintro ⟨q, hq, he⟩
    obtain ⟨⟨-, -, hs⟩, -, hcl⟩ := getPl_can hc hq
    rw [map_clean hcl] at he
    refine ⟨h1, h6, fun s hsp => ?_⟩
    have hm : cleanS s ∈ q := he ▸ List.mem_map.2 ⟨s, hsp, rfl⟩
    obtain ⟨hk, hn⟩ := hs _ hm
    rw [clean_clean] at hn
    exact ⟨kind_clean hk.1, hn⟩
end
end Gr

/-! Steps in memory: fifteen cells each. -/
namespace Go.Proofs.YtangapokicnfgaaGreat
set_option linter.unusedSimpArgs false
set_option linter.unusedVariables false
open Go.RowKit Ga
set_option maxRecDepth 100000

/-- a step as it lies -/
structure StC where
  kind : Int
  c : NdC
  reset : Bool
instance : Inhabited StC := ⟨⟨0, default, false⟩⟩
def encSt (s : StC) : List Value := [.int .i64 s.kind, .int .i64 s.c.id, .int .i64 s.c.kind, .slice s.c.af s.c.nf s.c.cf, .slice s.c.ap s.c.np s.c.cp, .int .i64 s.c.par, .int .i64 s.c.r0, .int .i64 s.c.r1, .int .i64 s.c.r2, .int .i64 s.c.r3, .int .i64 s.c.r4, .int .i64 s.c.r5, .int .i64 s.c.r6, .int .i64 s.c.r7, .bool s.reset]
theorem encSt_len (s : StC) : (encSt s).length = 15 := rfl
theorem encSt_one (c : StC) : ∀ u ∈ encSt c, u.oneCell' = true := by
  intro u hu
  simp [encSt] at hu
  rcases hu with rfl | rfl | rfl | rfl | rfl | rfl | rfl | rfl | rfl | rfl | rfl | rfl | rfl | rfl | rfl <;> rfl
structure StepIs (w : World) (c : StC) (s : Gr.Stp) : Prop where
  kind : s.kind = c.kind
  nd : NodeIs w c.c s.nd
  reset : s.reset = c.reset
theorem StepIs.grew {w w' : World} {c : StC} {s : Gr.Stp} (h : StepIs w c s) (g : Grew w w') : StepIs w' c s := { h with nd := h.nd.grew g }
def StepsAt (w : World) (v : Value) (l : List Gr.Stp) : Prop := ∃ lc : List StC, RowsAt 15 encSt w v lc ∧ lc.length = l.length ∧ ∀ (i : Nat) (c : StC) (s : Gr.Stp), lc[i]? = some c → l[i]? = some s → StepIs w c s
theorem StepsAt.grew {w w' : World} {v : Value} {l : List Gr.Stp} (h : StepsAt w v l) (g : Grew w w') : StepsAt w' v l := by
  obtain ⟨lc, h1, h2, h3⟩ := h
  exact ⟨lc, h1.grew g, h2, fun i c n hc hn => (h3 i c n hc hn).grew g⟩
theorem StepsAt.nil (w : World) : StepsAt w (.slice none 0 0) [] := ⟨[], RowsAt.nil, rfl, fun i c n h => by simp at h⟩
theorem StepsAt.r8 {w : World} {v : Value} {l : List Gr.Stp} (h : StepsAt w v l) : ∀ s ∈ l, s.nd.route.length = 8 := by
  obtain ⟨lc, -, h2, h3⟩ := h
  intro n hn
  obtain ⟨i, hi, rfl⟩ := List.mem_iff_getElem.1 hn
  rw [(h3 i lc[i] l[i] (List.getElem?_eq_getElem (by omega)) (List.getElem?_eq_getElem hi)).nd.route]
  rfl
theorem StepsAt.openC {w : World} {v : Value} {l : List Gr.Stp} (h : StepsAt w v l) : ∃ a cap, v = .slice a l.length cap ∧ l.length ≤ 9223372036854775807 ∧ ∀ i (hi : i < l.length), ∃ b off c, a = some ⟨b, off, none⟩ ∧ Pre b w ∧ StepIs w c l[i] ∧
    w.cell? ⟨b, off + i * 15, none⟩ = some (.int .i64 c.kind) ∧
    w.cell? ⟨b, off + i * 15 + 1, none⟩ = some (.int .i64 c.c.id) ∧
    w.cell? ⟨b, off + i * 15 + 2, none⟩ = some (.int .i64 c.c.kind) ∧
    w.cell? ⟨b, off + i * 15 + 3, none⟩ = some (.slice c.c.af c.c.nf c.c.cf) ∧
    w.cell? ⟨b, off + i * 15 + 4, none⟩ = some (.slice c.c.ap c.c.np c.c.cp) ∧
    w.cell? ⟨b, off + i * 15 + 5, none⟩ = some (.int .i64 c.c.par) ∧
    w.cell? ⟨b, off + i * 15 + 6, none⟩ = some (.int .i64 c.c.r0) ∧
    w.cell? ⟨b, off + i * 15 + 7, none⟩ = some (.int .i64 c.c.r1) ∧
    w.cell? ⟨b, off + i * 15 + 8, none⟩ = some (.int .i64 c.c.r2) ∧
    w.cell? ⟨b, off + i * 15 + 9, none⟩ = some (.int .i64 c.c.r3) ∧
    w.cell? ⟨b, off + i * 15 + 10, none⟩ = some (.int .i64 c.c.r4) ∧
    w.cell? ⟨b, off + i * 15 + 11, none⟩ = some (.int .i64 c.c.r5) ∧
    w.cell? ⟨b, off + i * 15 + 12, none⟩ = some (.int .i64 c.c.r6) ∧
    w.cell? ⟨b, off + i * 15 + 13, none⟩ = some (.int .i64 c.c.r7) ∧
    w.cell? ⟨b, off + i * 15 + 14, none⟩ = some (.bool c.reset) := by
  obtain ⟨lc, ⟨a, cap, rfl, hm, hx⟩, h2, h3⟩ := h
  refine ⟨a, cap, by rw [h2], by unfold maxLen at hm; omega, fun i hi => ?_⟩
  have hi' : i < lc.length := by omega
  obtain ⟨b, off, rfl, hc⟩ := hx (by intro e; subst e; simp at hi')
  have hn := h3 i lc[i] l[i] (List.getElem?_eq_getElem hi') (List.getElem?_eq_getElem hi)
  have hj := fun j u => hc i lc[i] (List.getElem?_eq_getElem hi') j u
  have h0 := hj 0 _ rfl
  exact ⟨b, off, lc[i], rfl, Pre.mk (World.block_lt_of_cell? w _ h0), hn, h0, hj 1 _ rfl, hj 2 _ rfl, hj 3 _ rfl, hj 4 _ rfl, hj 5 _ rfl, hj 6 _ rfl, hj 7 _ rfl, hj 8 _ rfl, hj 9 _ rfl, hj 10 _ rfl, hj 11 _ rfl, hj 12 _ rfl, hj 13 _ rfl, hj 14 _ rfl⟩
/-- .. written out -/
theorem StepIs.lit {w : World} {c : StC} {s : Gr.Stp} (h : StepIs w c s) : ∃ kind reset id kd af cf ap cp par r0 r1 r2 r3 r4 r5 r6 r7, c = ⟨kind, ⟨id, kd, af, s.nd.frm.length, cf, ap, s.nd.prog.length, cp, par, r0, r1, r2, r3, r4, r5, r6, r7⟩, reset⟩ := by
  obtain ⟨kind, c, reset⟩ := c
  obtain ⟨id, kd, af, cf, ap, cp, par, r0, r1, r2, r3, r4, r5, r6, r7, e⟩ := h.nd.lit
  simp only at e
  subst e
  exact ⟨_, _, _, _, _, _, _, _, _, _, _, _, _, _, _, _, _, rfl⟩
/-- a node alone in a slice just made -/
theorem NodesAt.one {w : World} {c : NdC} {n : Gr.Nd} (h : NodeIs w c n) (k : Nat) (hk : k = w.heap.size) (cs : List Value) (hcs : cs = encNd c) : NodesAt (w.alloc (.cells cs.toArray 45)) (.slice (some ⟨k, 0, none⟩) 1 1) [n] := by
  refine ⟨[c], RowsAt.fresh (l := [c]) rfl (by simp [maxLen]) encNd_len hk (by rw [hcs]; simp), rfl, ?_⟩
  intro i c' n' h1 h2
  match i with
  | 0 =>
    cases h1
    cases h2
    exact h.grew ((Grew.refl _).alloc _)
  | i + 1 => cases h1
end Go.Proofs.YtangapokicnfgaaGreat
