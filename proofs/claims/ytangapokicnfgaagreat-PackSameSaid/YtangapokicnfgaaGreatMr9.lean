import Derived.Test.YtangapokicnfgaaGreatMr8
import Derived.Test.YtangapokicnfgaaGreatMr3
import Derived.Test.YtangapokicnfgaaGreatMr2
import Derived.Test.YtangapokicnfgaaGreatMr7
/-! Manifests as bytes: plain laws. -/
namespace Gr
open Oc (be bes)
open Ga Tab
set_option linter.unusedSimpArgs false
set_option linter.unusedVariables false

theorem fitsN_of {n : Int} (h : -2147483648 ≤ n ∧ n ≤ 2147483647) : Oc.fitsN n = true := by unfold Oc.fitsN; simp; omega
/-- any list of things that are read one by one -/
structure Item {α : Type} (rd : Rs → α × Rs) (pt : α → List UInt8) (ok : α → Prop) : Prop where
  put : ∀ x t, ok x → rd (pt x ++ t, 0) = (x, (t, 0))
  can : ∀ s x t, rd s = (x, (t, 0)) → s.2 = 0 ∧ s.1 = pt x ++ t ∧ ok x
def manyS {α : Type} (rd : Rs → α × Rs) : Nat → Rs → List α × Rs
  | 0, s => ([], s)
  | k + 1, s => ((rd s).1 :: (manyS rd k (rd s).2).1, (manyS rd k (rd s).2).2)
theorem manyS_put {α : Type} {rd : Rs → α × Rs} {pt : α → List UInt8} {ok : α → Prop} (h : Item rd pt ok) : ∀ (l : List α) (t : List UInt8), (∀ x ∈ l, ok x) → manyS rd l.length (l.flatMap pt ++ t, 0) = (l, (t, 0))
  | [], t, _ => rfl
  | x :: l, t, hl => by
    have h1 : rd ((x :: l).flatMap pt ++ t, 0) = (x, (l.flatMap pt ++ t, 0)) := by
      rw [List.flatMap_cons, List.append_assoc]
      exact h.put x _ (hl x (List.mem_cons_self ..))
    rw [List.length_cons, manyS, h1]
    simp only
    rw [manyS_put h l t fun y hy => hl y (List.mem_cons_of_mem _ hy)]
theorem manyS_can {α : Type} {rd : Rs → α × Rs} {pt : α → List UInt8} {ok : α → Prop} (h : Item rd pt ok) : ∀ (k : Nat) {s : Rs} {l : List α} {t : List UInt8}, manyS rd k s = (l, (t, 0)) → s.2 = 0 ∧ s.1 = l.flatMap pt ++ t ∧ l.length = k ∧ ∀ x ∈ l, ok x
  | 0, s, l, t, hs => by
    unfold manyS at hs
    simp only [Prod.mk.injEq] at hs
    obtain ⟨rfl, rfl⟩ := hs
    exact ⟨rfl, rfl, rfl, fun x hx => (by cases hx)⟩
  | k + 1, s, l, t, hs => by
    rw [manyS] at hs
    simp only [Prod.mk.injEq] at hs
    obtain ⟨rfl, h2⟩ := hs
    obtain ⟨i1, i2, i3, i4⟩ := manyS_can h k (l := (manyS rd k (rd s).2).1) (t := t) (by rw [← h2])
    obtain ⟨n1, n2, n3⟩ := h.can _ _ _ (eta (rd s) i1)
    refine ⟨n1, ?_, by rw [List.length_cons, i3], fun x hx => ?_⟩
    · rw [n2, i2, List.flatMap_cons, List.append_assoc]
    · rcases List.mem_cons.1 hx with rfl | h3
      · exact n3
      · exact i4 x h3
/-- how many, and as many -/
def cntS {α : Type} (rd : Rs → α × Rs) (most : Int) (s : Rs) : List α × Rs := manyS rd (numS 0 most s).1.toNat (numS 0 most s).2
def putC {α : Type} (pt : α → List UInt8) (l : List α) : List UInt8 := be l.length ++ l.flatMap pt
theorem cntS_item {α : Type} {rd : Rs → α × Rs} {pt : α → List UInt8} {ok : α → Prop} (h : Item rd pt ok) (most : Int) (hm : most ≤ 2147483647) : Item (cntS rd most) (putC pt) fun l => (l.length : Int) ≤ most ∧ ∀ x ∈ l, ok x where
  put := by
    rintro l t ⟨h1, h2⟩
    unfold cntS putC
    rw [List.append_assoc, numS_put (by omega) h1 (fitsN_of (by omega))]
    simp only [Int.toNat_natCast]
    exact manyS_put h l t h2
  can := by
    intro s l t hs
    unfold cntS at hs
    obtain ⟨i1, i2, i3, i4⟩ := manyS_can h _ hs
    obtain ⟨n1, n2, n3, n4⟩ := numS_can (eta (numS 0 most s) i1)
    refine ⟨n1, ?_, by omega, i4⟩
    unfold putC
    rw [n2, i2, List.append_assoc, show ((l.length : Nat) : Int) = (numS 0 most s).1 by omega]
theorem num_item (a b : Int) (ha : -2147483648 ≤ a) (hb : b ≤ 2147483647) : Item (numS a b) be fun n => a ≤ n ∧ n ≤ b where
  put := fun n t h => numS_put h.1 h.2 (fitsN_of (by omega)) t
  can := fun s n t h => by
    obtain ⟨h1, h2, h3, h4⟩ := numS_can h
    exact ⟨h1, h2, h3, h4⟩
/-- one behind the other -/
def pairS {α β : Type} (ra : Rs → α × Rs) (rb : Rs → β × Rs) (s : Rs) : (α × β) × Rs := (((ra s).1, (rb (ra s).2).1), (rb (ra s).2).2)
theorem pair_item {α β : Type} {ra : Rs → α × Rs} {rb : Rs → β × Rs} {pa : α → List UInt8} {pb : β → List UInt8} {oa : α → Prop} {ob : β → Prop} (ha : Item ra pa oa) (hb : Item rb pb ob) : Item (pairS ra rb) (fun x => pa x.1 ++ pb x.2) fun x => oa x.1 ∧ ob x.2 where
  put := by
    rintro ⟨x, y⟩ t ⟨h1, h2⟩
    unfold pairS
    simp only at h1 h2 ⊢
    rw [List.append_assoc, ha.put x _ h1]
    simp only
    rw [hb.put y t h2]
  can := by
    rintro s ⟨x, y⟩ t h
    unfold pairS at h
    simp only [Prod.mk.injEq] at h
    obtain ⟨⟨rfl, rfl⟩, h2⟩ := h
    obtain ⟨b1, b2, b3⟩ := hb.can (ra s).2 _ t (by
      have : (rb (ra s).2).2.2 = 0 := by rw [h2]
      rw [eta (rb (ra s).2) this, h2])
    obtain ⟨a1, a2, a3⟩ := ha.can s _ _ (eta (ra s) b1)
    exact ⟨a1, by rw [a2, b2, List.append_assoc], a3, b3⟩
/-- in other words -/
def mapS {α β : Type} (f : α → β) (ra : Rs → α × Rs) (s : Rs) : β × Rs := (f (ra s).1, (ra s).2)
theorem map_item {α β : Type} {ra : Rs → α × Rs} {pa : α → List UInt8} {oa : α → Prop} (ha : Item ra pa oa) (f : α → β) (g : β → α) (hgf : ∀ x, g (f x) = x) (hfg : ∀ y, f (g y) = y) : Item (mapS f ra) (fun y => pa (g y)) fun y => oa (g y) where
  put := by
    intro y t h
    unfold mapS
    rw [ha.put (g y) t h, hfg]
  can := by
    intro s y t h
    unfold mapS at h
    simp only [Prod.mk.injEq] at h
    obtain ⟨rfl, h2⟩ := h
    have h3 : (ra s).2.2 = 0 := by rw [h2]
    obtain ⟨a1, a2, a3⟩ := ha.can s (ra s).1 t (by rw [eta (ra s) h3, h2])
    rw [hgf]
    exact ⟨a1, a2, a3⟩
end Gr

/-! A manifest as bytes: what is put is got, and what is got was put: plain laws. -/
namespace Gr
open Oc (be bes)
open Ga Tab
set_option linter.unusedSimpArgs false
set_option linter.unusedVariables false

structure Ln where
  sink : Int
  frm : Int
  key : Int
  v : Val
structure Mf where
  epoch : Int
  plans : Int
  offs : List Int
  graph : List Nd
  ents : List En
  out : List Ln
  plan : List Stp
def valS : Rs → (Int × Int) × Rs := pairS (numS (-2147483648) 2147483647) (numS (-2147483648) 2147483647)
def enS : Rs → En × Rs := mapS (fun (x : ((Int × Int) × (Int × Int)) × (Int × Int)) => (⟨x.1.1.1, x.1.1.2, x.1.2, x.2⟩ : En)) (pairS (pairS (pairS (numS 0 7) (numS 0 63)) valS) valS)
def lnS : Rs → Ln × Rs := mapS (fun (x : ((Int × Int) × Int) × (Int × Int)) => (⟨x.1.1.1, x.1.1.2, x.1.2, x.2⟩ : Ln)) (pairS (pairS (pairS (numS 0 7) (numS 0 7)) (numS 0 63)) valS)
/-- a text: how long, and its bytes -/
def txS (most : Int) (s : Rs) : List UInt8 × Rs :=
  if (numS 0 most s).2.2 ≠ 0 then ([], (numS 0 most s).2)
  else if (numS 0 most s).2.1.length < (numS 0 most s).1.toNat then ([], ((numS 0 most s).2.1, 3))
  else ((numS 0 most s).2.1.take (numS 0 most s).1.toNat, ((numS 0 most s).2.1.drop (numS 0 most s).1.toNat, 0))
theorem tx_item (most : Int) (hm : most ≤ 2147483647) : Item (txS most) (fun t => be t.length ++ t) fun t => (t.length : Int) ≤ most where
  put := by
    intro x t h
    unfold txS
    rw [List.append_assoc, numS_put (by omega) h (fitsN_of (by omega))]
    simp
  can := by
    intro s x t h
    unfold txS at h
    by_cases h1 : (numS 0 most s).2.2 = 0
    · rw [if_neg (by simpa using h1)] at h
      by_cases h2 : (numS 0 most s).2.1.length < (numS 0 most s).1.toNat
      · rw [if_pos h2] at h
        simp at h
      · rw [if_neg h2] at h
        simp only [Prod.mk.injEq, and_true] at h
        obtain ⟨rfl, rfl⟩ := h
        obtain ⟨n1, n2, n3, n4⟩ := numS_can (eta (numS 0 most s) h1)
        have hl : ((numS 0 most s).2.1.take (numS 0 most s).1.toNat).length = (numS 0 most s).1.toNat := by
          rw [List.length_take]
          omega
        refine ⟨n1, ?_, by rw [hl]; omega⟩
        rw [hl, Int.toNat_of_nonneg n3, List.append_assoc, List.take_append_drop]
        exact n2
    · rw [if_pos (by simpa using h1)] at h
      simp only [Prod.mk.injEq] at h
      exact absurd (congrArg Prod.snd h.2) h1
def putV (v : Int × Int) : List UInt8 := be v.1 ++ be v.2
def okV (v : Int × Int) : Prop := (-2147483648 ≤ v.1 ∧ v.1 ≤ 2147483647) ∧ (-2147483648 ≤ v.2 ∧ v.2 ≤ 2147483647)
theorem val_item : Item valS putV okV := pair_item (num_item _ _ (by decide) (by decide)) (num_item _ _ (by decide) (by decide))
def putE (x : En) : List UInt8 := ((be x.node ++ be x.key) ++ putV x.c0) ++ putV x.c1
def okE (x : En) : Prop := (((0 ≤ x.node ∧ x.node ≤ 7) ∧ (0 ≤ x.key ∧ x.key ≤ 63)) ∧ okV x.c0) ∧ okV x.c1
theorem en_item : Item enS putE okE := map_item (pair_item (pair_item (pair_item (num_item 0 7 (by decide) (by decide)) (num_item 0 63 (by decide) (by decide))) val_item) val_item) _ (fun (x : En) => (((x.node, x.key), x.c0), x.c1)) (fun _ => rfl) (fun _ => rfl)
def putLn (x : Ln) : List UInt8 := ((be x.sink ++ be x.frm) ++ be x.key) ++ putV x.v
def okLn (x : Ln) : Prop := (((0 ≤ x.sink ∧ x.sink ≤ 7) ∧ (0 ≤ x.frm ∧ x.frm ≤ 7)) ∧ (0 ≤ x.key ∧ x.key ≤ 63)) ∧ okV x.v
theorem ln_item : Item lnS putLn okLn := map_item (pair_item (pair_item (pair_item (num_item 0 7 (by decide) (by decide)) (num_item 0 7 (by decide) (by decide))) (num_item 0 63 (by decide) (by decide))) val_item) _ (fun (x : Ln) => (((x.sink, x.frm), x.key), x.v)) (fun _ => rfl) (fun _ => rfl)
section
variable (gp : List UInt8 → List Vm.Ins × Int × List UInt8) (pp : List Vm.Ins → List UInt8) (fits : List Vm.Ins → Prop)
/-- a plan, if there is one -/
noncomputable def plS (s : Rs) : List Stp × Rs :=
  if (txS 8000 s).1 = [] then ([], (txS 8000 s).2) else ((getPl gp (txS 8000 s).1).1, ((txS 8000 s).2.1, (getPl gp (txS 8000 s).1).2))
def planB (p : List Stp) : List UInt8 := if p = [] then [] else putPl pp p
def putP (p : List Stp) : List UInt8 := be (planB pp p).length ++ planB pp p
def okP (p : List Stp) : Prop := p = [] ∨ OkPl fits p ∧ (∀ x ∈ p, cleanS x = x) ∧ ((putPl pp p).length : Int) ≤ 8000
def putM (m : Mf) : List UInt8 := be m.epoch ++ (be m.plans ++ (putC be m.offs ++ (putC (putNd pp) m.graph ++ (putC putE m.ents ++ (putC putLn m.out ++ putP pp m.plan)))))
noncomputable def manS : Rs → Mf × Rs :=
  mapS (fun (x : Int × Int × List Int × List Nd × List En × List Ln × List Stp) => (⟨x.1, x.2.1, x.2.2.1, x.2.2.2.1, x.2.2.2.2.1, x.2.2.2.2.2.1, x.2.2.2.2.2.2⟩ : Mf))
    (pairS (numS 0 2147483647) (pairS (numS 0 2147483647) (pairS (cntS (numS 0 400) 3) (pairS (cntS (nodeS gp 1) 8) (pairS (cntS enS 512) (pairS (cntS lnS 4000) (plS gp)))))))
def okM (m : Mf) : Prop := (0 ≤ m.epoch ∧ m.epoch ≤ 2147483647) ∧ (0 ≤ m.plans ∧ m.plans ≤ 2147483647) ∧ ((m.offs.length : Int) ≤ 3 ∧ ∀ x ∈ m.offs, 0 ≤ x ∧ x ≤ 400) ∧ ((m.graph.length : Int) ≤ 8 ∧ ∀ n ∈ m.graph, OkB fits 1 n) ∧ ((m.ents.length : Int) ≤ 512 ∧ ∀ x ∈ m.ents, okE x) ∧ ((m.out.length : Int) ≤ 4000 ∧ ∀ x ∈ m.out, okLn x) ∧ okP pp fits m.plan
end
section
variable {gp : List UInt8 → List Vm.Ins × Int × List UInt8} {pp : List Vm.Ins → List UInt8} {fits : List Vm.Ins → Prop}
theorem putPl_ne (p : List Stp) : putPl pp p ≠ [] := by
  unfold putPl
  intro h
  have := congrArg List.length h
  rw [List.length_append, Oc.be_len] at this
  simp at this
theorem pl_item (hc : Codec gp pp fits) : Item (plS gp) (putP pp) (okP pp fits) where
  put := by
    intro p t h
    unfold plS putP
    have hx : txS 8000 ((be (planB pp p).length ++ planB pp p) ++ t, 0) = (planB pp p, (t, 0)) := (tx_item 8000 (by decide)).put (planB pp p) t (by
      unfold planB
      split
      · decide
      · rcases h with h | h
        · exact absurd h (by assumption)
        · exact h.2.2)
    rw [hx]
    simp only
    by_cases hp : p = []
    · subst hp
      rw [if_pos (show planB pp [] = [] from rfl)]
    · have e : planB pp p = putPl pp p := if_neg hp
      rw [e, if_neg (putPl_ne p)]
      obtain ⟨h1, h2, -⟩ := h.resolve_left hp
      rw [getPl_put hc h1, map_clean h2]
  can := by
    intro s p t h
    unfold plS at h
    by_cases h1 : (txS 8000 s).1 = []
    · rw [if_pos h1] at h
      simp only [Prod.mk.injEq] at h
      obtain ⟨rfl, h2⟩ := h
      obtain ⟨a1, a2, -⟩ := (tx_item 8000 (by decide)).can s [] t (by rw [← h1, ← h2])
      exact ⟨a1, a2, .inl rfl⟩
    · rw [if_neg h1] at h
      simp only [Prod.mk.injEq] at h
      obtain ⟨h2, h3, h4⟩ := h
      have hg : getPl gp (txS 8000 s).1 = (p, 0) := by rw [← h2, ← h4]
      obtain ⟨g1, g2, g3⟩ := getPl_can hc hg
      have he : (txS 8000 s).2.2 = 0 := by
        refine Classical.byContradiction fun he => h1 ?_
        unfold txS at he ⊢
        split
        · rfl
        · rename_i q1
          rw [if_neg q1] at he
          split
          · rfl
          · rename_i q2
            rw [if_neg q2] at he
            exact absurd rfl he
      obtain ⟨a1, a2, a3⟩ := (tx_item 8000 (by decide)).can s (txS 8000 s).1 t (by rw [eta (txS 8000 s) he, h3])
      have hp : p ≠ [] := by
        rintro rfl
        have := g1.1
        simp at this
      refine ⟨a1, ?_, .inr ⟨g1, g3, by rw [g2]; exact a3⟩⟩
      unfold putP planB
      rw [if_neg hp, g2]
      exact a2
theorem node_item (hc : Codec gp pp fits) : Item (nodeS gp 1) (putNd pp) (OkB fits 1) := ⟨fun n t h => nodeS_put hc (by decide) h t, fun s n t h => nodeS_can hc h⟩
theorem man_item (hc : Codec gp pp fits) : Item (manS gp) (putM pp) (okM pp fits) :=
  map_item (pair_item (num_item 0 2147483647 (by decide) (by decide)) (pair_item (num_item 0 2147483647 (by decide) (by decide)) (pair_item (cntS_item (num_item 0 400 (by decide) (by decide)) 3 (by decide)) (pair_item (cntS_item (node_item hc) 8 (by decide)) (pair_item (cntS_item en_item 512 (by decide)) (pair_item (cntS_item ln_item 4000 (by decide)) (pl_item hc)))))))
    _ (fun (m : Mf) => (m.epoch, m.plans, m.offs, m.graph, m.ents, m.out, m.plan)) (fun _ => rfl) (fun _ => rfl)
/-- the same bytes: the same manifest -/
theorem putM_inj (hc : Codec gp pp fits) {a b : Mf} (ha : okM pp fits a) (hb : okM pp fits b) (h : putM pp a = putM pp b) : a = b := by
  have h1 := (man_item hc).put a [] ha
  have h2 := (man_item hc).put b [] hb
  rw [h, h2] at h1
  exact (congrArg Prod.fst h1).symm
end
end Gr

/-! Nodes in memory: thirteen cells each, two slices among them. -/
namespace Go.Proofs.YtangapokicnfgaaGreat
set_option linter.unusedSimpArgs false
set_option linter.unusedVariables false
open Go.RowKit Ga
set_option maxRecDepth 100000

abbrev IntsAt (w : World) (v : Value) (l : List Int) : Prop := RowsAt 1 (fun x => [Value.int .i64 x]) w v l
/-- a node as it lies: its slices are values -/
structure NdC where
  id : Int
  kind : Int
  af : Option Addr
  nf : Nat
  cf : Nat
  ap : Option Addr
  np : Nat
  cp : Nat
  par : Int
  r0 : Int
  r1 : Int
  r2 : Int
  r3 : Int
  r4 : Int
  r5 : Int
  r6 : Int
  r7 : Int
instance : Inhabited NdC := ⟨⟨0, 0, none, 0, 0, none, 0, 0, 0, 0, 0, 0, 0, 0, 0, 0, 0⟩⟩
abbrev NdC.vf (c : NdC) : Value := .slice c.af c.nf c.cf
abbrev NdC.vp (c : NdC) : Value := .slice c.ap c.np c.cp
def encNd (n : NdC) : List Value := [.int .i64 n.id, .int .i64 n.kind, .slice n.af n.nf n.cf, .slice n.ap n.np n.cp, .int .i64 n.par, .int .i64 n.r0, .int .i64 n.r1, .int .i64 n.r2, .int .i64 n.r3, .int .i64 n.r4, .int .i64 n.r5, .int .i64 n.r6, .int .i64 n.r7]
theorem encNd_len (n : NdC) : (encNd n).length = 13 := rfl
structure NodeIs (w : World) (c : NdC) (n : Gr.Nd) : Prop where
  id : n.id = c.id
  kind : n.kind = c.kind
  f : IntsAt w c.vf n.frm
  p : ValsAt w c.vp n.prog
  par : n.par = c.par
  route : n.route = [c.r0, c.r1, c.r2, c.r3, c.r4, c.r5, c.r6, c.r7]
  fc : n.frm.length ≤ c.cf
theorem NodeIs.grew {w w' : World} {c : NdC} {n : Gr.Nd} (h : NodeIs w c n) (g : Grew w w') : NodeIs w' c n :=
  { h with f := h.f.grew g, p := h.p.grew g }
theorem IntsAt.one {w : World} {v : Value} {l : List Int} (h : IntsAt w v l) : v.oneCell' = true := by
  obtain ⟨a, cap, rfl, -⟩ := h
  rfl
theorem ValsAt.one {w : World} {v : Value} {l : List Val} (h : ValsAt w v l) : v.oneCell' = true := by
  obtain ⟨a, cap, rfl, -⟩ := h
  rfl
theorem encNd_one (c : NdC) : ∀ u ∈ encNd c, u.oneCell' = true := by
  intro u hu
  simp [encNd] at hu
  rcases hu with rfl | rfl | rfl | rfl | rfl | rfl | rfl | rfl | rfl | rfl | rfl | rfl | rfl <;> rfl
/-- .. written out -/
theorem NodeIs.lit {w : World} {c : NdC} {n : Gr.Nd} (h : NodeIs w c n) : ∃ id kind af cf ap cp par r0 r1 r2 r3 r4 r5 r6 r7, c = ⟨id, kind, af, n.frm.length, cf, ap, n.prog.length, cp, par, r0, r1, r2, r3, r4, r5, r6, r7⟩ := by
  obtain ⟨id, kind, af, nf, cf, ap, np, cp, par, r0, r1, r2, r3, r4, r5, r6, r7⟩ := c
  obtain ⟨af', cf', e1⟩ := h.f.len
  obtain ⟨ap', cp', e2⟩ := h.p.len
  simp only [NdC.vf, NdC.vp] at e1 e2
  cases e1
  cases e2
  exact ⟨id, kind, _, _, _, _, par, r0, r1, r2, r3, r4, r5, r6, r7, rfl⟩
def NodesAt (w : World) (v : Value) (l : List Gr.Nd) : Prop := ∃ lc : List NdC, RowsAt 13 encNd w v lc ∧ lc.length = l.length ∧ ∀ (i : Nat) (c : NdC) (n : Gr.Nd), lc[i]? = some c → l[i]? = some n → NodeIs w c n
theorem NodesAt.grew {w w' : World} {v : Value} {l : List Gr.Nd} (h : NodesAt w v l) (g : Grew w w') : NodesAt w' v l := by
  obtain ⟨lc, h1, h2, h3⟩ := h
  exact ⟨lc, h1.grew g, h2, fun i c n hc hn => (h3 i c n hc hn).grew g⟩
theorem NodeIs.r8 {w : World} {c : NdC} {n : Gr.Nd} (h : NodeIs w c n) : n.route.length = 8 := by rw [h.route]; rfl
theorem NodesAt.r8 {w : World} {v : Value} {l : List Gr.Nd} (h : NodesAt w v l) : ∀ n ∈ l, n.route.length = 8 := by
  obtain ⟨lc, h1, h2, h3⟩ := h
  intro n hn
  obtain ⟨i, hi, e⟩ := List.mem_iff_getElem.1 hn
  exact (h3 i _ n (List.getElem?_eq_getElem (by omega)) (by rw [List.getElem?_eq_getElem hi, e])).r8
/-- the slice and its cells, the node as it lies -/
theorem NodesAt.openC {w : World} {v : Value} {l : List Gr.Nd} (h : NodesAt w v l) : ∃ a cap, v = .slice a l.length cap ∧ l.length ≤ 9223372036854775807 ∧ ∀ i (hi : i < l.length), ∃ b off c, a = some ⟨b, off, none⟩ ∧ Pre b w ∧ NodeIs w c l[i] ∧
    w.cell? ⟨b, off + i * 13, none⟩ = some (.int .i64 c.id) ∧ w.cell? ⟨b, off + i * 13 + 1, none⟩ = some (.int .i64 c.kind) ∧ w.cell? ⟨b, off + i * 13 + 2, none⟩ = some (.slice c.af c.nf c.cf) ∧ w.cell? ⟨b, off + i * 13 + 3, none⟩ = some (.slice c.ap c.np c.cp) ∧ w.cell? ⟨b, off + i * 13 + 4, none⟩ = some (.int .i64 c.par) ∧
    w.cell? ⟨b, off + i * 13 + 5, none⟩ = some (.int .i64 c.r0) ∧ w.cell? ⟨b, off + i * 13 + 6, none⟩ = some (.int .i64 c.r1) ∧ w.cell? ⟨b, off + i * 13 + 7, none⟩ = some (.int .i64 c.r2) ∧ w.cell? ⟨b, off + i * 13 + 8, none⟩ = some (.int .i64 c.r3) ∧ w.cell? ⟨b, off + i * 13 + 9, none⟩ = some (.int .i64 c.r4) ∧ w.cell? ⟨b, off + i * 13 + 10, none⟩ = some (.int .i64 c.r5) ∧ w.cell? ⟨b, off + i * 13 + 11, none⟩ = some (.int .i64 c.r6) ∧ w.cell? ⟨b, off + i * 13 + 12, none⟩ = some (.int .i64 c.r7) := by
  obtain ⟨lc, ⟨a, cap, rfl, hm, hx⟩, h2, h3⟩ := h
  refine ⟨a, cap, by rw [h2], by unfold maxLen at hm; omega, fun i hi => ?_⟩
  have hi' : i < lc.length := by omega
  obtain ⟨b, off, rfl, hc⟩ := hx (by intro e; subst e; simp at hi')
  have hn := h3 i lc[i] l[i] (List.getElem?_eq_getElem hi') (List.getElem?_eq_getElem hi)
  have hj := fun j u => hc i lc[i] (List.getElem?_eq_getElem hi') j u
  have h0 := hj 0 _ rfl
  exact ⟨b, off, lc[i], rfl, Pre.mk (World.block_lt_of_cell? w _ h0), hn, h0, hj 1 _ rfl, hj 2 _ rfl, hj 3 _ rfl, hj 4 _ rfl, hj 5 _ rfl, hj 6 _ rfl, hj 7 _ rfl, hj 8 _ rfl, hj 9 _ rfl, hj 10 _ rfl, hj 11 _ rfl, hj 12 _ rfl⟩
/-- .. what the first cells hold, in the node's own words -/
theorem NodesAt.open' {w : World} {v : Value} {l : List Gr.Nd} (h : NodesAt w v l) : ∃ a cap, v = .slice a l.length cap ∧ l.length ≤ 9223372036854775807 ∧ ∀ i (hi : i < l.length), ∃ b off vf vp, a = some ⟨b, off, none⟩ ∧ Pre b w ∧ IntsAt w vf l[i].frm ∧ ValsAt w vp l[i].prog ∧
    w.cell? ⟨b, off + i * 13, none⟩ = some (.int .i64 l[i].id) ∧ w.cell? ⟨b, off + i * 13 + 1, none⟩ = some (.int .i64 l[i].kind) ∧ w.cell? ⟨b, off + i * 13 + 2, none⟩ = some vf ∧ w.cell? ⟨b, off + i * 13 + 3, none⟩ = some vp ∧ w.cell? ⟨b, off + i * 13 + 4, none⟩ = some (.int .i64 l[i].par) ∧
    ∀ g, g < 8 → w.cell? ⟨b, off + i * 13 + 5 + g, none⟩ = some (.int .i64 (l[i].route.getD g 0)) := by
  obtain ⟨a, cap, rfl, hm, hx⟩ := h.openC
  refine ⟨a, cap, rfl, hm, fun i hi => ?_⟩
  obtain ⟨b, off, c, rfl, hb, hn, c0, c1, c2, c3, c4, c5, c6, c7, c8, c9, c10, c11, c12⟩ := hx i hi
  refine ⟨b, off, c.vf, c.vp, rfl, hb, hn.f, hn.p, by rw [hn.id]; exact c0, by rw [hn.kind]; exact c1, c2, c3, by rw [hn.par]; exact c4, fun g hg => ?_⟩
  rw [hn.route]
  rcases (show g = 0 ∨ g = 1 ∨ g = 2 ∨ g = 3 ∨ g = 4 ∨ g = 5 ∨ g = 6 ∨ g = 7 by omega) with rfl | rfl | rfl | rfl | rfl | rfl | rfl | rfl
  · exact c5
  · exact c6
  · exact c7
  · exact c8
  · exact c9
  · exact c10
  · exact c11
  · exact c12
/-- .. all thirteen cells written out -/
theorem NodesAt.open13 {w : World} {v : Value} {l : List Gr.Nd} (h : NodesAt w v l) : ∃ a cap, v = .slice a l.length cap ∧ l.length ≤ 9223372036854775807 ∧ ∀ i (hi : i < l.length), ∃ b off vf vp, a = some ⟨b, off, none⟩ ∧ Pre b w ∧ IntsAt w vf l[i].frm ∧ ValsAt w vp l[i].prog ∧
    w.cell? ⟨b, off + i * 13, none⟩ = some (.int .i64 l[i].id) ∧ w.cell? ⟨b, off + i * 13 + 1, none⟩ = some (.int .i64 l[i].kind) ∧ w.cell? ⟨b, off + i * 13 + 2, none⟩ = some vf ∧ w.cell? ⟨b, off + i * 13 + 3, none⟩ = some vp ∧ w.cell? ⟨b, off + i * 13 + 4, none⟩ = some (.int .i64 l[i].par) ∧
    w.cell? ⟨b, off + i * 13 + 5, none⟩ = some (.int .i64 (l[i].route.getD 0 0)) ∧ w.cell? ⟨b, off + i * 13 + 6, none⟩ = some (.int .i64 (l[i].route.getD 1 0)) ∧ w.cell? ⟨b, off + i * 13 + 7, none⟩ = some (.int .i64 (l[i].route.getD 2 0)) ∧ w.cell? ⟨b, off + i * 13 + 8, none⟩ = some (.int .i64 (l[i].route.getD 3 0)) ∧
    w.cell? ⟨b, off + i * 13 + 9, none⟩ = some (.int .i64 (l[i].route.getD 4 0)) ∧ w.cell? ⟨b, off + i * 13 + 10, none⟩ = some (.int .i64 (l[i].route.getD 5 0)) ∧ w.cell? ⟨b, off + i * 13 + 11, none⟩ = some (.int .i64 (l[i].route.getD 6 0)) ∧ w.cell? ⟨b, off + i * 13 + 12, none⟩ = some (.int .i64 (l[i].route.getD 7 0)) := by
  obtain ⟨a, cap, rfl, hm, hx⟩ := h.open'
  refine ⟨a, cap, rfl, hm, fun i hi => ?_⟩
  obtain ⟨b, off, vf, vp, e, hb, hf, hp, c0, c1, c2, c3, c4, cr⟩ := hx i hi
  exact ⟨b, off, vf, vp, e, hb, hf, hp, c0, c1, c2, c3, c4, cr 0 (by decide), cr 1 (by decide), cr 2 (by decide), cr 3 (by decide), cr 4 (by decide), cr 5 (by decide), cr 6 (by decide), cr 7 (by decide)⟩
end Go.Proofs.YtangapokicnfgaaGreat

/-! forebayref08: Find, Has. -/
namespace Go.Proofs.YtangapokicnfgaaGreat
set_option linter.unusedSimpArgs false
set_option linter.unusedVariables false
open Go.RowKit Ga
set_option maxRecDepth 100000

def findI (l : List Gr.Nd) (id : Int) : Int := match Gr.find l id with
  | some i => i
  | none => -1
theorem findI_at {l : List Gr.Nd} {id : Int} {k : Nat} (hk : k < l.length) (h : l[k].id = id) (hn : ∀ j (hj : j < l.length), j < k → l[j].id ≠ id) : findI l id = k := by
  unfold findI Gr.find
  rw [List.findIdx?_eq_some_iff_getElem.2 ⟨hk, by simpa using h, fun j hj => by simpa using hn j (by omega) hj⟩]
theorem findI_no {l : List Gr.Nd} {id : Int} (hn : ∀ j (hj : j < l.length), l[j].id ≠ id) : findI l id = -1 := by
  unfold findI Gr.find
  rw [List.findIdx?_eq_none_iff.2 fun n hm => by
    obtain ⟨j, hj, rfl⟩ := List.mem_iff_getElem.1 hm
    simpa using hn j hj]

theorem ints_open {w : World} {v : Value} {l : List Int} (h : IntsAt w v l) : ∃ a cap, v = .slice a l.length cap ∧ l.length ≤ 9223372036854775807 ∧ ∀ i (hi : i < l.length), ∃ b off, a = some ⟨b, off, none⟩ ∧ Pre b w ∧ w.cell? ⟨b, off + i, none⟩ = some (.int .i64 l[i]) := by
  obtain ⟨a, cap, rfl, hm, hl⟩ := h
  refine ⟨a, cap, rfl, by unfold maxLen at hm; omega, fun i hi => ?_⟩
  obtain ⟨b, off, rfl, hx⟩ := hl (by intro e; subst e; simp at hi)
  have h0 := hx i l[i] (List.getElem?_eq_getElem hi) 0 _ rfl
  rw [Nat.mul_one, Nat.add_zero] at h0
  exact ⟨b, off, rfl, Pre.mk (World.block_lt_of_cell? w _ h0), h0⟩

set_option maxHeartbeats 2000000 in
theorem refFind08_any (v : Value) (l : List Gr.Nd) (id : Int) (w : World) (hv : NodesAt w v l) : Calls Tryz.prog 33 #[v, .int .i64 id] w fun e w' => e = .returned (.int .i64 (findI l id)) ∧ w' = w := by
  obtain ⟨a, cap, rfl, hm, hx⟩ := hv.open'
  have HX := Lib.hid hx
  clear hx hv
  go_enter Tryz.func33, Tryz.ntmps33
  go_wp2
  go_loopw [5] (fun i wr => ∃ k : Nat, k ≤ l.length ∧ i = .int .i64 k ∧ wr = w ∧ ∀ j (hj : j < l.length), j < k → l[j].id ≠ id) (fun i _ => l.length - (intOf i).toNat)
  case atStart => exact ⟨0, Nat.zero_le _, rfl, rfl, fun j _ h => by omega⟩
  case round =>
    obtain ⟨k, hk, rfl, rfl, hno⟩ := hrel
    have HNO := Lib.hid hno
    clear hno
    by_cases hlt : k < l.length
    · obtain ⟨b, off, vf, vp, rfl, hb, -, -, c0, -⟩ := HX.out k hlt
      by_cases he : l[k].id = id
      · have hf := findI_at hlt he fun j hj h => HNO.out j hj h
        have HF := Lib.hid hf
        clear hf
        rw [he] at c0
        clear he
        go_wp2
        refine bodyPost_ret (v := .int .i64 k) (by simp [results, Tryz.results33, go_sem]) rfl (by rw [HF.out]; first | exact ⟨rfl, rfl⟩ | exact ⟨rfl, trivial⟩ | trivial)
      · have hbe : (l[k].id == id) = false := by simpa using he
        have HNE := Lib.hid he
        clear he
        generalize hgx : l[k].id = x at *
        have HGX := Lib.hid hgx
        clear hgx
        go_wp2
        go_roundw
        case rel => exact ⟨k + 1, by omega, by go_num, trivial, fun j hj h => by
          rcases Nat.lt_or_ge j k with h1 | h1
          · exact HNO.out j hj h1
          · obtain rfl : j = k := by omega
            rw [HGX.out]
            exact HNE.out⟩
        case measure => first | (simp [intOf]; done) | (simp [intOf]; omega)
    · obtain rfl : k = l.length := by omega
      have hf := findI_no fun j hj => HNO.out j hj hj
      have HF := Lib.hid hf
      clear hf
      go_wp2
      refine bodyPost_ret (v := .int .i64 (-1)) (by simp [results, Tryz.results33, go_sem]) rfl (by rw [HF.out]; first | exact ⟨rfl, rfl⟩ | exact ⟨rfl, trivial⟩ | trivial)

set_option maxHeartbeats 2000000 in
theorem refHas08_any (v : Value) (l : List Int) (n : Int) (w : World) (hv : IntsAt w v l) : Calls Tryz.prog 35 #[v, .int .i64 n] w fun e w' => e = .returned (.bool (decide (n ∈ l))) ∧ w' = w := by
  obtain ⟨a, cap, rfl, hm, hx⟩ := ints_open hv
  have HX := Lib.hid hx
  clear hx hv
  go_enter Tryz.func35, Tryz.ntmps35
  go_wp2
  go_loopw [5] (fun i wr => ∃ k : Nat, k ≤ l.length ∧ i = .int .i64 k ∧ wr = w ∧ ∀ j (hj : j < l.length), j < k → l[j] ≠ n) (fun i _ => l.length - (intOf i).toNat)
  case atStart => exact ⟨0, Nat.zero_le _, rfl, rfl, fun j _ h => by omega⟩
  case round =>
    obtain ⟨k, hk, rfl, rfl, hno⟩ := hrel
    have HNO := Lib.hid hno
    clear hno
    by_cases hlt : k < l.length
    · obtain ⟨b, off, rfl, hb, c0⟩ := HX.out k hlt
      by_cases he : l[k] = n
      · have hf : n ∈ l := he ▸ List.getElem_mem hlt
        have HF := Lib.hid hf
        clear hf
        rw [he] at c0
        clear he
        go_wp2
        refine bodyPost_ret (v := .bool true) (by simp [results, Tryz.results35, go_sem]) rfl (by rw [decide_eq_true HF.out]; first | exact ⟨rfl, rfl⟩ | exact ⟨rfl, trivial⟩ | trivial)
      · have hbe : (l[k] == n) = false := by simpa using he
        have HNE := Lib.hid he
        clear he
        generalize hgx : l[k] = x at *
        have HGX := Lib.hid hgx
        clear hgx
        go_wp2
        go_roundw
        case rel => exact ⟨k + 1, by omega, by go_num, trivial, fun j hj h => by
          rcases Nat.lt_or_ge j k with h1 | h1
          · exact HNO.out j hj h1
          · obtain rfl : j = k := by omega
            rw [HGX.out]
            exact HNE.out⟩
        case measure => first | (simp [intOf]; done) | (simp [intOf]; omega)
    · obtain rfl : k = l.length := by omega
      have hf : n ∉ l := fun q => by
        obtain ⟨j, hj, e⟩ := List.mem_iff_getElem.1 q
        exact HNO.out j hj hj e
      have HF := Lib.hid hf
      clear hf
      go_wp2
      refine bodyPost_ret (v := .bool false) (by simp [results, Tryz.results35, go_sem]) rfl (by rw [decide_eq_false HF.out]; first | exact ⟨rfl, rfl⟩ | exact ⟨rfl, trivial⟩ | trivial)
end Go.Proofs.YtangapokicnfgaaGreat
