import Derived.Test.YtangapokicnfgaaGreatMq5
import Derived.Test.YtangapokicnfgaaGreatMq13
import Derived.Test.YtangapokicnfgaaGreatMq7
import Derived.Test.YtangapokicnfgaaGreatMq53
/-! What is kept, as a list of entries: a table made of a list keeps just that list if it stands by places and has nothing empty: plain laws. -/
namespace Tab
open Ga
set_option linter.unusedSimpArgs false
set_option linter.unusedVariables false

structure En where
  node : Int
  key : Int
  c0 : Val
  c1 : Val
def num (e : En) : Int := e.node * 64 + e.key
def nz (e : En) : Bool := !(e.c0 == (0, 0) && e.c1 == (0, 0))
/-- something is kept, or nothing any more -/
def setT (m : List En) (x : En) : List En := if nz x then x :: m.filter (fun y => num y != num x) else m.filter (fun y => num y != num x)
def newT (l : List En) : List En := l.foldl setT []
theorem num_inj {a b : En} (ha : 0 ≤ a.key ∧ a.key < 64) (hb : 0 ≤ b.key ∧ b.key < 64) (h : num a = num b) : a.node = b.node ∧ a.key = b.key := by
  unfold num at h
  omega
/-- what holds of a table -/
structure Ok (l m : List En) : Prop where
  un : m.Pairwise fun a b => num a ≠ num b
  sub : ∀ x ∈ m, x ∈ l
  nz : ∀ x ∈ m, nz x = true
theorem Ok.set {l m : List En} (h : Ok l m) (x : En) : Ok (l ++ [x]) (setT m x) := by
  have hf : ∀ y ∈ m.filter (fun y => num y != num x), y ∈ m ∧ num y ≠ num x := fun y hy => by
    obtain ⟨h1, h2⟩ := List.mem_filter.1 hy
    exact ⟨h1, by simpa using h2⟩
  unfold setT
  split
  · rename_i hn
    refine ⟨List.pairwise_cons.2 ⟨fun y hy => fun e => (hf y hy).2 e.symm, h.un.filter _⟩, fun y hy => ?_, fun y hy => ?_⟩
    · rcases List.mem_cons.1 hy with rfl | h1
      · exact List.mem_append_right _ (List.mem_singleton.2 rfl)
      · exact List.mem_append_left _ (h.sub y (hf y h1).1)
    · rcases List.mem_cons.1 hy with rfl | h1
      · exact hn
      · exact h.nz y (hf y h1).1
  · exact ⟨h.un.filter _, fun y hy => List.mem_append_left _ (h.sub y (hf y hy).1), fun y hy => h.nz y (hf y hy).1⟩
theorem newT_snoc (l : List En) (x : En) : newT (l ++ [x]) = setT (newT l) x := by
  unfold newT
  rw [List.foldl_append]
  rfl
theorem newT_ok (l : List En) : Ok l (newT l) := by
  suffices h : ∀ (r : List En), Ok r.reverse (newT r.reverse) by
    have := h l.reverse
    rwa [List.reverse_reverse] at this
  intro r
  induction r with
  | nil => exact ⟨List.Pairwise.nil, fun x hx => (by cases hx), fun x hx => (by cases hx)⟩
  | cons x r ih =>
    rw [List.reverse_cons, newT_snoc]
    exact ih.set x
/-- what stands by places, and has nothing empty, is kept as it is -/
theorem newT_rev (l : List En) (hs : l.Pairwise fun a b => num a < num b) (hn : ∀ x ∈ l, nz x = true) : newT l = l.reverse := by
  suffices h : ∀ (r : List En), (r.reverse.Pairwise fun a b => num a < num b) → (∀ x ∈ r, nz x = true) → newT r.reverse = r by
    have := h l.reverse (by rwa [List.reverse_reverse]) fun x hx => hn x (List.mem_reverse.1 hx)
    rwa [List.reverse_reverse] at this
  intro r
  induction r with
  | nil => intro _ _; rfl
  | cons x r ih =>
    intro hs hn
    rw [List.reverse_cons] at hs ⊢
    obtain ⟨h1, _, h3⟩ := List.pairwise_append.1 hs
    rw [newT_snoc, ih h1 fun y hy => hn y (List.mem_cons_of_mem _ hy)]
    unfold setT
    rw [if_pos (hn x (List.mem_cons_self ..))]
    congr 1
    refine List.filter_eq_self.2 fun y hy => ?_
    have := h3 y (List.mem_reverse.2 hy) x (List.mem_singleton.2 rfl)
    have : num y ≠ num x := by omega
    simpa using this
/-- THE LAW: all that a table keeps, by places, is the list of which it was made, just if that stands by places and has nothing empty. -/
theorem all_iff {l s : List En} (hp : s.Perm (newT l)) (hs : s.Pairwise fun a b => num a ≤ num b) : s = l ↔ (l.Pairwise fun a b => num a < num b) ∧ ∀ x ∈ l, nz x = true := by
  have ho := newT_ok l
  constructor
  · rintro rfl
    have hu : s.Pairwise fun a b => num a ≠ num b := (hp.pairwise_iff (fun h => fun e => h e.symm)).2 ho.un
    refine ⟨(hs.and hu).imp fun h => by omega, fun x hx => ho.nz x (hp.mem_iff.1 hx)⟩
  · rintro ⟨h1, h2⟩
    rw [newT_rev l h1 h2] at hp
    have hp2 := hp.trans (List.reverse_perm l)
    refine List.Perm.eq_of_pairwise (le := fun a b => num a ≤ num b) (fun a b ha hb e1 e2 => ?_) hs (h1.imp fun h => by omega) hp2
    have ha' := hp2.mem_iff.1 ha
    obtain ⟨i, hi, rfl⟩ := List.mem_iff_getElem.1 ha'
    obtain ⟨j, hj, rfl⟩ := List.mem_iff_getElem.1 hb
    have hpw := List.pairwise_iff_getElem.1 h1
    rcases Nat.lt_trichotomy i j with h3 | h3 | h3
    · have := hpw i j hi hj h3
      omega
    · subst h3
      rfl
    · have := hpw j i hj hi h3
      omega
end Tab

/-! Manifests as bytes: plain laws. -/
namespace Gr
open Oc (be bes)
open Ga Tab
set_option linter.unusedSimpArgs false
set_option linter.unusedVariables false

theorem fitsN_of {n : Int} (h : -2147483648 ≤ n ∧ n ≤ 2147483647) : Oc.fitsN n = true := by unfold Oc.fitsN; simp; omega
/-- any list of things that are read one by one -/
structure Item {α : Type} (rd : Rs → α × Rs) (pt : α → List UInt8) (ok : α → Prop) : Prop where
  put : ∀ x t, ok x → rd (pt x ++ t, 0) = (x, (t, 0))
  can : ∀ s x t, rd s = (x, (t, 0)) → s.2 = 0 ∧ s.1 = pt x ++ t ∧ ok x
def manyS {α : Type} (rd : Rs → α × Rs) : Nat → Rs → List α × Rs
  | 0, s => ([], s)
  | k + 1, s => ((rd s).1 :: (manyS rd k (rd s).2).1, (manyS rd k (rd s).2).2)
theorem manyS_put {α : Type} {rd : Rs → α × Rs} {pt : α → List UInt8} {ok : α → Prop} (h : Item rd pt ok) : ∀ (l : List α) (t : List UInt8), (∀ x ∈ l, ok x) → manyS rd l.length (l.flatMap pt ++ t, 0) = (l, (t, 0))
  | [], t, _ => rfl
  | x :: l, t, hl => by
    have h1 : rd ((x :: l).flatMap pt ++ t, 0) = (x, (l.flatMap pt ++ t, 0)) := by
      rw [List.flatMap_cons, List.append_assoc]
      exact h.put x _ (hl x (List.mem_cons_self ..))
    rw [List.length_cons, manyS, h1]
    simp only
    rw [manyS_put h l t fun y hy => hl y (List.mem_cons_of_mem _ hy)]
theorem manyS_can {α : Type} {rd : Rs → α × Rs} {pt : α → List UInt8} {ok : α → Prop} (h : Item rd pt ok) : ∀ (k : Nat) {s : Rs} {l : List α} {t : List UInt8}, manyS rd k s = (l, (t, 0)) → s.2 = 0 ∧ s.1 = l.flatMap pt ++ t ∧ l.length = k ∧ ∀ x ∈ l, ok x
  | 0, s, l, t, hs => by
    unfold manyS at hs
    simp only [Prod.mk.injEq] at hs
    obtain ⟨rfl, rfl⟩ := hs
    exact ⟨rfl, rfl, rfl, fun x hx => (by cases hx)⟩
  | k + 1, s, l, t, hs => by
    rw [manyS] at hs
    simp only [Prod.mk.injEq] at hs
    obtain ⟨rfl, h2⟩ := hs
    obtain ⟨i1, i2, i3, i4⟩ := manyS_can h k (l := (manyS rd k (rd s).2).1) (t := t) (by rw [← h2])
    obtain ⟨n1, n2, n3⟩ := h.can _ _ _ (eta (rd s) i1)
    refine ⟨n1, ?_, by rw [List.length_cons, i3], fun x hx => ?_⟩
    · rw [n2, i2, List.flatMap_cons, List.append_assoc]
    · rcases List.mem_cons.1 hx with rfl | h3
      · exact n3
      · exact i4 x h3
/-- how many, and as many -/
def cntS {α : Type} (rd : Rs → α × Rs) (most : Int) (s : Rs) : List α × Rs := manyS rd (numS 0 most s).1.toNat (numS 0 most s).2
def putC {α : Type} (pt : α → List UInt8) (l : List α) : List UInt8 := be l.length ++ l.flatMap pt
theorem cntS_item {α : Type} {rd : Rs → α × Rs} {pt : α → List UInt8} {ok : α → Prop} (h : Item rd pt ok) (most : Int) (hm : most ≤ 2147483647) : Item (cntS rd most) (putC pt) fun l => (l.length : Int) ≤ most ∧ ∀ x ∈ l, ok x where
  put := by
    rintro l t ⟨h1, h2⟩
    unfold cntS putC
    rw [List.append_assoc, numS_put (by omega) h1 (fitsN_of (by omega))]
    simp only [Int.toNat_natCast]
    exact manyS_put h l t h2
  can := by
    intro s l t hs
    unfold cntS at hs
    obtain ⟨i1, i2, i3, i4⟩ := manyS_can h _ hs
    obtain ⟨n1, n2, n3, n4⟩ := numS_can (eta (numS 0 most s) i1)
    refine ⟨n1, ?_, by omega, i4⟩
    unfold putC
    rw [n2, i2, List.append_assoc, show ((l.length : Nat) : Int) = (numS 0 most s).1 by omega]
theorem num_item (a b : Int) (ha : -2147483648 ≤ a) (hb : b ≤ 2147483647) : Item (numS a b) be fun n => a ≤ n ∧ n ≤ b where
  put := fun n t h => numS_put h.1 h.2 (fitsN_of (by omega)) t
  can := fun s n t h => by
    obtain ⟨h1, h2, h3, h4⟩ := numS_can h
    exact ⟨h1, h2, h3, h4⟩
/-- one behind the other -/
def pairS {α β : Type} (ra : Rs → α × Rs) (rb : Rs → β × Rs) (s : Rs) : (α × β) × Rs := (((ra s).1, (rb (ra s).2).1), (rb (ra s).2).2)
theorem pair_item {α β : Type} {ra : Rs → α × Rs} {rb : Rs → β × Rs} {pa : α → List UInt8} {pb : β → List UInt8} {oa : α → Prop} {ob : β → Prop} (ha : Item ra pa oa) (hb : Item rb pb ob) : Item (pairS ra rb) (fun x => pa x.1 ++ pb x.2) fun x => oa x.1 ∧ ob x.2 where
  put := by
    rintro ⟨x, y⟩ t ⟨h1, h2⟩
    unfold pairS
    simp only at h1 h2 ⊢
    rw [List.append_assoc, ha.put x _ h1]
    simp only
    rw [hb.put y t h2]
  can := by
    rintro s ⟨x, y⟩ t h
    unfold pairS at h
    simp only [Prod.mk.injEq] at h
    obtain ⟨⟨rfl, rfl⟩, h2⟩ := h
    obtain ⟨b1, b2, b3⟩ := hb.can (ra s).2 _ t (by
      have : (rb (ra s).2).2.2 = 0 := by rw [h2]
      rw [eta (rb (ra s).2) this, h2])
    obtain ⟨a1, a2, a3⟩ := ha.can s _ _ (eta (ra s) b1)
    exact ⟨a1, by rw [a2, b2, List.append_assoc], a3, b3⟩
/-- in other words -/
def mapS {α β : Type} (f : α → β) (ra : Rs → α × Rs) (s : Rs) : β × Rs := (f (ra s).1, (ra s).2)
theorem map_item {α β : Type} {ra : Rs → α × Rs} {pa : α → List UInt8} {oa : α → Prop} (ha : Item ra pa oa) (f : α → β) (g : β → α) (hgf : ∀ x, g (f x) = x) (hfg : ∀ y, f (g y) = y) : Item (mapS f ra) (fun y => pa (g y)) fun y => oa (g y) where
  put := by
    intro y t h
    unfold mapS
    rw [ha.put (g y) t h, hfg]
  can := by
    intro s y t h
    unfold mapS at h
    simp only [Prod.mk.injEq] at h
    obtain ⟨rfl, h2⟩ := h
    have h3 : (ra s).2.2 = 0 := by rw [h2]
    obtain ⟨a1, a2, a3⟩ := ha.can s (ra s).1 t (by rw [eta (ra s) h3, h2])
    rw [hgf]
    exact ⟨a1, a2, a3⟩
end Gr

/-! A manifest as bytes: what is put is got, and what is got was put: plain laws. -/
namespace Gr
open Oc (be bes)
open Ga Tab
set_option linter.unusedSimpArgs false
set_option linter.unusedVariables false

structure Ln where
  sink : Int
  frm : Int
  key : Int
  v : Val
structure Mf where
  epoch : Int
  plans : Int
  offs : List Int
  graph : List Nd
  ents : List En
  out : List Ln
  plan : List Stp
def valS : Rs → (Int × Int) × Rs := pairS (numS (-2147483648) 2147483647) (numS (-2147483648) 2147483647)
def enS : Rs → En × Rs := mapS (fun (x : ((Int × Int) × (Int × Int)) × (Int × Int)) => (⟨x.1.1.1, x.1.1.2, x.1.2, x.2⟩ : En)) (pairS (pairS (pairS (numS 0 7) (numS 0 63)) valS) valS)
def lnS : Rs → Ln × Rs := mapS (fun (x : ((Int × Int) × Int) × (Int × Int)) => (⟨x.1.1.1, x.1.1.2, x.1.2, x.2⟩ : Ln)) (pairS (pairS (pairS (numS 0 7) (numS 0 7)) (numS 0 63)) valS)
/-- a text: how long, and its bytes -/
def txS (most : Int) (s : Rs) : List UInt8 × Rs :=
  if (numS 0 most s).2.2 ≠ 0 then ([], (numS 0 most s).2)
  else if (numS 0 most s).2.1.length < (numS 0 most s).1.toNat then ([], ((numS 0 most s).2.1, 3))
  else ((numS 0 most s).2.1.take (numS 0 most s).1.toNat, ((numS 0 most s).2.1.drop (numS 0 most s).1.toNat, 0))
theorem tx_item (most : Int) (hm : most ≤ 2147483647) : Item (txS most) (fun t => be t.length ++ t) fun t => (t.length : Int) ≤ most where
  put := by
    intro x t h
    unfold txS
    rw [List.append_assoc, numS_put (by omega) h (fitsN_of (by omega))]
    simp
  can := by
    intro s x t h
    unfold txS at h
    by_cases h1 : (numS 0 most s).2.2 = 0
    · rw [if_neg (by simpa using h1)] at h
      by_cases h2 : (numS 0 most s).2.1.length < (numS 0 most s).1.toNat
      · rw [if_pos h2] at h
        simp at h
      · rw [if_neg h2] at h
        simp only [Prod.mk.injEq, and_true] at h
        obtain ⟨rfl, rfl⟩ := h
        obtain ⟨n1, n2, n3, n4⟩ := numS_can (eta (numS 0 most s) h1)
        have hl : ((numS 0 most s).2.1.take (numS 0 most s).1.toNat).length = (numS 0 most s).1.toNat := by
          rw [List.length_take]
          omega
        refine ⟨n1, ?_, by rw [hl]; omega⟩
        rw [hl, Int.toNat_of_nonneg n3, List.append_assoc, List.take_append_drop]
        exact n2
    · rw [if_pos (by simpa using h1)] at h
      simp only [Prod.mk.injEq] at h
      exact absurd (congrArg Prod.snd h.2) h1
def putV (v : Int × Int) : List UInt8 := be v.1 ++ be v.2
def okV (v : Int × Int) : Prop := (-2147483648 ≤ v.1 ∧ v.1 ≤ 2147483647) ∧ (-2147483648 ≤ v.2 ∧ v.2 ≤ 2147483647)
theorem val_item : Item valS putV okV := pair_item (num_item _ _ (by decide) (by decide)) (num_item _ _ (by decide) (by decide))
def putE (x : En) : List UInt8 := ((be x.node ++ be x.key) ++ putV x.c0) ++ putV x.c1
def okE (x : En) : Prop := (((0 ≤ x.node ∧ x.node ≤ 7) ∧ (0 ≤ x.key ∧ x.key ≤ 63)) ∧ okV x.c0) ∧ okV x.c1
theorem en_item : Item enS putE okE := map_item (pair_item (pair_item (pair_item (num_item 0 7 (by decide) (by decide)) (num_item 0 63 (by decide) (by decide))) val_item) val_item) _ (fun (x : En) => (((x.node, x.key), x.c0), x.c1)) (fun _ => rfl) (fun _ => rfl)
def putLn (x : Ln) : List UInt8 := ((be x.sink ++ be x.frm) ++ be x.key) ++ putV x.v
def okLn (x : Ln) : Prop := (((0 ≤ x.sink ∧ x.sink ≤ 7) ∧ (0 ≤ x.frm ∧ x.frm ≤ 7)) ∧ (0 ≤ x.key ∧ x.key ≤ 63)) ∧ okV x.v
theorem ln_item : Item lnS putLn okLn := map_item (pair_item (pair_item (pair_item (num_item 0 7 (by decide) (by decide)) (num_item 0 7 (by decide) (by decide))) (num_item 0 63 (by decide) (by decide))) val_item) _ (fun (x : Ln) => (((x.sink, x.frm), x.key), x.v)) (fun _ => rfl) (fun _ => rfl)
section
variable (gp : List UInt8 → List Vm.Ins × Int × List UInt8) (pp : List Vm.Ins → List UInt8) (fits : List Vm.Ins → Prop)
/-- a plan, if there is one -/
noncomputable def plS (s : Rs) : List Stp × Rs :=
  if (txS 8000 s).1 = [] then ([], (txS 8000 s).2) else ((getPl gp (txS 8000 s).1).1, ((txS 8000 s).2.1, (getPl gp (txS 8000 s).1).2))
def planB (p : List Stp) : List UInt8 := if p = [] then [] else putPl pp p
def putP (p : List Stp) : List UInt8 := be (planB pp p).length ++ planB pp p
def okP (p : List Stp) : Prop := p = [] ∨ OkPl fits p ∧ (∀ x ∈ p, cleanS x = x) ∧ ((putPl pp p).length : Int) ≤ 8000
def putM (m : Mf) : List UInt8 := be m.epoch ++ (be m.plans ++ (putC be m.offs ++ (putC (putNd pp) m.graph ++ (putC putE m.ents ++ (putC putLn m.out ++ putP pp m.plan)))))
noncomputable def manS : Rs → Mf × Rs :=
  mapS (fun (x : Int × Int × List Int × List Nd × List En × List Ln × List Stp) => (⟨x.1, x.2.1, x.2.2.1, x.2.2.2.1, x.2.2.2.2.1, x.2.2.2.2.2.1, x.2.2.2.2.2.2⟩ : Mf))
    (pairS (numS 0 2147483647) (pairS (numS 0 2147483647) (pairS (cntS (numS 0 400) 3) (pairS (cntS (nodeS gp 1) 8) (pairS (cntS enS 512) (pairS (cntS lnS 4000) (plS gp)))))))
def okM (m : Mf) : Prop := (0 ≤ m.epoch ∧ m.epoch ≤ 2147483647) ∧ (0 ≤ m.plans ∧ m.plans ≤ 2147483647) ∧ ((m.offs.length : Int) ≤ 3 ∧ ∀ x ∈ m.offs, 0 ≤ x ∧ x ≤ 400) ∧ ((m.graph.length : Int) ≤ 8 ∧ ∀ n ∈ m.graph, OkB fits 1 n) ∧ ((m.ents.length : Int) ≤ 512 ∧ ∀ x ∈ m.ents, okE x) ∧ ((m.out.length : Int) ≤ 4000 ∧ ∀ x ∈ m.out, okLn x) ∧ okP pp fits m.plan
end
section
variable {gp : List UInt8 → List Vm.Ins × Int × List UInt8} {pp : List Vm.Ins → List UInt8} {fits : List Vm.Ins → Prop}
theorem putPl_ne (p : List Stp) : putPl pp p ≠ [] := by
  unfold putPl
  intro h
  have := congrArg List.length h
  rw [List.length_append, Oc.be_len] at this
  simp at this
theorem pl_item (hc : Codec gp pp fits) : Item (plS gp) (putP pp) (okP pp fits) where
  put := by
    intro p t h
    unfold plS putP
    have hx : txS 8000 ((be (planB pp p).length ++ planB pp p) ++ t, 0) = (planB pp p, (t, 0)) := (tx_item 8000 (by decide)).put (planB pp p) t (by
      unfold planB
      split
      · decide
      · rcases h with h | h
        · exact absurd h (by assumption)
        · exact h.2.2)
    rw [hx]
    simp only
    by_cases hp : p = []
    · subst hp
      rw [if_pos (show planB pp [] = [] from rfl)]
    · have e : planB pp p = putPl pp p := if_neg hp
      rw [e, if_neg (putPl_ne p)]
      obtain ⟨h1, h2, -⟩ := h.resolve_left hp
      rw [getPl_put hc h1, map_clean h2]
  can := by
    intro s p t h
    unfold plS at h
    by_cases h1 : (txS 8000 s).1 = []
    · rw [if_pos h1] at h
      simp only [Prod.mk.injEq] at h
      obtain ⟨rfl, h2⟩ := h
      obtain ⟨a1, a2, -⟩ := (tx_item 8000 (by decide)).can s [] t (by rw [← h1, ← h2])
      exact ⟨a1, a2, .inl rfl⟩
    · rw [if_neg h1] at h
      simp only [Prod.mk.injEq] at h
      obtain ⟨h2, h3, h4⟩ := h
      have hg : getPl gp (txS 8000 s).1 = (p, 0) := by rw [← h2, ← h4]
      obtain ⟨g1, g2, g3⟩ := getPl_can hc hg
      have he : (txS 8000 s).2.2 = 0 := by
        refine Classical.byContradiction fun he => h1 ?_
        unfold txS at he ⊢
        split
        · rfl
        · rename_i q1
          rw [if_neg q1] at he
          split
          · rfl
          · rename_i q2
            rw [if_neg q2] at he
            exact absurd rfl he
      obtain ⟨a1, a2, a3⟩ := (tx_item 8000 (by decide)).can s (txS 8000 s).1 t (by rw [eta (txS 8000 s) he, h3])
      have hp : p ≠ [] := by
        rintro rfl
        have := g1.1
        simp at this
      refine ⟨a1, ?_, .inr ⟨g1, g3, by rw [g2]; exact a3⟩⟩
      unfold putP planB
      rw [if_neg hp, g2]
      exact a2
theorem node_item (hc : Codec gp pp fits) : Item (nodeS gp 1) (putNd pp) (OkB fits 1) := ⟨fun n t h => nodeS_put hc (by decide) h t, fun s n t h => nodeS_can hc h⟩
theorem man_item (hc : Codec gp pp fits) : Item (manS gp) (putM pp) (okM pp fits) :=
  map_item (pair_item (num_item 0 2147483647 (by decide) (by decide)) (pair_item (num_item 0 2147483647 (by decide) (by decide)) (pair_item (cntS_item (num_item 0 400 (by decide) (by decide)) 3 (by decide)) (pair_item (cntS_item (node_item hc) 8 (by decide)) (pair_item (cntS_item en_item 512 (by decide)) (pair_item (cntS_item ln_item 4000 (by decide)) (pl_item hc)))))))
    _ (fun (m : Mf) => (m.epoch, m.plans, m.offs, m.graph, m.ents, m.out, m.plan)) (fun _ => rfl) (fun _ => rfl)
/-- the same bytes: the same manifest -/
theorem putM_inj (hc : Codec gp pp fits) {a b : Mf} (ha : okM pp fits a) (hb : okM pp fits b) (h : putM pp a = putM pp b) : a = b := by
  have h1 := (man_item hc).put a [] ha
  have h2 := (man_item hc).put b [] hb
  rw [h, h2] at h1
  exact (congrArg Prod.fst h1).symm
end
end Gr

/-! Right manifests: plain laws. -/
namespace Gr
open Oc (be bes)
open Ga Tab
set_option linter.unusedSimpArgs false
set_option linter.unusedVariables false

/-- a manifest that may be, by the document -/
structure RightM (fits : List Vm.Ins → Prop) (m : Mf) : Prop where
  ep : 0 ≤ m.epoch ∧ m.epoch ≤ 2147483647
  pl : 0 ≤ m.plans ∧ m.plans ≤ 2147483647
  gr : RightR m.graph
  so : m.graph.Pairwise fun a b => a.id < b.id
  of : ∃ n, m.graph.head? = some n ∧ (m.offs.length : Int) = n.par
  o4 : ∀ x ∈ m.offs, 0 ≤ x ∧ x ≤ 400
  en : ∀ x ∈ m.ents, (0 ≤ x.node ∧ x.node < 8) ∧ (0 ≤ x.key ∧ x.key < 64) ∧ rightV x.c0 = true ∧ rightV x.c1 = true ∧ nz x = true
  ei : m.ents.Pairwise fun a b => num a < num b
  ek : ∀ x ∈ m.ents, ∃ n, nodeOf m.graph x.node = some n ∧ n.kind = 1
  ol : m.out.length ≤ 4000
  ou : ∀ x ∈ m.out, (0 ≤ x.sink ∧ x.sink ≤ 7) ∧ (0 ≤ x.frm ∧ x.frm ≤ 7) ∧ (0 ≤ x.key ∧ x.key < 64) ∧ rightV x.v = true
  pn : m.plan = [] ∨ OkPl fits m.plan ∧ ∀ x ∈ m.plan, cleanS x = x
theorem okV_of {v : Val} (h : rightV v = true) : okV v := by
  unfold rightV at h
  simp only [Bool.and_eq_true, decide_eq_true_eq] at h
  have h1 := into_range v.1
  have h2 := into_range v.2
  unfold okV
  omega
theorem ents_len {l : List En} (h : ∀ x ∈ l, (0 ≤ x.node ∧ x.node < 8) ∧ (0 ≤ x.key ∧ x.key < 64)) (hs : l.Pairwise fun a b => num a < num b) : l.length ≤ 512 := by
  have hnd : (l.map fun x => (num x).toNat).Nodup := by
    rw [List.Nodup, List.pairwise_map]
    refine hs.imp_of_mem fun {a b} ha hb hlt => ?_
    have h1 := h a ha
    have h2 := h b hb
    unfold num at hlt ⊢
    omega
  have := hnd.length_le_of_subset (l₂ := List.range 512) (fun y hy => by
    obtain ⟨x, hx, rfl⟩ := List.mem_map.1 hy
    have h1 := h x hx
    rw [List.mem_range]
    unfold num
    omega)
  simpa using this
section
variable {gp : List UInt8 → List Vm.Ins × Int × List UInt8} {pp : List Vm.Ins → List UInt8} {fits : List Vm.Ins → Prop}
theorem putNd_len (hl : ∀ l, fits l → (pp l).length ≤ 200) {lp : Int} {n : Nd} (h : OkB fits lp n) : (putNd pp n).length ≤ 260 := by
  unfold putNd
  simp only [List.length_append, Oc.be_len, Oc.bes_len]
  have := hl _ h.p
  have := h.m
  have := h.ol
  omega
theorem flat_len {α : Type} {f : α → List UInt8} {k : Nat} : ∀ (l : List α), (∀ x ∈ l, (f x).length ≤ k) → (l.flatMap f).length ≤ l.length * k
  | [], _ => Nat.zero_le _
  | x :: l, h => by
    rw [List.flatMap_cons, List.length_append, List.length_cons, Nat.add_mul, Nat.one_mul]
    have h1 := h x (List.mem_cons_self ..)
    have h2 := flat_len l fun y hy => h y (List.mem_cons_of_mem _ hy)
    omega
theorem putPl_len (hl : ∀ l, fits l → (pp l).length ≤ 200) {p : List Stp} (h : OkPl fits p) : (putPl pp p).length ≤ 8000 := by
  unfold putPl
  rw [List.length_append, Oc.be_len]
  have h1 := flat_len (f := putSt pp) (k := 268) p fun s hs => by
    unfold putSt
    simp only [List.length_append, Oc.be_len]
    have := putNd_len hl (h.2.2 s hs).2
    omega
  have := h.2.1
  have h2 : p.length * 268 ≤ 6 * 268 := Nat.mul_le_mul_right _ this
  omega
theorem RightM.okM {m : Mf} (h : RightM fits m) (h0 : fits []) (hs : ∀ p, Vm.safe p = true → fits p) (hr : ∀ n ∈ m.graph, n.route.length = 8) (hl : ∀ l, fits l → (pp l).length ≤ 200) : okM pp fits m := by
  refine ⟨h.ep, h.pl, ⟨?_, h.o4⟩, ⟨by have := h.gr.len; omega, h.gr.okB h0 hs hr⟩, ⟨?_, fun x hx => ?_⟩, ⟨by have := h.ol; omega, fun x hx => ?_⟩, ?_⟩
  · obtain ⟨n, hn, e⟩ := h.of
    have hm : n ∈ m.graph := List.mem_of_mem_head? hn
    obtain ⟨i, hk⟩ := h.gr.at hm
    have := hk.pr3
    omega
  · have := ents_len (fun x hx => ⟨(h.en x hx).1, (h.en x hx).2.1⟩) h.ei
    omega
  · obtain ⟨h1, h2, h3, h4, -⟩ := h.en x hx
    exact ⟨⟨⟨by omega, by omega⟩, okV_of h3⟩, okV_of h4⟩
  · obtain ⟨h1, h2, h3, h4⟩ := h.ou x hx
    exact ⟨⟨⟨h1, h2⟩, by omega⟩, okV_of h4⟩
  · rcases h.pn with e | ⟨h1, h2⟩
    · exact .inl e
    · exact .inr ⟨h1, h2, by have := putPl_len hl h1; omega⟩
open Classical in
/-- the manifest of bytes -/
noncomputable def getM (gp : List UInt8 → List Vm.Ins × Int × List UInt8) (fits : List Vm.Ins → Prop) (s : List UInt8) : Option Mf × Int :=
  if (manS gp (s, 0)).2.2 ≠ 0 then (none, (manS gp (s, 0)).2.2)
  else if 0 < (manS gp (s, 0)).2.1.length then (none, 4)
  else if RightM fits (manS gp (s, 0)).1 then (some (manS gp (s, 0)).1, 0) else (none, 1)
theorem getM_put (hc : Codec gp pp fits) (h0 : fits []) (hs : ∀ p, Vm.safe p = true → fits p) (hl : ∀ l, fits l → (pp l).length ≤ 200) {m : Mf} (h : RightM fits m) (hr : ∀ n ∈ m.graph, n.route.length = 8) : getM gp fits (putM pp m) = (some m, 0) := by
  have h1 := (man_item hc).put m [] (h.okM h0 hs hr hl)
  rw [List.append_nil] at h1
  unfold getM
  rw [h1]
  simp only
  rw [if_neg (by simp), if_neg (by simp), if_pos h]
theorem getM_can (hc : Codec gp pp fits) {s : List UInt8} {m : Mf} (h : getM gp fits s = (some m, 0)) : RightM fits m ∧ putM pp m = s ∧ okM pp fits m := by
  unfold getM at h
  by_cases h1 : (manS gp (s, 0)).2.2 = 0
  · rw [if_neg (by simpa using h1)] at h
    by_cases h2 : 0 < (manS gp (s, 0)).2.1.length
    · rw [if_pos h2] at h
      simp at h
    · rw [if_neg h2] at h
      by_cases h3 : RightM fits (manS gp (s, 0)).1
      · rw [if_pos h3] at h
        simp only [Prod.mk.injEq, Option.some.injEq, and_true] at h
        have hnil : (manS gp (s, 0)).2.1 = [] := List.length_eq_zero_iff.1 (by omega)
        obtain ⟨a1, a2, a3⟩ := (man_item hc).can (s, 0) m [] (by rw [eta (manS gp (s, 0)) h1, h, hnil])
        rw [List.append_nil] at a2
        exact ⟨h ▸ h3, a2.symm, a3⟩
      · rw [if_neg h3] at h
        simp at h
  · rw [if_pos (by simpa using h1)] at h
    simp at h
/-- two right manifests have the same bytes just if they are one -/
theorem same_bytes (hc : Codec gp pp fits) (h0 : fits []) (hs : ∀ p, Vm.safe p = true → fits p) (hl : ∀ l, fits l → (pp l).length ≤ 200) {a b : Mf} (ha : RightM fits a) (hb : RightM fits b) (ra : ∀ n ∈ a.graph, n.route.length = 8) (rb : ∀ n ∈ b.graph, n.route.length = 8) : putM pp a = putM pp b ↔ a = b :=
  ⟨putM_inj hc (ha.okM h0 hs ra hl) (hb.okM h0 hs rb hl), fun h => by rw [h]⟩
end
end Gr

/-! Bytes with more behind them: plain laws of PackTexts. -/
namespace Gr
open Oc (be bes)
set_option linter.unusedSimpArgs false
set_option linter.unusedVariables false
section
variable {gp : List UInt8 → List Vm.Ins × Int × List UInt8} {pp : List Vm.Ins → List UInt8} {fits : List Vm.Ins → Prop}
theorem getG_more (hc : Codec gp pp fits) (h0 : fits []) (hs : ∀ p, Vm.safe p = true → fits p) {l : List Nd} (h : RightR l) (hl : ∀ n ∈ l, n.route.length = 8) (b : List UInt8) (hb : b ≠ []) : getG gp (putG pp l ++ b) = ([], 4) := by
  have hp := normG_perm h.ids h.r7
  have hok : ∀ n ∈ normG l, OkB fits 1 n := fun n hn => h.okB h0 hs hl n (hp.mem_iff.1 hn)
  have h8 := h.len
  have h1 : graphS gp (putG pp l ++ b) = (normG l, (b, 0)) := by
    unfold graphS putG
    rw [List.append_assoc, numS_put (by omega) (by omega) (by unfold Oc.fitsN; simp; omega)]
    simp only [Int.toNat_natCast]
    have := nodesS_put hc (lp := 1) (by decide) (normG l) b hok
    rw [hp.length_eq] at this
    exact this
  unfold getG
  rw [h1]
  simp only
  rw [if_neg (by simp), if_pos (.inl (List.length_pos_iff.2 hb))]
theorem getPl_more (hc : Codec gp pp fits) {p : List Stp} (h : OkPl fits p) (b : List UInt8) (hb : b ≠ []) : getPl gp (putPl pp p ++ b) = ([], 4) := by
  obtain ⟨h1, h6, hs⟩ := h
  have hg : planS gp (putPl pp p ++ b) = (p.map cleanS, (b, 0)) := by
    unfold planS putPl
    rw [List.append_assoc, numS_put (by omega) (by omega) (by unfold Oc.fitsN; simp; omega)]
    simp only [Int.toNat_natCast]
    exact stepsS_put hc p b hs
  unfold getPl
  rw [hg]
  simp only
  rw [if_neg (by simp), if_pos (.inl (List.length_pos_iff.2 hb))]
/-- a graph's bytes, read and put again, are the same -/
theorem putG_norm {l : List Nd} (h : RightR l) : putG pp (normG l) = putG pp l := by
  have hp := normG_perm h.ids h.r7
  unfold putG
  rw [hp.length_eq, norm_self ((normG_sorted l).imp fun h => by omega) (h.perm hp.symm).ids fun n hn => h.r7 n (hp.mem_iff.1 hn)]
/-- a plan's bytes, read and put again, are the same -/
theorem putPl_clean (p : List Stp) : putPl pp (p.map cleanS) = putPl pp p := by
  unfold putPl
  rw [List.length_map, List.flatMap_map]
  have e : (fun s => putSt pp (cleanS s)) = putSt pp := funext fun s => by
    unfold putSt
    rw [clean_clean]
  rw [e]
end
end Gr

/-! forebaylaw13.PackTexts. -/
namespace Go.Proofs.YtangapokicnfgaaGreat
set_option linter.unusedSimpArgs false
set_option linter.unusedVariables false
open Go.RowKit Ga
set_option maxRecDepth 100000

/-- what pack.Graph hands back, as it is told -/
def GraphOut (ok : Bool) (l : List Gr.Nd) : Value := if ok then .tuple #[str (Gr.putG putI l), .int .i64 0] else .tuple #[.string ⟨#[]⟩, .int .i64 10]
theorem great10_pl (v u : Value) (l : List Gr.Nd) (p : List Gr.Stp) (w : World) (hv : NodesAt w v l) (hu : StepsAt w u p) (hl : greatG l = false) (hp : greatP p = false) : Calls Tryz.prog 15 #[v, u] w (Gives (.bool false) w) := by
  have h := great10_any v u l p w hv hu
  rw [hl, hp] at h
  exact h
theorem great10_big (v u : Value) (l : List Gr.Nd) (p : List Gr.Stp) (w : World) (hv : NodesAt w v l) (hu : StepsAt w u p) (h : (greatG l || greatP p) = true) : Calls Tryz.prog 15 #[v, u] w (Gives (.bool true) w) := by
  have h2 := great10_any v u l p w hv hu
  rw [h] at h2
  exact h2
theorem getMore_graph {l : List Gr.Nd} (h : Gr.RightR l) (h8 : ∀ n ∈ l, n.route.length = 8) (b : List UInt8) (hb : b ≠ []) (w : World) (hlen : b.length ≤ 300) : Calls Tryz.prog 12 #[.string ⟨(Gr.putG putI l ++ b).toArray⟩] w (GetPost ([], 4) w) := by
  have h1 := getGraph_any (Gr.putG putI l ++ b) w (by have := putG_len h h8; rw [List.length_append]; omega)
  rw [Gr.getG_more codecI fits_nil (fun p hp => safe_fits hp) h h8 b hb] at h1
  exact h1
theorem getMore_plan {p : List Gr.Stp} (h : Gr.OkPl fitsP p) (b : List UInt8) (hb : b ≠ []) (w : World) (hlen : b.length ≤ 300) : Calls Tryz.prog 18 #[.string ⟨(Gr.putPl putI p ++ b).toArray⟩] w (GetPlPost ([], 4) w) := by
  have h1 := getPlan_any (Gr.putPl putI p ++ b) w (by have := putPl_len h; rw [List.length_append]; omega)
  rw [Gr.getPl_more codecI h b hb] at h1
  exact h1
theorem getG_self {l : List Gr.Nd} (h : Gr.RightR l) (h8 : ∀ n ∈ l, n.route.length = 8) (w : World) : Calls Tryz.prog 12 #[.string ⟨(Gr.putG putI l).toArray⟩] w (GetPost (Gr.normG l, 0) w) := by
  have h1 := getGraph_any (Gr.putG putI l) w (by have := putG_len h h8; omega)
  rw [Gr.getG_put codecI fits_nil (fun p hp => safe_fits hp) h h8] at h1
  exact h1
theorem getPl_self {p : List Gr.Stp} (h : Gr.OkPl fitsP p) (w : World) : Calls Tryz.prog 18 #[.string ⟨(Gr.putPl putI p).toArray⟩] w (GetPlPost (p.map Gr.cleanS, 0) w) := by
  have h1 := getPlan_any (Gr.putPl putI p) w (by have := putPl_len h; omega)
  rw [Gr.getPl_put codecI h] at h1
  exact h1
theorem put_again (l : List Gr.Nd) (h : Gr.RightR l) (hs : Small l) (u : Value) (w : World) (hu : NodesAt w u (Gr.normG l)) : Calls Tryz.prog 10 #[u] w (Gives (.tuple #[str (Gr.putG putI l), .int .i64 0]) w) := by
  have hp := Gr.normG_perm h.ids h.r7
  have h1 := packGraph_ok u (Gr.normG l) w hu (fun n hn => hs n (hp.mem_iff.1 hn)) (h.perm hp.symm)
  rw [Gr.putG_norm h] at h1
  exact h1
theorem okPl_clean {p : List Gr.Stp} (h : Gr.OkPl fitsP p) : Gr.OkPl fitsP (p.map Gr.cleanS) := by
  obtain ⟨h1, h6, hs⟩ := h
  refine ⟨by simpa using h1, by simpa using h6, fun s hs2 => ?_⟩
  obtain ⟨y, hy, rfl⟩ := List.mem_map.1 hs2
  obtain ⟨h3, h4⟩ := hs y hy
  refine ⟨by rw [Gr.clean_kind h3]; exact h3, ?_⟩
  rw [Gr.clean_clean]
  exact h4
theorem putPl_again (p : List Gr.Stp) (h : Gr.OkPl fitsP p) (hs : ∀ s ∈ p, s.nd.frm.length ≤ 100 ∧ s.nd.prog.length ≤ 1000) (u : Value) (w : World) (hu : StepsAt w u (p.map Gr.cleanS)) : Calls Tryz.prog 16 #[u] w (Gives (.tuple #[str (Gr.putPl putI p), .int .i64 0]) w) := by
  have h1 := plan16_any u (p.map Gr.cleanS) w hu (fun s hs2 => by obtain ⟨y, hy, rfl⟩ := List.mem_map.1 hs2; exact clean_small (hs y hy))
  rw [planR_ok (okPl_clean h), Gr.putPl_clean] at h1
  exact h1
set_option maxHeartbeats 16000000 in
theorem packTexts_000 (v u : Value) (l : List Gr.Nd) (p : List Gr.Stp) (w : World) (hv : NodesAt w v l) (hu : StepsAt w u p) (hl : greatG l = false) (hp : greatP p = false) (hr : ¬ Gr.RightR l) (hok : ¬ Gr.OkPl fitsP p) : Calls Tryz.prog 5 #[v, u, .string ⟨#[]⟩] w (Gives (.bool true) w) := by
  have h8 := nodes_route hv
  have hsl := (great_small hl).1
  have hsp := greatP_small hp
  have HGR := Lib.hid fun W (g : Grew w W) => great10_pl _ _ l p W (hv.grew g) (hu.grew g) hl hp
  have HPG := Lib.hid fun W (g : Grew w W) => packGraph_bad _ l W (hv.grew g) hsl hr
  have hpp := fun W (g : Grew w W) => plan16_any _ p W (hu.grew g) hsp
  rw [planR_no hok] at hpp
  simp only at hpp
  obtain ⟨a, cap, rfl, -, -⟩ := hv.openC
  obtain ⟨a1, cap1, rfl, -, -⟩ := hu.openC
  have HPP := Lib.hid hpp
  clear h8 hsl hsp hpp hv hu hl hp hr hok
  go_enter Tryz.func5, Tryz.ntmps5
  go_wp2_with (first
    | (go_at_call 8; refine (awake13_any _).mono ?_; rintro e w1 ⟨rfl, R1, n1, rfl⟩)
    | (go_at_call 15; refine (HGR.out _ (by repeat (first | with_reducible exact Grew.refl _ | apply Grew.more | apply Grew.alloc | apply Grew.drew | apply Grew.drewN))).mono ?_; rintro e w1 ⟨rfl, R2, n2, rfl⟩)
    | (go_at_call_of 10 (Value.slice a l.length cap); refine (HPG.out _ (by repeat (first | with_reducible exact Grew.refl _ | apply Grew.more | apply Grew.alloc | apply Grew.drew | apply Grew.drewN))).mono ?_; rintro e w1 ⟨rfl, R3, n3, rfl⟩)
    | (go_at_call_of 16 (Value.slice a1 p.length cap1); refine (HPP.out _ (by repeat (first | with_reducible exact Grew.refl _ | apply Grew.more | apply Grew.alloc | apply Grew.drew | apply Grew.drewN))).mono ?_; rintro e w1 ⟨rfl, R4, n4, rfl⟩))
  go_ret
  exact ⟨by simp, by repeat (first | with_reducible exact Grew.refl _ | apply Grew.more | apply Grew.alloc | apply Grew.drew | apply Grew.drewN)⟩
set_option maxHeartbeats 16000000 in
theorem packTexts_001 (v u : Value) (l : List Gr.Nd) (p : List Gr.Stp) (b : List UInt8) (hb : b ≠ []) (hlen : b.length ≤ 300) (w : World) (hv : NodesAt w v l) (hu : StepsAt w u p) (hl : greatG l = false) (hp : greatP p = false) (hr : ¬ Gr.RightR l) (hok : ¬ Gr.OkPl fitsP p) : Calls Tryz.prog 5 #[v, u, .string ⟨b.toArray⟩] w (Gives (.bool true) w) := by
  have h8 := nodes_route hv
  have hsl := (great_small hl).1
  have hsp := greatP_small hp
  have HGR := Lib.hid fun W (g : Grew w W) => great10_pl _ _ l p W (hv.grew g) (hu.grew g) hl hp
  have HPG := Lib.hid fun W (g : Grew w W) => packGraph_bad _ l W (hv.grew g) hsl hr
  have hpp := fun W (g : Grew w W) => plan16_any _ p W (hu.grew g) hsp
  rw [planR_no hok] at hpp
  simp only at hpp
  obtain ⟨a, cap, rfl, -, -⟩ := hv.openC
  obtain ⟨a1, cap1, rfl, -, -⟩ := hu.openC
  have HPP := Lib.hid hpp
  clear h8 hsl hsp hpp hv hu hl hp hr hok
  have hbe : b.isEmpty = false := by cases b with | nil => exact absurd rfl hb | cons x b => rfl
  have hl3 : ¬ (300 : Int) < (b.length : Int) := by omega
  clear hb hlen
  go_enter Tryz.func5, Tryz.ntmps5
  go_wp2_with (first
    | (go_at_call 8; refine (awake13_any _).mono ?_; rintro e w1 ⟨rfl, R1, n1, rfl⟩)
    | (go_at_call 15; refine (HGR.out _ (by repeat (first | with_reducible exact Grew.refl _ | apply Grew.more | apply Grew.alloc | apply Grew.drew | apply Grew.drewN))).mono ?_; rintro e w1 ⟨rfl, R2, n2, rfl⟩)
    | (go_at_call_of 10 (Value.slice a l.length cap); refine (HPG.out _ (by repeat (first | with_reducible exact Grew.refl _ | apply Grew.more | apply Grew.alloc | apply Grew.drew | apply Grew.drewN))).mono ?_; rintro e w1 ⟨rfl, R3, n3, rfl⟩)
    | (go_at_call_of 16 (Value.slice a1 p.length cap1); refine (HPP.out _ (by repeat (first | with_reducible exact Grew.refl _ | apply Grew.more | apply Grew.alloc | apply Grew.drew | apply Grew.drewN))).mono ?_; rintro e w1 ⟨rfl, R4, n4, rfl⟩))
  go_ret
  exact ⟨by simp, by repeat (first | with_reducible exact Grew.refl _ | apply Grew.more | apply Grew.alloc | apply Grew.drew | apply Grew.drewN)⟩
set_option maxHeartbeats 16000000 in
theorem packTexts_010 (v u : Value) (l : List Gr.Nd) (p : List Gr.Stp) (w : World) (hv : NodesAt w v l) (hu : StepsAt w u p) (hl : greatG l = false) (hp : greatP p = false) (hr : ¬ Gr.RightR l) (hok : Gr.OkPl fitsP p) : Calls Tryz.prog 5 #[v, u, .string ⟨#[]⟩] w (Gives (.bool true) w) := by
  have h8 := nodes_route hv
  have hsl := (great_small hl).1
  have hsp := greatP_small hp
  have HGR := Lib.hid fun W (g : Grew w W) => great10_pl _ _ l p W (hv.grew g) (hu.grew g) hl hp
  have HPG := Lib.hid fun W (g : Grew w W) => packGraph_bad _ l W (hv.grew g) hsl hr
  have hpp := fun W (g : Grew w W) => plan16_any _ p W (hu.grew g) hsp
  rw [planR_ok hok] at hpp
  simp only at hpp
  have hgp := fun W => getPl_self hok W
  have hqa := fun W x (h : StepsAt W x (p.map Gr.cleanS)) => putPl_again p hok hsp x W h
  have hqm := hgp
  obtain ⟨a, cap, rfl, -, -⟩ := hv.openC
  obtain ⟨a1, cap1, rfl, -, -⟩ := hu.openC
  have hlp := putPl_len hok
  generalize p.map Gr.cleanS = pc at *
  generalize Gr.putPl putI p = tp at *
  have CATP : (⟨tp.toArray⟩ : ByteArray) ++ ⟨#[]⟩ = ⟨tp.toArray⟩ := by have := str_cat tp []; rw [List.append_nil] at this; exact this
  have bdp : ¬ 9223372036854775807 < tp.length := by omega
  clear hlp
  have HPP := Lib.hid hpp
  have HGP := Lib.hid hgp
  have HQA := Lib.hid hqa
  have HQM := Lib.hid hqm
  clear h8 hsl hsp hpp hv hu hl hp hr hok hgp hqa hqm
  go_enter Tryz.func5, Tryz.ntmps5
  go_wp2_with (first
    | (go_at_call 8; refine (awake13_any _).mono ?_; rintro e w1 ⟨rfl, R1, n1, rfl⟩)
    | (go_at_call 15; refine (HGR.out _ (by repeat (first | with_reducible exact Grew.refl _ | apply Grew.more | apply Grew.alloc | apply Grew.drew | apply Grew.drewN))).mono ?_; rintro e w1 ⟨rfl, R2, n2, rfl⟩)
    | (go_at_call_of 10 (Value.slice a l.length cap); refine (HPG.out _ (by repeat (first | with_reducible exact Grew.refl _ | apply Grew.more | apply Grew.alloc | apply Grew.drew | apply Grew.drewN))).mono ?_; rintro e w1 ⟨rfl, R3, n3, rfl⟩)
    | (go_at_call_of 16 (Value.slice a1 p.length cap1); refine (HPP.out _ (by repeat (first | with_reducible exact Grew.refl _ | apply Grew.more | apply Grew.alloc | apply Grew.drew | apply Grew.drewN))).mono ?_; rintro e w1 ⟨rfl, R4, n4, rfl⟩)
    | (go_at_call_of 18 (str tp); refine (HGP.out _).mono ?_; rintro e w1 ⟨v4, rfl, hv4, R8, n8, rfl⟩; simp only at hv4; obtain ⟨a4, c4, rfl, -, -⟩ := hv4.openC; (have HV4 := Lib.hid hv4); clear hv4; simp only)
    | (go_at_call 16; refine (HQA.out _ _ (HV4.out.grew (by repeat (first | with_reducible exact Grew.refl _ | apply Grew.more | apply Grew.alloc | apply Grew.drew | apply Grew.drewN)))).mono ?_; rintro e w1 ⟨rfl, R9, n9, rfl⟩)
    | (go_at_call 18; refine (HQM.out _).mono ?_; rintro e w1 ⟨v5, rfl, -, R10, n10, rfl⟩; simp only))
  go_ret
  exact ⟨by simp, by repeat (first | with_reducible exact Grew.refl _ | apply Grew.more | apply Grew.alloc | apply Grew.drew | apply Grew.drewN)⟩
set_option maxHeartbeats 16000000 in
theorem packTexts_011 (v u : Value) (l : List Gr.Nd) (p : List Gr.Stp) (b : List UInt8) (hb : b ≠ []) (hlen : b.length ≤ 300) (w : World) (hv : NodesAt w v l) (hu : StepsAt w u p) (hl : greatG l = false) (hp : greatP p = false) (hr : ¬ Gr.RightR l) (hok : Gr.OkPl fitsP p) : Calls Tryz.prog 5 #[v, u, .string ⟨b.toArray⟩] w (Gives (.bool true) w) := by
  have h8 := nodes_route hv
  have hsl := (great_small hl).1
  have hsp := greatP_small hp
  have HGR := Lib.hid fun W (g : Grew w W) => great10_pl _ _ l p W (hv.grew g) (hu.grew g) hl hp
  have HPG := Lib.hid fun W (g : Grew w W) => packGraph_bad _ l W (hv.grew g) hsl hr
  have hpp := fun W (g : Grew w W) => plan16_any _ p W (hu.grew g) hsp
  rw [planR_ok hok] at hpp
  simp only at hpp
  have hgp := fun W => getPl_self hok W
  have hqa := fun W x (h : StepsAt W x (p.map Gr.cleanS)) => putPl_again p hok hsp x W h
  have hqm := fun W => getMore_plan hok b hb W hlen
  obtain ⟨a, cap, rfl, -, -⟩ := hv.openC
  obtain ⟨a1, cap1, rfl, -, -⟩ := hu.openC
  have hlp := putPl_len hok
  generalize p.map Gr.cleanS = pc at *
  generalize Gr.putPl putI p = tp at *
  have CATP := str_cat tp b
  have bdp : ¬ 9223372036854775807 < tp.length + b.length := by omega
  clear hlp
  have HPP := Lib.hid hpp
  have HGP := Lib.hid hgp
  have HQA := Lib.hid hqa
  have HQM := Lib.hid hqm
  clear h8 hsl hsp hpp hv hu hl hp hr hok hgp hqa hqm
  have hbe : b.isEmpty = false := by cases b with | nil => exact absurd rfl hb | cons x b => rfl
  have hl3 : ¬ (300 : Int) < (b.length : Int) := by omega
  clear hb hlen
  go_enter Tryz.func5, Tryz.ntmps5
  go_wp2_with (first
    | (go_at_call 8; refine (awake13_any _).mono ?_; rintro e w1 ⟨rfl, R1, n1, rfl⟩)
    | (go_at_call 15; refine (HGR.out _ (by repeat (first | with_reducible exact Grew.refl _ | apply Grew.more | apply Grew.alloc | apply Grew.drew | apply Grew.drewN))).mono ?_; rintro e w1 ⟨rfl, R2, n2, rfl⟩)
    | (go_at_call_of 10 (Value.slice a l.length cap); refine (HPG.out _ (by repeat (first | with_reducible exact Grew.refl _ | apply Grew.more | apply Grew.alloc | apply Grew.drew | apply Grew.drewN))).mono ?_; rintro e w1 ⟨rfl, R3, n3, rfl⟩)
    | (go_at_call_of 16 (Value.slice a1 p.length cap1); refine (HPP.out _ (by repeat (first | with_reducible exact Grew.refl _ | apply Grew.more | apply Grew.alloc | apply Grew.drew | apply Grew.drewN))).mono ?_; rintro e w1 ⟨rfl, R4, n4, rfl⟩)
    | (go_at_call_of 18 (str tp); refine (HGP.out _).mono ?_; rintro e w1 ⟨v4, rfl, hv4, R8, n8, rfl⟩; simp only at hv4; obtain ⟨a4, c4, rfl, -, -⟩ := hv4.openC; (have HV4 := Lib.hid hv4); clear hv4; simp only)
    | (go_at_call 16; refine (HQA.out _ _ (HV4.out.grew (by repeat (first | with_reducible exact Grew.refl _ | apply Grew.more | apply Grew.alloc | apply Grew.drew | apply Grew.drewN)))).mono ?_; rintro e w1 ⟨rfl, R9, n9, rfl⟩)
    | (go_at_call 18; refine (HQM.out _).mono ?_; rintro e w1 ⟨v5, rfl, -, R10, n10, rfl⟩; simp only))
  go_ret
  exact ⟨by simp, by repeat (first | with_reducible exact Grew.refl _ | apply Grew.more | apply Grew.alloc | apply Grew.drew | apply Grew.drewN)⟩
set_option maxHeartbeats 16000000 in
theorem packTexts_100 (v u : Value) (l : List Gr.Nd) (p : List Gr.Stp) (w : World) (hv : NodesAt w v l) (hu : StepsAt w u p) (hl : greatG l = false) (hp : greatP p = false) (hr : Gr.RightR l) (hok : ¬ Gr.OkPl fitsP p) : Calls Tryz.prog 5 #[v, u, .string ⟨#[]⟩] w (Gives (.bool true) w) := by
  have h8 := nodes_route hv
  have hsl := (great_small hl).1
  have hsp := greatP_small hp
  have HGR := Lib.hid fun W (g : Grew w W) => great10_pl _ _ l p W (hv.grew g) (hu.grew g) hl hp
  have HPG := Lib.hid fun W (g : Grew w W) => packGraph_ok _ l W (hv.grew g) hsl hr
  have hgg := fun W => getG_self hr h8 W
  have hpa := fun W x (h : NodesAt W x (Gr.normG l)) => put_again l hr hsl x W h
  have hgm := hgg
  have hpp := fun W (g : Grew w W) => plan16_any _ p W (hu.grew g) hsp
  rw [planR_no hok] at hpp
  simp only at hpp
  obtain ⟨a, cap, rfl, -, -⟩ := hv.openC
  obtain ⟨a1, cap1, rfl, -, -⟩ := hu.openC
  have hlg := putG_len hr h8
  generalize Gr.normG l = ln at *
  generalize Gr.putG putI l = tg at *
  have CATG : (⟨tg.toArray⟩ : ByteArray) ++ ⟨#[]⟩ = ⟨tg.toArray⟩ := by have := str_cat tg []; rw [List.append_nil] at this; exact this
  have bdg : ¬ 9223372036854775807 < tg.length := by omega
  clear hlg
  have HPP := Lib.hid hpp
  have HGG := Lib.hid hgg
  have HPA := Lib.hid hpa
  have HGM := Lib.hid hgm
  clear h8 hsl hsp hpp hv hu hl hp hr hok hgg hpa hgm
  go_enter Tryz.func5, Tryz.ntmps5
  go_wp2_with (first
    | (go_at_call 8; refine (awake13_any _).mono ?_; rintro e w1 ⟨rfl, R1, n1, rfl⟩)
    | (go_at_call 15; refine (HGR.out _ (by repeat (first | with_reducible exact Grew.refl _ | apply Grew.more | apply Grew.alloc | apply Grew.drew | apply Grew.drewN))).mono ?_; rintro e w1 ⟨rfl, R2, n2, rfl⟩)
    | (go_at_call_of 10 (Value.slice a l.length cap); refine (HPG.out _ (by repeat (first | with_reducible exact Grew.refl _ | apply Grew.more | apply Grew.alloc | apply Grew.drew | apply Grew.drewN))).mono ?_; rintro e w1 ⟨rfl, R3, n3, rfl⟩)
    | (go_at_call_of 16 (Value.slice a1 p.length cap1); refine (HPP.out _ (by repeat (first | with_reducible exact Grew.refl _ | apply Grew.more | apply Grew.alloc | apply Grew.drew | apply Grew.drewN))).mono ?_; rintro e w1 ⟨rfl, R4, n4, rfl⟩)
    | (go_at_call_of 12 (str tg); refine (HGG.out _).mono ?_; rintro e w1 ⟨v2, rfl, hv2, R5, n5, rfl⟩; simp only at hv2; obtain ⟨a2, c2, rfl, -, -⟩ := hv2.openC; (have HV2 := Lib.hid hv2); clear hv2; simp only)
    | (go_at_call 10; refine (HPA.out _ _ (HV2.out.grew (by repeat (first | with_reducible exact Grew.refl _ | apply Grew.more | apply Grew.alloc | apply Grew.drew | apply Grew.drewN)))).mono ?_; rintro e w1 ⟨rfl, R6, n6, rfl⟩)
    | (go_at_call 12; refine (HGM.out _).mono ?_; rintro e w1 ⟨v3, rfl, -, R7, n7, rfl⟩; simp only))
  go_ret
  exact ⟨by simp, by repeat (first | with_reducible exact Grew.refl _ | apply Grew.more | apply Grew.alloc | apply Grew.drew | apply Grew.drewN)⟩
set_option maxHeartbeats 16000000 in
theorem packTexts_101 (v u : Value) (l : List Gr.Nd) (p : List Gr.Stp) (b : List UInt8) (hb : b ≠ []) (hlen : b.length ≤ 300) (w : World) (hv : NodesAt w v l) (hu : StepsAt w u p) (hl : greatG l = false) (hp : greatP p = false) (hr : Gr.RightR l) (hok : ¬ Gr.OkPl fitsP p) : Calls Tryz.prog 5 #[v, u, .string ⟨b.toArray⟩] w (Gives (.bool true) w) := by
  have h8 := nodes_route hv
  have hsl := (great_small hl).1
  have hsp := greatP_small hp
  have HGR := Lib.hid fun W (g : Grew w W) => great10_pl _ _ l p W (hv.grew g) (hu.grew g) hl hp
  have HPG := Lib.hid fun W (g : Grew w W) => packGraph_ok _ l W (hv.grew g) hsl hr
  have hgg := fun W => getG_self hr h8 W
  have hpa := fun W x (h : NodesAt W x (Gr.normG l)) => put_again l hr hsl x W h
  have hgm := fun W => getMore_graph hr h8 b hb W hlen
  have hpp := fun W (g : Grew w W) => plan16_any _ p W (hu.grew g) hsp
  rw [planR_no hok] at hpp
  simp only at hpp
  obtain ⟨a, cap, rfl, -, -⟩ := hv.openC
  obtain ⟨a1, cap1, rfl, -, -⟩ := hu.openC
  have hlg := putG_len hr h8
  generalize Gr.normG l = ln at *
  generalize Gr.putG putI l = tg at *
  have CATG := str_cat tg b
  have bdg : ¬ 9223372036854775807 < tg.length + b.length := by omega
  clear hlg
  have HPP := Lib.hid hpp
  have HGG := Lib.hid hgg
  have HPA := Lib.hid hpa
  have HGM := Lib.hid hgm
  clear h8 hsl hsp hpp hv hu hl hp hr hok hgg hpa hgm
  have hbe : b.isEmpty = false := by cases b with | nil => exact absurd rfl hb | cons x b => rfl
  have hl3 : ¬ (300 : Int) < (b.length : Int) := by omega
  clear hb hlen
  go_enter Tryz.func5, Tryz.ntmps5
  go_wp2_with (first
    | (go_at_call 8; refine (awake13_any _).mono ?_; rintro e w1 ⟨rfl, R1, n1, rfl⟩)
    | (go_at_call 15; refine (HGR.out _ (by repeat (first | with_reducible exact Grew.refl _ | apply Grew.more | apply Grew.alloc | apply Grew.drew | apply Grew.drewN))).mono ?_; rintro e w1 ⟨rfl, R2, n2, rfl⟩)
    | (go_at_call_of 10 (Value.slice a l.length cap); refine (HPG.out _ (by repeat (first | with_reducible exact Grew.refl _ | apply Grew.more | apply Grew.alloc | apply Grew.drew | apply Grew.drewN))).mono ?_; rintro e w1 ⟨rfl, R3, n3, rfl⟩)
    | (go_at_call_of 16 (Value.slice a1 p.length cap1); refine (HPP.out _ (by repeat (first | with_reducible exact Grew.refl _ | apply Grew.more | apply Grew.alloc | apply Grew.drew | apply Grew.drewN))).mono ?_; rintro e w1 ⟨rfl, R4, n4, rfl⟩)
    | (go_at_call_of 12 (str tg); refine (HGG.out _).mono ?_; rintro e w1 ⟨v2, rfl, hv2, R5, n5, rfl⟩; simp only at hv2; obtain ⟨a2, c2, rfl, -, -⟩ := hv2.openC; (have HV2 := Lib.hid hv2); clear hv2; simp only)
    | (go_at_call 10; refine (HPA.out _ _ (HV2.out.grew (by repeat (first | with_reducible exact Grew.refl _ | apply Grew.more | apply Grew.alloc | apply Grew.drew | apply Grew.drewN)))).mono ?_; rintro e w1 ⟨rfl, R6, n6, rfl⟩)
    | (go_at_call 12; refine (HGM.out _).mono ?_; rintro e w1 ⟨v3, rfl, -, R7, n7, rfl⟩; simp only))
  go_ret
  exact ⟨by simp, by repeat (first | with_reducible exact Grew.refl _ | apply Grew.more | apply Grew.alloc | apply Grew.drew | apply Grew.drewN)⟩
set_option maxHeartbeats 16000000 in
theorem packTexts_110 (v u : Value) (l : List Gr.Nd) (p : List Gr.Stp) (w : World) (hv : NodesAt w v l) (hu : StepsAt w u p) (hl : greatG l = false) (hp : greatP p = false) (hr : Gr.RightR l) (hok : Gr.OkPl fitsP p) : Calls Tryz.prog 5 #[v, u, .string ⟨#[]⟩] w (Gives (.bool true) w) := by
  have h8 := nodes_route hv
  have hsl := (great_small hl).1
  have hsp := greatP_small hp
  have HGR := Lib.hid fun W (g : Grew w W) => great10_pl _ _ l p W (hv.grew g) (hu.grew g) hl hp
  have HPG := Lib.hid fun W (g : Grew w W) => packGraph_ok _ l W (hv.grew g) hsl hr
  have hgg := fun W => getG_self hr h8 W
  have hpa := fun W x (h : NodesAt W x (Gr.normG l)) => put_again l hr hsl x W h
  have hgm := hgg
  have hpp := fun W (g : Grew w W) => plan16_any _ p W (hu.grew g) hsp
  rw [planR_ok hok] at hpp
  simp only at hpp
  have hgp := fun W => getPl_self hok W
  have hqa := fun W x (h : StepsAt W x (p.map Gr.cleanS)) => putPl_again p hok hsp x W h
  have hqm := hgp
  obtain ⟨a, cap, rfl, -, -⟩ := hv.openC
  obtain ⟨a1, cap1, rfl, -, -⟩ := hu.openC
  have hlg := putG_len hr h8
  have hlp := putPl_len hok
  generalize Gr.normG l = ln at *
  generalize Gr.putG putI l = tg at *
  generalize p.map Gr.cleanS = pc at *
  generalize Gr.putPl putI p = tp at *
  have CATG : (⟨tg.toArray⟩ : ByteArray) ++ ⟨#[]⟩ = ⟨tg.toArray⟩ := by have := str_cat tg []; rw [List.append_nil] at this; exact this
  have bdg : ¬ 9223372036854775807 < tg.length := by omega
  clear hlg
  have CATP : (⟨tp.toArray⟩ : ByteArray) ++ ⟨#[]⟩ = ⟨tp.toArray⟩ := by have := str_cat tp []; rw [List.append_nil] at this; exact this
  have bdp : ¬ 9223372036854775807 < tp.length := by omega
  clear hlp
  have HPP := Lib.hid hpp
  have HGG := Lib.hid hgg
  have HPA := Lib.hid hpa
  have HGM := Lib.hid hgm
  have HGP := Lib.hid hgp
  have HQA := Lib.hid hqa
  have HQM := Lib.hid hqm
  clear h8 hsl hsp hpp hv hu hl hp hr hok hgg hpa hgm hgp hqa hqm
  go_enter Tryz.func5, Tryz.ntmps5
  go_wp2_with (first
    | (go_at_call 8; refine (awake13_any _).mono ?_; rintro e w1 ⟨rfl, R1, n1, rfl⟩)
    | (go_at_call 15; refine (HGR.out _ (by repeat (first | with_reducible exact Grew.refl _ | apply Grew.more | apply Grew.alloc | apply Grew.drew | apply Grew.drewN))).mono ?_; rintro e w1 ⟨rfl, R2, n2, rfl⟩)
    | (go_at_call_of 10 (Value.slice a l.length cap); refine (HPG.out _ (by repeat (first | with_reducible exact Grew.refl _ | apply Grew.more | apply Grew.alloc | apply Grew.drew | apply Grew.drewN))).mono ?_; rintro e w1 ⟨rfl, R3, n3, rfl⟩)
    | (go_at_call_of 16 (Value.slice a1 p.length cap1); refine (HPP.out _ (by repeat (first | with_reducible exact Grew.refl _ | apply Grew.more | apply Grew.alloc | apply Grew.drew | apply Grew.drewN))).mono ?_; rintro e w1 ⟨rfl, R4, n4, rfl⟩)
    | (go_at_call_of 12 (str tg); refine (HGG.out _).mono ?_; rintro e w1 ⟨v2, rfl, hv2, R5, n5, rfl⟩; simp only at hv2; obtain ⟨a2, c2, rfl, -, -⟩ := hv2.openC; (have HV2 := Lib.hid hv2); clear hv2; simp only)
    | (go_at_call 10; refine (HPA.out _ _ (HV2.out.grew (by repeat (first | with_reducible exact Grew.refl _ | apply Grew.more | apply Grew.alloc | apply Grew.drew | apply Grew.drewN)))).mono ?_; rintro e w1 ⟨rfl, R6, n6, rfl⟩)
    | (go_at_call 12; refine (HGM.out _).mono ?_; rintro e w1 ⟨v3, rfl, -, R7, n7, rfl⟩; simp only)
    | (go_at_call_of 18 (str tp); refine (HGP.out _).mono ?_; rintro e w1 ⟨v4, rfl, hv4, R8, n8, rfl⟩; simp only at hv4; obtain ⟨a4, c4, rfl, -, -⟩ := hv4.openC; (have HV4 := Lib.hid hv4); clear hv4; simp only)
    | (go_at_call 16; refine (HQA.out _ _ (HV4.out.grew (by repeat (first | with_reducible exact Grew.refl _ | apply Grew.more | apply Grew.alloc | apply Grew.drew | apply Grew.drewN)))).mono ?_; rintro e w1 ⟨rfl, R9, n9, rfl⟩)
    | (go_at_call 18; refine (HQM.out _).mono ?_; rintro e w1 ⟨v5, rfl, -, R10, n10, rfl⟩; simp only))
  go_ret
  exact ⟨by simp, by repeat (first | with_reducible exact Grew.refl _ | apply Grew.more | apply Grew.alloc | apply Grew.drew | apply Grew.drewN)⟩
set_option maxHeartbeats 16000000 in
theorem packTexts_111 (v u : Value) (l : List Gr.Nd) (p : List Gr.Stp) (b : List UInt8) (hb : b ≠ []) (hlen : b.length ≤ 300) (w : World) (hv : NodesAt w v l) (hu : StepsAt w u p) (hl : greatG l = false) (hp : greatP p = false) (hr : Gr.RightR l) (hok : Gr.OkPl fitsP p) : Calls Tryz.prog 5 #[v, u, .string ⟨b.toArray⟩] w (Gives (.bool true) w) := by
  have h8 := nodes_route hv
  have hsl := (great_small hl).1
  have hsp := greatP_small hp
  have HGR := Lib.hid fun W (g : Grew w W) => great10_pl _ _ l p W (hv.grew g) (hu.grew g) hl hp
  have HPG := Lib.hid fun W (g : Grew w W) => packGraph_ok _ l W (hv.grew g) hsl hr
  have hgg := fun W => getG_self hr h8 W
  have hpa := fun W x (h : NodesAt W x (Gr.normG l)) => put_again l hr hsl x W h
  have hgm := fun W => getMore_graph hr h8 b hb W hlen
  have hpp := fun W (g : Grew w W) => plan16_any _ p W (hu.grew g) hsp
  rw [planR_ok hok] at hpp
  simp only at hpp
  have hgp := fun W => getPl_self hok W
  have hqa := fun W x (h : StepsAt W x (p.map Gr.cleanS)) => putPl_again p hok hsp x W h
  have hqm := fun W => getMore_plan hok b hb W hlen
  obtain ⟨a, cap, rfl, -, -⟩ := hv.openC
  obtain ⟨a1, cap1, rfl, -, -⟩ := hu.openC
  have hlg := putG_len hr h8
  have hlp := putPl_len hok
  generalize Gr.normG l = ln at *
  generalize Gr.putG putI l = tg at *
  generalize p.map Gr.cleanS = pc at *
  generalize Gr.putPl putI p = tp at *
  have CATG := str_cat tg b
  have bdg : ¬ 9223372036854775807 < tg.length + b.length := by omega
  clear hlg
  have CATP := str_cat tp b
  have bdp : ¬ 9223372036854775807 < tp.length + b.length := by omega
  clear hlp
  have HPP := Lib.hid hpp
  have HGG := Lib.hid hgg
  have HPA := Lib.hid hpa
  have HGM := Lib.hid hgm
  have HGP := Lib.hid hgp
  have HQA := Lib.hid hqa
  have HQM := Lib.hid hqm
  clear h8 hsl hsp hpp hv hu hl hp hr hok hgg hpa hgm hgp hqa hqm
  have hbe : b.isEmpty = false := by cases b with | nil => exact absurd rfl hb | cons x b => rfl
  have hl3 : ¬ (300 : Int) < (b.length : Int) := by omega
  clear hb hlen
  go_enter Tryz.func5, Tryz.ntmps5
  go_wp2_with (first
    | (go_at_call 8; refine (awake13_any _).mono ?_; rintro e w1 ⟨rfl, R1, n1, rfl⟩)
    | (go_at_call 15; refine (HGR.out _ (by repeat (first | with_reducible exact Grew.refl _ | apply Grew.more | apply Grew.alloc | apply Grew.drew | apply Grew.drewN))).mono ?_; rintro e w1 ⟨rfl, R2, n2, rfl⟩)
    | (go_at_call_of 10 (Value.slice a l.length cap); refine (HPG.out _ (by repeat (first | with_reducible exact Grew.refl _ | apply Grew.more | apply Grew.alloc | apply Grew.drew | apply Grew.drewN))).mono ?_; rintro e w1 ⟨rfl, R3, n3, rfl⟩)
    | (go_at_call_of 16 (Value.slice a1 p.length cap1); refine (HPP.out _ (by repeat (first | with_reducible exact Grew.refl _ | apply Grew.more | apply Grew.alloc | apply Grew.drew | apply Grew.drewN))).mono ?_; rintro e w1 ⟨rfl, R4, n4, rfl⟩)
    | (go_at_call_of 12 (str tg); refine (HGG.out _).mono ?_; rintro e w1 ⟨v2, rfl, hv2, R5, n5, rfl⟩; simp only at hv2; obtain ⟨a2, c2, rfl, -, -⟩ := hv2.openC; (have HV2 := Lib.hid hv2); clear hv2; simp only)
    | (go_at_call 10; refine (HPA.out _ _ (HV2.out.grew (by repeat (first | with_reducible exact Grew.refl _ | apply Grew.more | apply Grew.alloc | apply Grew.drew | apply Grew.drewN)))).mono ?_; rintro e w1 ⟨rfl, R6, n6, rfl⟩)
    | (go_at_call 12; refine (HGM.out _).mono ?_; rintro e w1 ⟨v3, rfl, -, R7, n7, rfl⟩; simp only)
    | (go_at_call_of 18 (str tp); refine (HGP.out _).mono ?_; rintro e w1 ⟨v4, rfl, hv4, R8, n8, rfl⟩; simp only at hv4; obtain ⟨a4, c4, rfl, -, -⟩ := hv4.openC; (have HV4 := Lib.hid hv4); clear hv4; simp only)
    | (go_at_call 16; refine (HQA.out _ _ (HV4.out.grew (by repeat (first | with_reducible exact Grew.refl _ | apply Grew.more | apply Grew.alloc | apply Grew.drew | apply Grew.drewN)))).mono ?_; rintro e w1 ⟨rfl, R9, n9, rfl⟩)
    | (go_at_call 18; refine (HQM.out _).mono ?_; rintro e w1 ⟨v5, rfl, -, R10, n10, rfl⟩; simp only))
  go_ret
  exact ⟨by simp, by repeat (first | with_reducible exact Grew.refl _ | apply Grew.more | apply Grew.alloc | apply Grew.drew | apply Grew.drewN)⟩
set_option maxHeartbeats 8000000 in
theorem packTexts_big (v u : Value) (l : List Gr.Nd) (p : List Gr.Stp) (b : List UInt8) (w : World) (hv : NodesAt w v l) (hu : StepsAt w u p) (h : (greatG l || greatP p) = true) : Calls Tryz.prog 5 #[v, u, .string ⟨b.toArray⟩] w (Gives (.bool true) w) := by
  have HGR := Lib.hid fun W (g : Grew w W) => great10_big _ _ l p W (hv.grew g) (hu.grew g) h
  obtain ⟨a, cap, rfl, -, -⟩ := hv.openC
  obtain ⟨a1, cap1, rfl, -, -⟩ := hu.openC
  clear h hv hu
  go_enter Tryz.func5, Tryz.ntmps5
  go_wp2_with (first
    | (go_at_call 8; refine (awake13_any _).mono ?_; rintro e w1 ⟨rfl, R1, n1, rfl⟩)
    | (go_at_call 15; refine (HGR.out _ (by repeat (first | with_reducible exact Grew.refl _ | apply Grew.more | apply Grew.alloc | apply Grew.drew | apply Grew.drewN))).mono ?_; rintro e w1 ⟨rfl, R2, n2, rfl⟩))
  go_ret
  exact ⟨rfl, by repeat (first | with_reducible exact Grew.refl _ | apply Grew.more | apply Grew.alloc | apply Grew.drew | apply Grew.drewN)⟩
set_option maxHeartbeats 8000000 in
theorem packTexts_far (v u : Value) (l : List Gr.Nd) (p : List Gr.Stp) (b : List UInt8) (w : World) (hv : NodesAt w v l) (hu : StepsAt w u p) (hl : greatG l = false) (hp : greatP p = false) (h : (300 : Int) < (b.length : Int)) : Calls Tryz.prog 5 #[v, u, .string ⟨b.toArray⟩] w (Gives (.bool true) w) := by
  have HGR := Lib.hid fun W (g : Grew w W) => great10_pl _ _ l p W (hv.grew g) (hu.grew g) hl hp
  obtain ⟨a, cap, rfl, -, -⟩ := hv.openC
  obtain ⟨a1, cap1, rfl, -, -⟩ := hu.openC
  clear hl hp hv hu
  go_enter Tryz.func5, Tryz.ntmps5
  go_wp2_with (first
    | (go_at_call 8; refine (awake13_any _).mono ?_; rintro e w1 ⟨rfl, R1, n1, rfl⟩)
    | (go_at_call 15; refine (HGR.out _ (by repeat (first | with_reducible exact Grew.refl _ | apply Grew.more | apply Grew.alloc | apply Grew.drew | apply Grew.drewN))).mono ?_; rintro e w1 ⟨rfl, R2, n2, rfl⟩))
  go_ret
  exact ⟨rfl, by repeat (first | with_reducible exact Grew.refl _ | apply Grew.more | apply Grew.alloc | apply Grew.drew | apply Grew.drewN)⟩
theorem packTexts_any (v u : Value) (l : List Gr.Nd) (p : List Gr.Stp) (b : List UInt8) (w : World) (hv : NodesAt w v l) (hu : StepsAt w u p) : Calls Tryz.prog 5 #[v, u, .string ⟨b.toArray⟩] w (Gives (.bool true) w) := by
  cases hg : (greatG l || greatP p)
  case true => exact packTexts_big v u l p b w hv hu hg
  obtain ⟨hl, hp⟩ := (Bool.or_eq_false_iff).1 hg
  by_cases h3 : (300 : Int) < (b.length : Int)
  · exact packTexts_far v u l p b w hv hu hl hp h3
  by_cases hr : Gr.RightR l <;> by_cases hok : Gr.OkPl fitsP p
  · cases b with
    | nil => exact packTexts_110 v u l p w hv hu hl hp hr hok
    | cons x b => exact packTexts_111 v u l p (x :: b) (by simp) (by omega) w hv hu hl hp hr hok
  · cases b with
    | nil => exact packTexts_100 v u l p w hv hu hl hp hr hok
    | cons x b => exact packTexts_101 v u l p (x :: b) (by simp) (by omega) w hv hu hl hp hr hok
  · cases b with
    | nil => exact packTexts_010 v u l p w hv hu hl hp hr hok
    | cons x b => exact packTexts_011 v u l p (x :: b) (by simp) (by omega) w hv hu hl hp hr hok
  · cases b with
    | nil => exact packTexts_000 v u l p w hv hu hl hp hr hok
    | cons x b => exact packTexts_001 v u l p (x :: b) (by simp) (by omega) w hv hu hl hp hr hok
end Go.Proofs.YtangapokicnfgaaGreat
