import Derived.Test.YtepfdekppnobaaaGreatMb51
import Derived.Test.YtepfdekppnobaaaGreatMb50
/-! What the parts of a right manifest, acknowledged, make: plain laws. -/
namespace Go.Proofs.YtepfdekppnobaaaGreat
set_option linter.unusedSimpArgs false
set_option linter.unusedVariables false
open Go.RowKit Ga
set_option maxRecDepth 100000

/-- what each task acknowledges: its part -/
def backF (m : Gr.Mf) : Who → AkP := fun t => ⟨match Gr.nodeOf m.graph t.1 with
  | some n => Gr.partE n t.2 m.ents
  | none => [], [], if t.1 = 0 then m.offs.getD t.2.toNat 0 else 0⟩
theorem nodeOf_in {g : List Gr.Nd} (h : Gr.RightR g) {n : Gr.Nd} (hn : n ∈ g) : Gr.nodeOf g n.id = some n := Gr.bind_find h.ids hn
theorem kindOf_in {g : List Gr.Nd} (h : Gr.RightR g) {n : Gr.Nd} (hn : n ∈ g) : kindOf g n.id = n.kind := by
  unfold kindOf
  rw [nodeOf_in h hn]
  rfl
theorem fm_congr {α β : Type} {f g : α → List β} : ∀ {l : List α}, (∀ x ∈ l, f x = g x) → l.flatMap f = l.flatMap g
  | [], _ => rfl
  | x :: l, h => by rw [List.flatMap_cons, List.flatMap_cons, h x (List.mem_cons_self ..), fm_congr fun y hy => h y (List.mem_cons_of_mem _ hy)]
theorem fm_nil {α β : Type} {f : α → List β} : ∀ {l : List α}, (∀ x ∈ l, f x = []) → l.flatMap f = []
  | [], _ => rfl
  | x :: l, h => by rw [List.flatMap_cons, h x (List.mem_cons_self ..), fm_nil fun y hy => h y (List.mem_cons_of_mem _ hy)]; rfl
theorem flat_tasks {β : Type} (q : Who → List β) : ∀ g : List Gr.Nd, (tasksOf g).flatMap q = g.flatMap fun n => (List.range n.par.toNat).flatMap fun (k : Nat) => q (n.id, (k : Int))
  | [] => rfl
  | n :: g => by
    have h1 : tasksOf (n :: g) = ((List.range n.par.toNat).map fun (k : Nat) => (n.id, (k : Int))) ++ tasksOf g := by unfold tasksOf; rw [List.flatMap_cons]
    rw [h1, List.flatMap_append, flat_tasks q g, List.flatMap_cons, List.flatMap_map]
theorem flat_pts {β : Type} (q : Pt → List β) (l : List Tab.En) : ∀ g : List Gr.Nd, (ptsOf g l).flatMap q = g.flatMap fun n => (List.range n.par.toNat).flatMap fun (k : Nat) => q (n.id, k, Gr.partE n (k : Nat) l)
  | [] => rfl
  | n :: g => by
    have h1 : ptsOf (n :: g) l = ((List.range n.par.toNat).map fun t => (n.id, t, Gr.partE n (t : Nat) l)) ++ ptsOf g l := by unfold ptsOf; rw [List.flatMap_cons]
    rw [h1, List.flatMap_append, flat_pts q l g, List.flatMap_cons, List.flatMap_map]
/-- the first node is the source -/
theorem right_head {m : Gr.Mf} (h : Gr.RightM fitsP m) : ∃ n t, m.graph = n :: t ∧ n.id = 0 ∧ n.kind = 0 ∧ (m.offs.length : Int) = n.par ∧ ∀ y ∈ t, y.id ≠ 0 ∧ y.kind ≠ 0 := by
  obtain ⟨n, hh, hl⟩ := h.of
  have ho := h.so
  obtain ⟨t, hg⟩ : ∃ t, m.graph = n :: t := by
    cases hq : m.graph with
    | nil => rw [hq] at hh; cases hh
    | cons a t => rw [hq] at hh; cases hh; exact ⟨t, rfl⟩
  have hone := h.gr.one
  obtain ⟨x, hx, hk⟩ : ∃ x ∈ m.graph, (x.kind == 0) = true := List.countP_pos_iff.1 (by rw [hone]; decide)
  obtain ⟨i, hx1⟩ := h.gr.at hx
  have hx0 : x.id = 0 := hx1.src.2 (by simpa using hk)
  have hn : n ∈ m.graph := by rw [hg]; exact List.mem_cons_self ..
  obtain ⟨j, hn1⟩ := h.gr.at hn
  rw [hg] at ho hx
  obtain ⟨o1, o2⟩ := List.pairwise_cons.1 ho
  have hz : n.id = 0 := by
    rcases List.mem_cons.1 hx with rfl | h2
    · exact hx0
    · have := o1 x h2
      have := hn1.id0
      omega
  refine ⟨n, t, hg, hz, hn1.src.1 hz, hl, fun y hy => ?_⟩
  have hy1 := o1 y hy
  obtain ⟨k, hy2⟩ := h.gr.at (show y ∈ m.graph by rw [hg]; exact List.mem_cons_of_mem _ hy)
  exact ⟨by omega, fun e => by have := hy2.src.2 e; omega⟩
theorem back_offs {m : Gr.Mf} (h : Gr.RightM fitsP m) : offsG m.graph (backF m) (tasksOf m.graph) = m.offs := by
  obtain ⟨n, t, hg, hz, hk, hl, ht⟩ := right_head h
  have hin : n ∈ m.graph := by rw [hg]; exact List.mem_cons_self ..
  unfold offsG
  rw [flat_tasks]
  have h1 : (m.graph.flatMap fun n => (List.range n.par.toNat).flatMap fun (k : Nat) => if kindOf m.graph ((n.id, (k : Int)) : Who).1 = 0 then [(backF m (n.id, (k : Int))).off] else []) = (m.graph.flatMap fun n => if n.kind = 0 then (List.range n.par.toNat).flatMap fun (k : Nat) => [(backF m (n.id, (k : Int))).off] else []) := fm_congr fun y hy => by
    simp only [kindOf_in h.gr hy]
    split
    · rfl
    · exact fm_nil fun _ _ => rfl
  rw [h1, hg, List.flatMap_cons, if_pos hk, fm_nil (l := t) fun y hy => if_neg (ht y hy).2, List.append_nil, ← List.map_eq_flatMap]
  refine List.ext_getElem (by rw [List.length_map, List.length_range]; omega) fun i h1 h2 => ?_
  rw [List.getElem_map, List.getElem_range]
  simp only [backF, hz]
  rw [if_pos trivial, Int.toNat_natCast, List.getD_eq_getElem?_getD, List.getElem?_eq_getElem h2]
  rfl
theorem back_out {m : Gr.Mf} : outG m.graph (backF m) (tasksOf m.graph) = [] := fm_nil fun t _ => by
  simp only [backF]
  split <;> rfl
theorem partE_nil {m : Gr.Mf} (h : Gr.RightM fitsP m) {n : Gr.Nd} (hn : n ∈ m.graph) (hk : n.kind ≠ 1) (t : Int) : Gr.partE n t m.ents = [] := by
  refine List.filter_eq_nil_iff.2 fun x hx => ?_
  obtain ⟨y, hy, hy1⟩ := h.ek x hx
  have : x.node ≠ n.id := fun e => by
    rw [e, nodeOf_in h.gr hn] at hy
    cases hy
    exact hk hy1
  simp [this]
theorem back_ents {m : Gr.Mf} (h : Gr.RightM fitsP m) : entG m.graph (backF m) (tasksOf m.graph) = (ptsOf m.graph m.ents).flatMap fun p => p.2.2 := by
  unfold entG
  rw [flat_tasks, flat_pts]
  refine fm_congr fun n hn => fm_congr fun k _ => ?_
  simp only [kindOf_in h.gr hn, backF, nodeOf_in h.gr hn]
  split
  · rename_i hk
    exact (partE_nil h hn (by omega) _).symm
  · rfl
theorem perm_sub {α : Type} : ∀ {a b : List α}, a.Nodup → (∀ x ∈ a, x ∈ b) → b.length ≤ a.length → b.Perm a
  | [], b, _, _, hl => by
    cases b with
    | nil => exact List.Perm.refl _
    | cons x b => simp at hl
  | x :: a, b, hn, hs, hl => by
    obtain ⟨s, t, rfl⟩ := List.append_of_mem (hs x (List.mem_cons_self ..))
    obtain ⟨hx, hn2⟩ := List.nodup_cons.1 hn
    have ih := perm_sub (a := a) (b := s ++ t) hn2 (fun y hy => by
      have h1 := hs y (List.mem_cons_of_mem _ hy)
      rw [List.mem_append, List.mem_cons] at h1
      rw [List.mem_append]
      rcases h1 with h1 | rfl | h1
      · exact .inl h1
      · exact absurd hy hx
      · exact .inr h1) (by simp only [List.length_append, List.length_cons] at hl ⊢; omega)
    exact List.perm_middle.trans (ih.cons x)
theorem right_nodup {m : Gr.Mf} (h : Gr.RightM fitsP m) : m.ents.Nodup := h.ei.imp fun {a b} q e => by rw [e] at q; omega
theorem ptsOf_in {g : List Gr.Nd} {l : List Tab.En} {p : Pt} : p ∈ ptsOf g l ↔ ∃ n ∈ g, ∃ t, t < n.par.toNat ∧ p = (n.id, t, Gr.partE n (t : Nat) l) := by
  unfold ptsOf
  rw [List.mem_flatMap]
  constructor
  · rintro ⟨n, hn, h⟩
    obtain ⟨t, ht, rfl⟩ := List.mem_map.1 h
    exact ⟨n, hn, t, List.mem_range.1 ht, rfl⟩
  · rintro ⟨n, hn, t, ht, rfl⟩
    exact ⟨n, hn, List.mem_map.2 ⟨t, List.mem_range.2 ht, rfl⟩⟩
theorem back_perm {m : Gr.Mf} (h : Gr.RightM fitsP m) (h8 : ∀ n ∈ m.graph, n.route.length = 8) : (entG m.graph (backF m) (tasksOf m.graph)).Perm m.ents := by
  rw [back_ents h]
  refine perm_sub (right_nodup h) (fun x hx => ?_) ?_
  · obtain ⟨n, hn, -⟩ := h.ek x hx
    obtain ⟨h1, h2⟩ := Gr.nodeOf_some hn
    obtain ⟨t0, t1⟩ := Gr.taskOf_range (h8 n h1) (right_par h.gr n h1).2 x.key
    refine List.mem_flatMap.2 ⟨(n.id, (Gr.taskOf n x.key).toNat, Gr.partE n ((Gr.taskOf n x.key).toNat : Nat) m.ents), ptsOf_in.2 ⟨n, h1, _, by omega, rfl⟩, ?_⟩
    refine List.mem_filter.2 ⟨hx, ?_⟩
    rw [h2, Int.toNat_of_nonneg t0]
    simp
  · have h1 := right_cnt h h8
    unfold cntP at h1
    rw [List.length_flatMap, h1]
    exact Nat.le_refl _
theorem newT_un (l : List Tab.En) (hs : l.Pairwise fun a b => Tab.num a ≠ Tab.num b) (hn : ∀ x ∈ l, Tab.nz x = true) : Tab.newT l = l.reverse := by
  suffices h : ∀ (r : List Tab.En), (r.reverse.Pairwise fun a b => Tab.num a ≠ Tab.num b) → (∀ x ∈ r, Tab.nz x = true) → Tab.newT r.reverse = r by
    have := h l.reverse (by rwa [List.reverse_reverse]) fun x hx => hn x (List.mem_reverse.1 hx)
    rwa [List.reverse_reverse] at this
  intro r
  induction r with
  | nil => intro _ _; rfl
  | cons x r ih =>
    intro hs hn
    rw [List.reverse_cons] at hs ⊢
    obtain ⟨h1, _, h3⟩ := List.pairwise_append.1 hs
    rw [Tab.newT_snoc, ih h1 fun y hy => hn y (List.mem_cons_of_mem _ hy)]
    unfold Tab.setT
    rw [if_pos (hn x (List.mem_cons_self ..))]
    congr 1
    refine List.filter_eq_self.2 fun y hy => ?_
    have := h3 y (List.mem_reverse.2 hy) x (List.mem_singleton.2 rfl)
    simpa using this
/-- made of entries in whatever order, a table keeps them -/
theorem back_sorted {l es s : List Tab.En} (hei : l.Pairwise fun a b => Tab.num a < Tab.num b) (hnz : ∀ x ∈ l, Tab.nz x = true) (hp : es.Perm l) (hs : s.Perm (Tab.newT es)) (hso : s.Pairwise fun a b => Tab.num a ≤ Tab.num b) : s = l := by
  have hu : es.Pairwise fun a b => Tab.num a ≠ Tab.num b := (hp.pairwise_iff fun q e => q e.symm).2 (hei.imp fun q => by omega)
  rw [newT_un es hu fun x hx => hnz x (hp.mem_iff.1 hx)] at hs
  refine (Tab.all_iff (l := l) ?_ hso).2 ⟨hei, hnz⟩
  rw [Tab.newT_rev l hei hnz]
  exact ((hs.trans (List.reverse_perm es)).trans hp).trans (List.reverse_perm l).symm
theorem okEn_of {x : Tab.En} (h1 : 0 ≤ x.node ∧ x.node < 8) (h2 : 0 ≤ x.key ∧ x.key < 64) (h3 : rightV x.c0 = true) (h4 : rightV x.c1 = true) : okEn x = true := by
  unfold okEn
  rw [h3, h4]
  unfold thereB
  simp
  omega
theorem back_new {m : Gr.Mf} (h : Gr.RightM fitsP m) (h8 : ∀ n ∈ m.graph, n.route.length = 8) : newOk (entG m.graph (backF m) (tasksOf m.graph)) = true := by
  unfold newOk
  rw [List.all_eq_true]
  intro x hx
  obtain ⟨h1, h2, h3, h4, -⟩ := h.en x ((back_perm h h8).mem_iff.1 hx)
  exact okEn_of h1 h2 h3 h4
/-- the manifest that comes of it -/
def backM (m : Gr.Mf) : Gr.Mf := ⟨m.epoch + 1, m.plans, m.offs, m.graph, m.ents, [], []⟩
theorem back_right {m : Gr.Mf} (h : Gr.RightM fitsP m) (he : m.epoch ≤ 1073741824) : Gr.RightM fitsP (backM m) :=
  ⟨⟨by have := h.ep; simp only [backM]; omega, by simp only [backM]; omega⟩, h.pl, h.gr, h.so, h.of, h.o4, h.en, h.ei, h.ek, Nat.zero_le _, (fun x hx => by cases hx), .inl rfl⟩
/-! how the acknowledgements lie -/
def ackC (m : Gr.Mf) (x : PtC) : AkC := ⟨x.node, x.ix, m.epoch + 1, x.a, x.n, x.c, none, 0, 0, if x.node = 0 then m.offs.getD x.ix.toNat 0 else 0⟩
def cameC (m : Gr.Mf) (lc : List PtC) : List (Who × AkC) := (lc.map fun x => ((x.node, x.ix), ackC m x)).reverse
theorem cameC_snoc (m : Gr.Mf) (lc : List PtC) (x : PtC) : cameC m (lc ++ [x]) = ((x.node, x.ix), ackC m x) :: cameC m lc := by
  unfold cameC
  rw [List.map_append, List.reverse_append]
  rfl
theorem Rel.map_eq {α β γ : Type} {R : α → β → Prop} {f : α → γ} {g : β → γ} (h : ∀ a b, R a b → f a = g b) : ∀ {xs : List α} {ys : List β}, Rel R xs ys → xs.map f = ys.map g
  | [], [], _ => rfl
  | a :: xs, b :: ys, ⟨h1, h2⟩ => by rw [List.map_cons, List.map_cons, h a b h1, Rel.map_eq h h2]
theorem pts_tasks (l : List Tab.En) : ∀ g : List Gr.Nd, (ptsOf g l).map (fun p => ((p.1, (p.2.1 : Int)) : Who)) = tasksOf g
  | [] => rfl
  | n :: g => by
    have h1 : tasksOf (n :: g) = ((List.range n.par.toNat).map fun (k : Nat) => (n.id, (k : Int))) ++ tasksOf g := by unfold tasksOf; rw [List.flatMap_cons]
    have h2 : ptsOf (n :: g) l = ((List.range n.par.toNat).map fun t => (n.id, t, Gr.partE n (t : Nat) l)) ++ ptsOf g l := by unfold ptsOf; rw [List.flatMap_cons]
    rw [h1, h2, List.map_append, pts_tasks l g, List.map_map]
    rfl
theorem rel_tasks {base : Nat} {W : World} {lc : List PtC} {g : List Gr.Nd} {l : List Tab.En} (h : Rel (PtIs base W) lc (ptsOf g l)) : lc.map (fun x => ((x.node, x.ix) : Who)) = tasksOf g := by
  rw [← pts_tasks l g]
  exact Rel.map_eq (fun a b ⟨q1, q2, _⟩ => by rw [q1, q2]) h
theorem came_keys {base : Nat} {W : World} {lc : List PtC} {m : Gr.Mf} (h : Rel (PtIs base W) lc (ptsOf m.graph m.ents)) (hs : m.graph.Pairwise fun a b => a.id < b.id) : lc.Pairwise fun a b => ((a.node, a.ix) : Who) ≠ (b.node, b.ix) := by
  have h1 := tasksOf_nodup hs
  rw [← rel_tasks h, List.Nodup, List.pairwise_map] at h1
  exact h1
theorem came_un {lc : List PtC} {m : Gr.Mf} (h : lc.Pairwise fun a b => ((a.node, a.ix) : Who) ≠ (b.node, b.ix)) : (cameC m lc).Pairwise fun a b => a.1 ≠ b.1 := by
  unfold cameC
  rw [List.pairwise_reverse, List.pairwise_map]
  exact h.imp fun q e => q e.symm
theorem back_came {base : Nat} {W : World} {lc : List PtC} {m : Gr.Mf} (h : Gr.RightM fitsP m) (hr : Rel (PtIs base W) lc (ptsOf m.graph m.ents)) (he : m.ents.length ≤ 60) : AllCame W m.graph (cameC m lc) (backF m) := by
  intro t ht
  obtain ⟨n, hn, h1, h2, h3⟩ := tasksOf_mem.1 ht
  obtain ⟨i, hi, hp⟩ := List.mem_iff_getElem.1 (ptsOf_in (g := m.graph) (l := m.ents) (p := (n.id, t.2.toNat, Gr.partE n (t.2.toNat : Nat) m.ents)) |>.2 ⟨n, hn, t.2.toNat, by omega, rfl⟩)
  have hil : i < lc.length := by rw [Rel.len hr]; exact hi
  obtain ⟨q1, q2, q3⟩ := Rel.get hr i lc[i] _ (List.getElem?_eq_getElem hil) (by rw [List.getElem?_eq_getElem hi, hp])
  simp only at q1 q2 q3
  rw [Int.toNat_of_nonneg h2] at q2 q3
  have hm : (t, ackC m lc[i]) ∈ cameC m lc := by
    unfold cameC
    rw [List.mem_reverse]
    refine List.mem_map.2 ⟨lc[i], List.getElem_mem hil, ?_⟩
    obtain ⟨t1, t2⟩ := t
    simp only at h1 q1 q2 ⊢
    rw [q1, q2, h1]
  refine ⟨_, mfind_is (came_un (came_keys hr h.so)) hm, ?_, ⟨base, ?_⟩, ⟨0, OwnAt.nil _⟩, ?_, Nat.zero_le _⟩
  · simp only [ackC, backF]
    rw [q1, q2, h1]
  · simp only [ackC, backF]
    rw [h1, nodeOf_in h.gr hn]
    exact q3
  · simp only [backF]
    rw [h1, nodeOf_in h.gr hn]
    exact Nat.le_trans (List.length_filter_le _ _) (by omega)
/-- each part's acknowledgement is taken -/
theorem back_add {base : Nat} {W : World} {lc : List PtC} {m : Gr.Mf} (h : Gr.RightM fitsP m) (hr : Rel (PtIs base W) lc (ptsOf m.graph m.ents)) {k : Nat} (hk : k < lc.length) : addR m.graph (m.epoch + 1) (cameC m (lc.take k)) (ackC m lc[k]) = 0 := by
  have hk2 : k < (ptsOf m.graph m.ents).length := by rw [← Rel.len hr]; exact hk
  obtain ⟨q1, q2, -⟩ := Rel.get hr k lc[k] _ (List.getElem?_eq_getElem hk) (List.getElem?_eq_getElem hk2)
  obtain ⟨n, hn, t, ht, hp⟩ := ptsOf_in.1 (List.getElem_mem hk2)
  rw [hp] at q1 q2
  simp only at q1 q2
  have hno : mfind (cameC m (lc.take k)) (lc[k].node, lc[k].ix) = none := mfind_no fun x hx e => by
    unfold cameC at hx
    rw [List.mem_reverse] at hx
    obtain ⟨y, hy, rfl⟩ := List.mem_map.1 hx
    obtain ⟨j, hj, hje⟩ := List.mem_iff_getElem.1 hy
    rw [List.length_take] at hj
    rw [List.getElem_take] at hje
    have h1 := List.pairwise_iff_getElem.1 (came_keys hr h.so) j k (by omega) hk (by omega)
    rw [hje] at h1
    exact h1 e
  unfold addR
  rw [show (ackC m lc[k]).node = n.id from q1, nodeOf_in h.gr hn]
  simp only
  rw [if_neg (by simp only [ackC]; rw [q2]; omega), if_neg (by simp [ackC])]
  rw [show ((n.id, (ackC m lc[k]).ix) : Who) = (lc[k].node, lc[k].ix) by rw [q1]; rfl, hno]
  rfl
theorem back_index {base : Nat} {W : World} {lc : List PtC} {m : Gr.Mf} (h : Gr.RightM fitsP m) (hr : Rel (PtIs base W) lc (ptsOf m.graph m.ents)) {k : Nat} (hk : k < lc.length) : okWho (lc[k].node, lc[k].ix) ∧ 0 ≤ lc[k].ix ∧ lc[k].n ≤ m.ents.length ∧ (lc[k].node = 0 → lc[k].ix < m.offs.length) := by
  have hk2 : k < (ptsOf m.graph m.ents).length := by rw [← Rel.len hr]; exact hk
  have hpi := Rel.get hr k lc[k] _ (List.getElem?_eq_getElem hk) (List.getElem?_eq_getElem hk2)
  obtain ⟨q1, q2, q4, -⟩ := hpi.same
  obtain ⟨n, hn, t, ht, hp⟩ := ptsOf_in.1 (List.getElem_mem hk2)
  rw [hp] at q1 q2 q4
  simp only at q1 q2 q4
  have h7 := h.gr.r7 n hn
  have hpar := (right_par h.gr n hn).1
  refine ⟨by unfold okWho; simp only; omega, by omega, by rw [q4]; exact List.length_filter_le _ _, fun e => ?_⟩
  obtain ⟨n0, t0, hg, hz, -, hl, hne⟩ := right_head h
  rw [hg] at hn
  rcases List.mem_cons.1 hn with rfl | h2
  · omega
  · exact absurd (q1.symm.trans e) (hne n h2).1
/-- a part's cells -/
theorem PtSt.open2 {w W : World} {a : Option Addr} {c : Nat} {lc : List PtC} {L : List Pt} (h : PtSt w W (.slice a lc.length c) lc L) {i : Nat} (hi : i < lc.length) : ∃ b, a = some ⟨b, 0, none⟩ ∧ Pre b W ∧
    W.cell? ⟨b, i * 3, none⟩ = some (.int .i64 lc[i].node) ∧ W.cell? ⟨b, i * 3 + 1, none⟩ = some (.int .i64 lc[i].ix) ∧ W.cell? ⟨b, i * 3 + 2, none⟩ = some (.slice lc[i].a lc[i].n lc[i].c) := by
  have hr := OwnAt.rows h.own encPt_len
  obtain ⟨a', c', e, -, hx⟩ := hr
  cases e
  obtain ⟨b, off, rfl, hc⟩ := hx (by intro e; subst e; simp at hi)
  have hoff : off = 0 := by
    rcases h.own.form with ⟨e, -⟩ | ⟨b', c', e, -⟩
    · cases e
    · cases e
      rfl
  subst hoff
  have hj := fun j u => hc i lc[i] (List.getElem?_eq_getElem hi) j u
  have h0 := hj 0 _ rfl
  have h1 := hj 1 _ rfl
  have h2 := hj 2 _ rfl
  rw [Nat.zero_add] at h0 h1 h2
  exact ⟨b, rfl, Pre.ofCell h0, h0, h1, h2⟩
/-- parts, where a map's block is turned -/
theorem PtSt.keepB {w W W' : World} {b : Nat} {v : Value} {lc : List PtC} {L : List Pt} (h : PtSt w W v lc L) (hk : Keep b W W') (hb : ∀ c t f, W.heap[b]? ≠ some (.cells c t f)) (g : Grew w W') : PtSt w W' v lc L := by
  have keep : ∀ {α : Type} {t : TypeId} {k : Nat} {enc : α → List Value} {v : Value} {l : List α}, OwnAt w.heap.size t k enc W v l → OwnAt w.heap.size t k enc W' v l := fun {α t k enc v l} ho => OwnAt.same ho fun q hq => by
    obtain ⟨-, cs, hc⟩ := OwnAt.block ho hq
    exact hk.2 q (heap_lt hc) fun e => by rw [e] at hc; exact hb _ _ _ hc
  exact ⟨g, keep h.own, Rel.mono (fun c p ⟨h1, h2, h3⟩ => ⟨h1, h2, keep h3⟩) h.rel⟩
end Go.Proofs.YtepfdekppnobaaaGreat
