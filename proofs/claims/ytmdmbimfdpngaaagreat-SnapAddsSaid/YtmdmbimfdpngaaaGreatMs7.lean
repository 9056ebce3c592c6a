import Derived.Test.YtmdmbimfdpngaaaGreatMs3
import Derived.WalkKit
/-! Graphs: an order that takes in all nodes is there just if none lies above itself: plain laws. -/
namespace Gr
set_option linter.unusedSimpArgs false
set_option linter.unusedVariables false

structure Nd where
  id : Int
  kind : Int
  frm : List Int
  prog : List Vm.Ins
  par : Int
  route : List Int
def find (l : List Nd) (id : Int) : Option Nat := l.findIdx? fun n => n.id == id
/-- the document's: can 'to' be come to, up by From, in so many steps? -/
def above (l : List Nd) (fr to : Int) : Nat → Bool
  | 0 => false
  | k + 1 => match (find l fr).bind fun i => l[i]? with
    | none => false
    | some n => n.frm.any fun f => f == to || above l f to k
def Edge (l : List Nd) (x y : Int) : Prop := ∃ n, ((find l x).bind fun i => l[i]?) = some n ∧ y ∈ n.frm
theorem above_succ {l : List Nd} {x z : Int} {k : Nat} : above l x z (k + 1) = true ↔ ∃ y, Edge l x y ∧ (y = z ∨ above l y z k = true) := by
  rw [above]
  cases h : (find l x).bind fun i => l[i]? with
  | none =>
    refine ⟨fun h2 => by simp at h2, ?_⟩
    rintro ⟨y, ⟨n, hn, _⟩, _⟩
    rw [h] at hn
    cases hn
  | some n =>
    simp only [List.any_eq_true, Bool.or_eq_true, beq_iff_eq]
    constructor
    · rintro ⟨y, hy, h2⟩
      exact ⟨y, ⟨n, h, hy⟩, h2⟩
    · rintro ⟨y, ⟨m, hm, hy⟩, h2⟩
      rw [h] at hm
      cases hm
      exact ⟨y, hy, h2⟩
theorem above_mono {l : List Nd} : ∀ (k : Nat) {x z : Int}, above l x z k = true → above l x z (k + 1) = true
  | 0, x, z, h => by simp [above] at h
  | k + 1, x, z, h => by
    obtain ⟨y, hy, h2⟩ := above_succ.1 h
    exact above_succ.2 ⟨y, hy, h2.imp id fun h3 => above_mono k h3⟩
theorem above_le {l : List Nd} {x z : Int} {j k : Nat} (h : j ≤ k) (ha : above l x z j = true) : above l x z k = true := by
  induction k with
  | zero => rw [show j = 0 by omega] at ha; exact ha
  | succ k ih =>
    rcases Nat.lt_or_ge k j with h1 | h1
    · rw [show k + 1 = j by omega]; exact ha
    · exact above_mono k (ih h1)
/-- a way of edges -/
def Way (l : List Nd) (p : Nat → Int) (k : Nat) : Prop := ∀ i, i < k → Edge l (p i) (p (i + 1))
theorem Way.above {l : List Nd} {p : Nat → Int} {k : Nat} (h : Way l p k) : ∀ (d i : Nat), i + d + 1 ≤ k → above l (p i) (p (i + d + 1)) (d + 1) = true
  | 0, i, hk => above_succ.2 ⟨_, h i (by omega), .inl rfl⟩
  | d + 1, i, hk => by
    have := Way.above h d (i + 1) (by omega)
    rw [show i + 1 + d + 1 = i + (d + 1) + 1 by omega] at this
    exact above_succ.2 ⟨_, h i (by omega), .inr this⟩

/-- the program's order -/
def nextS (l : List Nd) (out : List Int) : Option Int := (l.find? fun n => !out.contains n.id && n.frm.all fun f => out.contains f).map (·.id)
def sortG (l : List Nd) : Nat → List Int → List Int
  | 0, out => out
  | k + 1, out => match nextS l out with
    | none => out
    | some id => sortG l k (out ++ [id])
def ids (l : List Nd) : List Int := l.map (·.id)
/-- what holds of an order as far as it goes -/
structure Ord (l : List Nd) (out : List Int) : Prop where
  nd : out.Nodup
  sub : ∀ x ∈ out, x ∈ ids l
  dn : ∀ (i : Nat) (x : Int), out[i]? = some x → ∃ n ∈ l, n.id = x ∧ ∀ f ∈ n.frm, ∃ j, j < i ∧ out[j]? = some f
theorem Ord.nil (l : List Nd) : Ord l [] := ⟨List.nodup_nil, fun x hx => (by cases hx), fun i x h => by simp at h⟩
theorem nextS_some {l : List Nd} {out : List Int} {x : Int} (h : nextS l out = some x) : ∃ n ∈ l, n.id = x ∧ x ∉ out ∧ ∀ f ∈ n.frm, f ∈ out := by
  unfold nextS at h
  rw [Option.map_eq_some_iff] at h
  obtain ⟨n, hn, rfl⟩ := h
  have h1 := List.find?_some hn
  have h2 := List.mem_of_find?_eq_some hn
  simp only [Bool.and_eq_true, Bool.not_eq_true', List.all_eq_true, List.contains_eq_mem, decide_eq_false_iff_not, decide_eq_true_eq] at h1
  exact ⟨n, h2, rfl, h1.1, h1.2⟩
theorem nextS_none {l : List Nd} {out : List Int} (h : nextS l out = none) : ∀ n ∈ l, n.id ∉ out → ∃ f ∈ n.frm, f ∉ out := by
  intro n hn hout
  unfold nextS at h
  rw [Option.map_eq_none_iff, List.find?_eq_none] at h
  have h1 := h n hn
  simp only [Bool.and_eq_true, Bool.not_eq_true', List.contains_eq_mem, decide_eq_false_iff_not, List.all_eq_true, decide_eq_true_eq, not_and, Classical.not_forall] at h1
  obtain ⟨f, hf, h2⟩ := h1 hout
  exact ⟨f, hf, h2⟩
theorem Ord.step {l : List Nd} {out : List Int} (h : Ord l out) {x : Int} (hx : nextS l out = some x) : Ord l (out ++ [x]) := by
  obtain ⟨n, hn, rfl, hno, hall⟩ := nextS_some hx
  refine ⟨List.nodup_append.2 ⟨h.nd, by simp, fun a ha b hb => ?_⟩, fun x hx => ?_, fun i x hi => ?_⟩
  · rw [List.mem_singleton] at hb
    subst hb
    rintro rfl
    exact hno ha
  · rcases List.mem_append.1 hx with h1 | h1
    · exact h.sub x h1
    · rw [List.mem_singleton] at h1
      subst h1
      exact List.mem_map.2 ⟨n, hn, rfl⟩
  · rcases Nat.lt_or_ge i out.length with h1 | h1
    · rw [List.getElem?_append_left h1] at hi
      obtain ⟨m, hm, hid, hf⟩ := h.dn i x hi
      refine ⟨m, hm, hid, fun f hff => ?_⟩
      obtain ⟨j, hj, h2⟩ := hf f hff
      exact ⟨j, hj, by rw [List.getElem?_append_left (by omega)]; exact h2⟩
    · rw [List.getElem?_append_right h1] at hi
      have hi0 : i - out.length = 0 := by
        rcases Nat.eq_zero_or_pos (i - out.length) with h2 | h2
        · exact h2
        · rw [List.getElem?_eq_none (by simp; omega)] at hi
          cases hi
      rw [hi0] at hi
      simp at hi
      refine ⟨n, hn, hi, fun f hff => ?_⟩
      obtain ⟨j, hj, h2⟩ := List.mem_iff_getElem.1 (hall f hff)
      exact ⟨j, by omega, by rw [List.getElem?_append_left hj, List.getElem?_eq_getElem hj, h2]⟩
theorem Ord.le {l : List Nd} {out : List Int} (h : Ord l out) : out.length ≤ l.length := by
  have := h.nd.length_le_of_subset h.sub
  unfold ids at this
  rwa [List.length_map] at this
theorem sortG_ord {l : List Nd} : ∀ (k : Nat) (out : List Int), Ord l out → Ord l (sortG l k out)
  | 0, out, h => h
  | k + 1, out, h => by
    rw [sortG]
    cases hn : nextS l out with
    | none => exact h
    | some x => exact sortG_ord k _ (h.step hn)
theorem sortG_end {l : List Nd} : ∀ (k : Nat) (out : List Int), Ord l out → l.length < k + out.length → nextS l (sortG l k out) = none
  | 0, out, h, hk => by have := h.le; omega
  | k + 1, out, h, hk => by
    rw [sortG]
    cases hn : nextS l out with
    | none => exact hn
    | some x => exact sortG_end k _ (h.step hn) (by rw [List.length_append]; simp; omega)

theorem find_of_mem {l : List Nd} {x : Int} (h : x ∈ ids l) : ∃ n, ((find l x).bind fun i => l[i]?) = some n ∧ n ∈ l ∧ n.id = x := by
  obtain ⟨n, hn, rfl⟩ := List.mem_map.1 h
  cases hf : find l n.id with
  | none =>
    unfold find at hf
    rw [List.findIdx?_eq_none_iff] at hf
    have := hf n hn
    simp at this
  | some i =>
    have hf2 := hf
    unfold find at hf
    obtain ⟨hi, h1, -⟩ := List.findIdx?_eq_some_iff_getElem.1 hf
    exact ⟨l[i], by simp [List.getElem?_eq_getElem hi], List.getElem_mem hi, by simpa using h1⟩
/-- no order takes in all: then one lies above itself -/
theorem cycle_of {l : List Nd} {out : List Int} (h8 : l.length ≤ 8) (hn : nextS l out = none) (hfr : ∀ n ∈ l, ∀ f ∈ n.frm, f ∈ ids l) {x : Int} (hx : x ∈ ids l) (hxo : x ∉ out) : ∃ y ∈ ids l, above l y y 9 = true := by
  have hstep : ∀ y : Int, ∃ z : Int, y ∈ ids l → y ∉ out → Edge l y z ∧ z ∈ ids l ∧ z ∉ out := by
    intro y
    by_cases hy : y ∈ ids l ∧ y ∉ out
    · obtain ⟨n, h1, h2, h3⟩ := find_of_mem hy.1
      obtain ⟨f, hf, hfo⟩ := nextS_none hn n h2 (by rw [h3]; exact hy.2)
      exact ⟨f, fun _ _ => ⟨⟨n, h1, hf⟩, hfr n h2 f hf, hfo⟩⟩
    · exact ⟨0, fun h1 h2 => absurd ⟨h1, h2⟩ hy⟩
  obtain ⟨g, hg⟩ := Classical.axiomOfChoice hstep
  let p : Nat → Int := fun i => Nat.rec x (fun _ y => g y) i
  have hp : ∀ i, p i ∈ ids l ∧ p i ∉ out := by
    intro i
    induction i with
    | zero => exact ⟨hx, hxo⟩
    | succ i ih => exact (hg (p i) ih.1 ih.2).2
  have hw : ∀ k, Way l p k := fun k i _ => (hg (p i) (hp i).1 (hp i).2).1
  have hnd : ¬ ((List.range 9).map p).Nodup := fun hnd => by
    have := hnd.length_le_of_subset (l₂ := ids l) (fun y hy => by
      obtain ⟨i, -, rfl⟩ := List.mem_map.1 hy
      exact (hp i).1)
    unfold ids at this
    simp at this
    omega
  have hex : ∃ i j, i < j ∧ j < 9 ∧ p i = p j := by
    refine Classical.byContradiction fun hne => hnd ?_
    rw [List.Nodup, List.pairwise_iff_getElem]
    intro i j hi hj hij he
    simp at hi hj
    simp at he
    exact hne ⟨i, j, hij, hj, he⟩
  obtain ⟨i, j, hij, hj, he⟩ := hex
  have ha := (hw 9).above (j - i - 1) i (by omega)
  rw [show i + (j - i - 1) + 1 = j by omega, ← he] at ha
  exact ⟨p i, (hp i).1, above_le (by omega) ha⟩
/-- an order that takes in all: none lies above itself -/
theorem no_cycle {l : List Nd} {out : List Int} (h : Ord l out) (hu : (ids l).Nodup) (hlen : out.length = l.length) : ∀ (k : Nat) (x z : Int) (i : Nat), out[i]? = some x → above l x z k = true → ∃ j, j < i ∧ out[j]? = some z
  | 0, x, z, i, hi, ha => by simp [above] at ha
  | k + 1, x, z, i, hi, ha => by
    obtain ⟨y, ⟨n, h1, h2⟩, h3⟩ := above_succ.1 ha
    obtain ⟨m, hm, hid, hf⟩ := h.dn i x hi
    have hnm : n = m := by
      obtain ⟨n', h4, h5, h6⟩ := find_of_mem (l := l) (x := x) (List.mem_map.2 ⟨m, hm, hid⟩)
      rw [h1] at h4
      cases h4
      obtain ⟨a, ha', e1⟩ := List.mem_iff_getElem.1 h5
      obtain ⟨b, hb', e2⟩ := List.mem_iff_getElem.1 hm
      have hab : a = b := by
        refine Classical.byContradiction fun hne => ?_
        have hp := List.pairwise_iff_getElem.1 hu
        rcases Nat.lt_or_gt_of_ne hne with hlt | hlt
        · refine hp a b (by simpa [ids] using ha') (by simpa [ids] using hb') hlt ?_
          simp [ids, e1, e2, h6, hid]
        · refine hp b a (by simpa [ids] using hb') (by simpa [ids] using ha') hlt ?_
          simp [ids, e1, e2, h6, hid]
      subst hab
      rw [← e1, ← e2]
    subst hnm
    obtain ⟨j, hj, h4⟩ := hf y h2
    rcases h3 with rfl | h3
    · exact ⟨j, hj, h4⟩
    · obtain ⟨j', hj', h5⟩ := no_cycle h hu hlen k y z j h4 h3
      exact ⟨j', by omega, h5⟩
theorem sort_all {l : List Nd} (h8 : l.length ≤ 8) (hu : (ids l).Nodup) (hfr : ∀ n ∈ l, ∀ f ∈ n.frm, f ∈ ids l) : (sortG l (l.length + 1) []).length = l.length ↔ ∀ n ∈ l, above l n.id n.id 9 = false := by
  have ho := sortG_ord (l.length + 1) [] (Ord.nil l)
  have hend := sortG_end (l.length + 1) [] (Ord.nil l) (by simp)
  generalize sortG l (l.length + 1) [] = out at *
  have hin : out.length = l.length → ∀ x ∈ ids l, x ∈ out := by
    intro hlen x hx
    refine Classical.byContradiction fun hxo => ?_
    have := (List.nodup_cons.2 ⟨hxo, ho.nd⟩).length_le_of_subset (l₂ := ids l) (fun y hy => by
      rcases List.mem_cons.1 hy with rfl | h1
      · exact hx
      · exact ho.sub y h1)
    unfold ids at this
    simp at this
    omega
  constructor
  · intro hlen n hn
    cases ha : above l n.id n.id 9 with
    | false => rfl
    | true =>
      exfalso
      obtain ⟨i, hi, e⟩ := List.mem_iff_getElem.1 (hin hlen n.id (List.mem_map.2 ⟨n, hn, rfl⟩))
      obtain ⟨j, hj, e2⟩ := no_cycle ho hu hlen 9 n.id n.id i (by rw [List.getElem?_eq_getElem hi, e]) ha
      have hj' : j < out.length := by omega
      rw [List.getElem?_eq_getElem hj'] at e2
      have := List.pairwise_iff_getElem.1 ho.nd j i hj' hi hj
      exact this (by rw [e]; exact Option.some.inj e2)
  · intro hall
    refine Classical.byContradiction fun hne => ?_
    have hlt : out.length < l.length := by have := ho.le; omega
    have hex : ∃ x ∈ ids l, x ∉ out := by
      refine Classical.byContradiction fun hno => ?_
      have := hu.length_le_of_subset (l₂ := out) (fun x hx => Classical.byContradiction fun hxo => hno ⟨x, hx, hxo⟩)
      unfold ids at this
      simp at this
      omega
    obtain ⟨x, hx, hxo⟩ := hex
    obtain ⟨y, hy, ha⟩ := cycle_of h8 hend hfr hx hxo
    obtain ⟨n, hn, rfl⟩ := List.mem_map.1 hy
    rw [hall n hn] at ha
    cases ha
end Gr

/-! Graphs: what the document calls right, and what the program does: the same. -/
namespace Gr
set_option linter.unusedSimpArgs false
set_option linter.unusedVariables false

/-- a node among others, by the document -/
structure OkR (l : List Nd) (i : Nat) (n : Nd) : Prop where
  id0 : 0 ≤ n.id
  id7 : n.id ≤ 7
  fst : find l n.id = some i
  kd0 : 0 ≤ n.kind
  kd2 : n.kind ≤ 2
  pr1 : 1 ≤ n.par
  pr3 : n.par ≤ 3
  fr3 : n.frm.length ≤ 3
  src : n.id = 0 ↔ n.kind = 0
  rt : ∀ g ∈ n.route, 0 ≤ g ∧ g < n.par
  f0 : n.kind = 0 → n.frm.length = 0
  f1 : n.kind = 1 → n.frm.length = 1
  f2 : n.kind = 2 → n.frm.length ≠ 0
  p1 : n.kind = 1 → Vm.safe n.prog = true
  p0 : n.kind ≠ 1 → n.prog.length = 0
  fr : ∀ k f, n.frm[k]? = some f → (∃ j m, find l f = some j ∧ l[j]? = some m ∧ m.kind ≠ 2) ∧ f ∉ n.frm.take k
/-- .. and a graph -/
structure RightR (l : List Nd) : Prop where
  len : l.length ≤ 8
  ok : ∀ i n, l[i]? = some n → OkR l i n
  one : l.countP (fun n => n.kind == 0) = 1
  ac : ∀ n ∈ l, above l n.id n.id 9 = false
/-- a node among others, by the program -/
structure OkP (l : List Nd) (n : Nd) : Prop where
  id0 : 0 ≤ n.id
  id7 : n.id < 8
  kd : (n.kind = 0 ∧ n.id = 0 ∧ n.frm.length = 0 ∧ n.prog.length = 0) ∨ (n.kind = 1 ∧ n.id ≠ 0 ∧ n.frm.length = 1 ∧ Vm.safe n.prog = true) ∨ (n.kind = 2 ∧ n.id ≠ 0 ∧ 1 ≤ n.frm.length ∧ n.frm.length ≤ 3 ∧ n.frm.Nodup ∧ n.prog.length = 0)
  pr1 : 1 ≤ n.par
  pr3 : n.par ≤ 3
  rt : ∀ g ∈ n.route, 0 ≤ g ∧ g < n.par
  fr : ∀ f ∈ n.frm, ∃ j m, find l f = some j ∧ l[j]? = some m ∧ m.kind ≠ 2
structure RightP (l l' : List Nd) : Prop where
  len : l.length ≤ 8
  ok : ∀ n ∈ l, OkP l n
  un : (ids l).Nodup
  z : (0 : Int) ∈ ids l
  so : (sortG l' (l'.length + 1) []).length = l.length

theorem perm_ids {l l' : List Nd} (hp : l.Perm l') : (ids l).Perm (ids l') := hp.map _
theorem nodup_take {l : List Int} : l.Nodup ↔ ∀ k f, l[k]? = some f → f ∉ l.take k := by
  rw [List.Nodup, List.pairwise_iff_getElem]
  constructor
  · intro h k f hk hf
    obtain ⟨j, hj, e⟩ := List.mem_iff_getElem.1 hf
    rw [List.length_take] at hj
    rw [List.getElem_take] at e
    obtain ⟨hk', e2⟩ := List.getElem?_eq_some_iff.1 hk
    exact h j k (by omega) hk' (by omega) (by rw [e, e2])
  · intro h i j hi hj hij he
    refine h j l[j] (List.getElem?_eq_getElem hj) ?_
    rw [← he]
    exact List.mem_iff_getElem.2 ⟨i, by rw [List.length_take]; omega, by rw [List.getElem_take]⟩
theorem find_some {l : List Nd} {x : Int} {j : Nat} (h : find l x = some j) : ∃ m, l[j]? = some m ∧ m.id = x := by
  unfold find at h
  obtain ⟨hi, h1, -⟩ := List.findIdx?_eq_some_iff_getElem.1 h
  exact ⟨l[j], List.getElem?_eq_getElem hi, by simpa using h1⟩
/-- each is the first of its number: the numbers are unlike -/
theorem ids_nodup {l : List Nd} : (∀ i n, l[i]? = some n → find l n.id = some i) ↔ (ids l).Nodup := by
  rw [List.Nodup, List.pairwise_iff_getElem]
  constructor
  · intro h i j hi hj hij he
    have hi' : i < l.length := by simpa [ids] using hi
    have hj' : j < l.length := by simpa [ids] using hj
    have h1 := h i l[i] (List.getElem?_eq_getElem hi')
    have h2 := h j l[j] (List.getElem?_eq_getElem hj')
    simp [ids] at he
    rw [he, h2] at h1
    have := Option.some.inj h1
    omega
  · intro h i n hn
    obtain ⟨hi, e⟩ := List.getElem?_eq_some_iff.1 hn
    unfold find
    refine List.findIdx?_eq_some_iff_getElem.2 ⟨hi, by simp [e], fun j hji => ?_⟩
    have := h j i (by simp [ids]; omega) (by simp [ids]; omega) hji
    simp [ids, e] at this
    simpa using this
theorem bind_find {l : List Nd} (hu : (ids l).Nodup) {n : Nd} (hn : n ∈ l) : ((find l n.id).bind fun i => l[i]?) = some n := by
  obtain ⟨i, hi, e⟩ := List.mem_iff_getElem.1 hn
  have h1 := ids_nodup.2 hu i n (by rw [List.getElem?_eq_getElem hi, e])
  rw [h1, Option.bind_some, List.getElem?_eq_getElem hi, e]
theorem bind_perm {l l' : List Nd} (hp : l.Perm l') (hu : (ids l).Nodup) (x : Int) : ((find l x).bind fun i => l[i]?) = ((find l' x).bind fun i => l'[i]?) := by
  have hu' : (ids l').Nodup := (perm_ids hp).nodup_iff.1 hu
  by_cases h : x ∈ ids l
  · obtain ⟨n, hn, rfl⟩ := List.mem_map.1 h
    rw [bind_find hu hn, bind_find hu' (hp.mem_iff.1 hn)]
  · have h' : x ∉ ids l' := fun q => h ((perm_ids hp).mem_iff.2 q)
    have hno : ∀ (l : List Nd), x ∉ ids l → find l x = none := fun l hl => by
      unfold find
      rw [List.findIdx?_eq_none_iff]
      intro n hn
      have : n.id ≠ x := fun e => hl (List.mem_map.2 ⟨n, hn, e⟩)
      simpa using this
    rw [hno l h, hno l' h']
    rfl
theorem above_perm {l l' : List Nd} (hp : l.Perm l') (hu : (ids l).Nodup) : ∀ (k : Nat) (x z : Int), above l x z k = above l' x z k
  | 0, x, z => rfl
  | k + 1, x, z => by
    rw [above, above, bind_perm hp hu x]
    cases (find l' x).bind fun i => l'[i]? with
    | none => rfl
    | some n =>
      simp only
      congr 1
      funext f
      rw [above_perm hp hu k f z]
theorem zero_one {l : List Nd} (hu : (ids l).Nodup) (hs : ∀ n ∈ l, n.id = 0 ↔ n.kind = 0) : l.countP (fun n => n.kind == 0) = 1 ↔ (0 : Int) ∈ ids l := by
  have h1 : l.countP (fun n => n.kind == 0) = (ids l).count 0 := by
    unfold ids
    rw [List.count, List.countP_map]
    refine List.countP_congr fun n hn => ?_
    have := hs n hn
    simp only [Function.comp, beq_iff_eq]
    exact this.symm
  rw [h1]
  constructor
  · intro h
    exact List.count_pos_iff.1 (by omega)
  · intro h
    have h2 := List.count_pos_iff.2 h
    have h3 := List.nodup_iff_count.1 hu 0
    omega
theorem mem_ids_of_find {l : List Nd} {f : Int} {j : Nat} (h : find l f = some j) : f ∈ ids l := by
  obtain ⟨m, hm, e⟩ := find_some h
  exact List.mem_map.2 ⟨m, List.mem_of_getElem? hm, e⟩
/-- THE LAW: what the program calls right is what the document calls so. -/
theorem right_iff {l l' : List Nd} (hp : l.Perm l') : RightR l ↔ RightP l l' := by
  constructor
  · intro h
    have hu : (ids l).Nodup := ids_nodup.1 fun i n hn => (h.ok i n hn).fst
    have hok : ∀ n ∈ l, ∃ i, OkR l i n := fun n hn => by
      obtain ⟨i, hi, e⟩ := List.mem_iff_getElem.1 hn
      exact ⟨i, h.ok i n (by rw [List.getElem?_eq_getElem hi, e])⟩
    have hfr : ∀ n ∈ l, ∀ f ∈ n.frm, ∃ j m, find l f = some j ∧ l[j]? = some m ∧ m.kind ≠ 2 := fun n hn f hf => by
      obtain ⟨i, hr⟩ := hok n hn
      obtain ⟨k, hk, e⟩ := List.mem_iff_getElem.1 hf
      exact (hr.fr k f (by rw [List.getElem?_eq_getElem hk, e])).1
    refine ⟨h.len, fun n hn => ?_, hu, (zero_one hu fun n hn => (hok n hn).elim fun i hr => hr.src).1 h.one, ?_⟩
    · obtain ⟨i, hr⟩ := hok n hn
      refine ⟨hr.id0, by have := hr.id7; omega, ?_, hr.pr1, hr.pr3, hr.rt, hfr n hn⟩
      have hk0 := hr.kd0
      have hk2 := hr.kd2
      have hs := hr.src
      rcases (show n.kind = 0 ∨ n.kind = 1 ∨ n.kind = 2 by omega) with e | e | e
      · exact .inl ⟨e, hs.2 e, hr.f0 e, hr.p0 (by omega)⟩
      · exact .inr (.inl ⟨e, fun q => by have := hs.1 q; omega, hr.f1 e, hr.p1 e⟩)
      · exact .inr (.inr ⟨e, fun q => by have := hs.1 q; omega, by have := hr.f2 e; omega, hr.fr3, nodup_take.2 fun k f hk => (hr.fr k f hk).2, hr.p0 (by omega)⟩)
    · rw [hp.length_eq]
      refine (sort_all (by rw [← hp.length_eq]; exact h.len) ((perm_ids hp).nodup_iff.1 hu) (fun n hn f hf => ?_)).2 fun n hn => ?_
      · obtain ⟨j, m, h1, _⟩ := hfr n (hp.mem_iff.2 hn) f hf
        exact (perm_ids hp).mem_iff.1 (mem_ids_of_find h1)
      · rw [← above_perm hp hu]
        exact h.ac n (hp.mem_iff.2 hn)
  · intro h
    have hu := h.un
    refine ⟨h.len, fun i n hn => ?_, (zero_one hu fun n hn => ?_).2 h.z, fun n hn => ?_⟩
    · have hr := h.ok n (List.mem_of_getElem? hn)
      have hkd := hr.kd
      refine ⟨hr.id0, by have := hr.id7; omega, ids_nodup.2 hu i n hn, by omega, by omega, hr.pr1, hr.pr3, by omega, by omega, hr.rt, by omega, by omega, by omega, ?_, by omega, fun k f hk => ⟨hr.fr f (List.mem_of_getElem? hk), ?_⟩⟩
      · intro e
        rcases hkd with h1 | h1 | h1
        · omega
        · exact h1.2.2.2
        · omega
      · have hnd : n.frm.Nodup := by
          rcases hkd with h1 | h1 | h1
          · rw [List.length_eq_zero_iff.1 h1.2.2.1]; exact List.nodup_nil
          · obtain ⟨a, e⟩ := List.length_eq_one_iff.1 h1.2.2.1
            rw [e]; simp
          · exact h1.2.2.2.2.1
        exact nodup_take.1 hnd k f hk
    · have hkd := (h.ok n hn).kd
      omega
    · rw [above_perm hp hu]
      refine (sort_all (l := l') (by rw [← hp.length_eq]; exact h.len) ((perm_ids hp).nodup_iff.1 hu) (fun n hn f hf => ?_)).1 (h.so.trans hp.length_eq) n (hp.mem_iff.1 hn)
      obtain ⟨j, m, h1, _⟩ := (h.ok n (hp.mem_iff.2 hn)).fr f hf
      exact (perm_ids hp).mem_iff.1 (mem_ids_of_find h1)
end Gr

/-! Graphs: the nodes by their numbers: whatever sorts them makes the list that the document writes. -/
namespace Gr
set_option linter.unusedSimpArgs false
set_option linter.unusedVariables false

def nodeOf (l : List Nd) (x : Int) : Option Nd := (find l x).bind fun i => l[i]?
theorem nodeOf_some {l : List Nd} {x : Int} {n : Nd} (h : nodeOf l x = some n) : n ∈ l ∧ n.id = x := by
  unfold nodeOf at h
  cases hf : find l x with
  | none => rw [hf] at h; cases h
  | some i =>
    rw [hf] at h
    obtain ⟨m, hm, e⟩ := find_some hf
    rw [Option.bind_some, hm] at h
    cases h
    exact ⟨List.mem_of_getElem? hm, e⟩
/-- the nodes by numbers -/
def normG (l : List Nd) : List Nd := (List.range 8).filterMap fun (i : Nat) => nodeOf l (i : Int)
theorem normG_sorted (l : List Nd) : (normG l).Pairwise fun a b => a.id < b.id := by
  unfold normG
  refine List.Pairwise.filterMap (R := fun a b => a < b) _ (fun a a' hlt b hb b' hb' => ?_) List.pairwise_lt_range
  rw [(nodeOf_some hb).2, (nodeOf_some hb').2]
  omega
theorem normG_mem {l : List Nd} (hu : (ids l).Nodup) (h7 : ∀ n ∈ l, 0 ≤ n.id ∧ n.id ≤ 7) (n : Nd) : n ∈ normG l ↔ n ∈ l := by
  unfold normG
  rw [List.mem_filterMap]
  constructor
  · rintro ⟨i, -, h⟩
    exact (nodeOf_some h).1
  · intro h
    have := h7 n h
    refine ⟨n.id.toNat, List.mem_range.2 (by omega), ?_⟩
    rw [Int.toNat_of_nonneg this.1]
    exact bind_find hu h
theorem nodup_of_ids {l : List Nd} (hu : (ids l).Nodup) : l.Nodup := by
  unfold ids at hu
  rw [List.Nodup, List.pairwise_map] at hu
  exact hu.imp fun h e => h (by rw [e])
theorem normG_perm {l : List Nd} (hu : (ids l).Nodup) (h7 : ∀ n ∈ l, 0 ≤ n.id ∧ n.id ≤ 7) : (normG l).Perm l :=
  (List.perm_ext_iff_of_nodup ((normG_sorted l).imp fun h e => by rw [e] at h; omega) (nodup_of_ids hu)).2 (normG_mem hu h7)
/-- whatever sorts them -/
theorem norm_unique {l l' : List Nd} (hp : l'.Perm l) (hs : l'.Pairwise fun a b => a.id ≤ b.id) (hu : (ids l).Nodup) (h7 : ∀ n ∈ l, 0 ≤ n.id ∧ n.id ≤ 7) : l' = normG l := by
  have hp2 : l'.Perm (normG l) := hp.trans (normG_perm hu h7).symm
  refine List.Perm.eq_of_pairwise (le := fun a b => a.id ≤ b.id) (fun a b ha hb h1 h2 => ?_) hs ((normG_sorted l).imp fun h => by omega) hp2
  have e : a.id = b.id := by omega
  have ha' := hp.mem_iff.1 ha
  have hb' := (normG_mem hu h7 b).1 hb
  have h3 := bind_find hu ha'
  have h4 := bind_find hu hb'
  rw [e, h4] at h3
  exact (Option.some.inj h3).symm
end Gr

/-! Numbers as four bytes: plain laws. -/
namespace Oc
set_option linter.unusedSimpArgs false
set_option linter.unusedVariables false

def fitsN (n : Int) : Bool := decide (-2147483648 ≤ n) && decide (n ≤ 2147483647)
/-- a number's bytes -/
def be (n : Int) : List UInt8 := [UInt8.ofNat (n % 4294967296 / 16777216).toNat, UInt8.ofNat (n % 4294967296 / 65536 % 256).toNat, UInt8.ofNat (n % 4294967296 / 256 % 256).toNat, UInt8.ofNat (n % 4294967296 % 256).toNat]
def bes (l : List Int) : List UInt8 := l.flatMap be
/-- the number with which bytes begin -/
def raw : List UInt8 → Int
  | a :: b :: c :: d :: _ => ((a.toNat * 256 + b.toNat) * 256 + c.toNat) * 256 + d.toNat
  | _ => 0
def num (l : List UInt8) : Int := if 2147483648 ≤ raw l then raw l - 4294967296 else raw l

theorem be_len (n : Int) : (be n).length = 4 := rfl
theorem bes_len : ∀ (l : List Int), (bes l).length = l.length * 4
  | [] => rfl
  | n :: l => by unfold bes; rw [List.flatMap_cons, List.length_append, be_len]; have := bes_len l; unfold bes at this; rw [this]; simp; omega
theorem raw_be (n : Int) (t : List UInt8) : raw (be n ++ t) = n % 4294967296 := by
  unfold be raw
  simp only [List.cons_append]
  have h0 : 0 ≤ n % 4294967296 := Int.emod_nonneg _ (by decide)
  have h1 : n % 4294967296 < 4294967296 := Int.emod_lt_of_pos _ (by decide)
  generalize n % 4294967296 = u at *
  simp only [UInt8.toNat_ofNat']
  omega
theorem num_be (n : Int) (h : fitsN n = true) (t : List UInt8) : num (be n ++ t) = n := by
  unfold fitsN at h
  simp only [Bool.and_eq_true, decide_eq_true_eq] at h
  unfold num
  rw [raw_be]
  split <;> omega
theorem raw4 (a b c d : UInt8) (t : List UInt8) : raw (a :: b :: c :: d :: t) = ((a.toNat * 256 + b.toNat) * 256 + c.toNat) * 256 + d.toNat := rfl
theorem raw_range : ∀ (l : List UInt8), 0 ≤ raw l ∧ raw l < 4294967296
  | a :: b :: c :: d :: _ => by
    have := a.toNat_lt; have := b.toNat_lt; have := c.toNat_lt; have := d.toNat_lt
    rw [raw4]; omega
  | [] => ⟨Int.le_refl _, (by decide : (0 : Int) < 4294967296)⟩
  | [_] => ⟨Int.le_refl _, (by decide : (0 : Int) < 4294967296)⟩
  | [_, _] => ⟨Int.le_refl _, (by decide : (0 : Int) < 4294967296)⟩
  | [_, _, _] => ⟨Int.le_refl _, (by decide : (0 : Int) < 4294967296)⟩
theorem num_range (l : List UInt8) : -2147483648 ≤ num l ∧ num l ≤ 2147483647 := by
  have := raw_range l
  unfold num
  split <;> omega
/-- four bytes are those of the number that they are -/
theorem be_num (a b c d : UInt8) (t : List UInt8) : be (num (a :: b :: c :: d :: t)) = [a, b, c, d] := by
  have ha := a.toNat_lt; have hb := b.toNat_lt; have hc := c.toNat_lt; have hd := d.toNat_lt
  have hu : num (a :: b :: c :: d :: t) % 4294967296 = ((a.toNat * 256 + b.toNat) * 256 + c.toNat) * 256 + d.toNat := by
    unfold num
    rw [raw4]
    split <;> omega
  unfold be
  rw [hu]
  have e : ∀ (x : UInt8) (z : Int), z = x.toNat → UInt8.ofNat z.toNat = x := by
    rintro x z rfl
    rw [Int.toNat_natCast]
    apply UInt8.toNat_inj.1
    rw [UInt8.toNat_ofNat']
    exact Nat.mod_eq_of_lt x.toNat_lt
  rw [e a _ (by omega), e b _ (by omega), e c _ (by omega), e d _ (by omega)]
/-- as the loop of four rounds reckons it -/
def part (l : List UInt8) (k : Nat) : Int := (l.take k).foldl (fun u c => u * 256 + (c.toNat : Int)) 0
theorem part_succ (l : List UInt8) (k : Nat) (x : UInt8) (h : l[k]? = some x) : part l (k + 1) = part l k * 256 + x.toNat := by
  have hk := (List.getElem?_eq_some_iff.1 h).1
  have hx : l[k] = x := (List.getElem?_eq_some_iff.1 h).2
  unfold part
  rw [List.take_succ_eq_append_getElem hk, List.foldl_append, hx]; rfl
theorem part_range (l : List UInt8) : ∀ (k : Nat), k ≤ 4 → 0 ≤ part l k ∧ part l k < 256 ^ k
  | 0, _ => by simp [part]
  | k + 1, h => by
    have ih := part_range l k (by omega)
    cases hx : l[k]? with
    | none =>
      have : part l (k + 1) = part l k := by
        unfold part
        have hl := List.getElem?_eq_none_iff.1 hx
        rw [List.take_of_length_le (by omega), List.take_of_length_le hl]
      rw [this]
      have : (256 : Int) ^ (k + 1) = 256 ^ k * 256 := Int.pow_succ ..
      omega
    | some x =>
      rw [part_succ l k x hx]
      have := x.toNat_lt
      have : (256 : Int) ^ (k + 1) = 256 ^ k * 256 := Int.pow_succ ..
      omega
theorem part_raw : ∀ (l : List UInt8), 4 ≤ l.length → part l 4 = raw l
  | a :: b :: c :: d :: t, _ => by simp [part, raw]
  | [], h => by simp at h
  | [_], h => by simp at h
  | [_, _], h => by simp at h
  | [_, _, _], h => by simp at h
theorem bes_append (l m : List Int) : bes (l ++ m) = bes l ++ bes m := by unfold bes; rw [List.flatMap_append]
theorem bes_succ (l : List Int) (k : Nat) (h : k < l.length) : bes (l.take (k + 1)) = bes (l.take k) ++ be l[k] := by
  rw [List.take_succ_eq_append_getElem h, bes_append]
  have : bes [l[k]] = be l[k] := by unfold bes; simp
  rw [this]
end Oc
