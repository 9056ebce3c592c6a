import Derived.Test.YtmdmbimfdpngaaaGreatDoorMp7
import Derived.Test.YtmdmbimfdpngaaaGreatDoorMp3
/-! Graphs: an order that takes in all nodes is there just if none lies above itself: plain laws. -/
namespace Gr
set_option linter.unusedSimpArgs false
set_option linter.unusedVariables false

structure Nd where
  id : Int
  kind : Int
  frm : List Int
  prog : List Vm.Ins
  par : Int
  route : List Int
def find (l : List Nd) (id : Int) : Option Nat := l.findIdx? fun n => n.id == id
/-- the document's: can 'to' be come to, up by From, in so many steps? -/
def above (l : List Nd) (fr to : Int) : Nat → Bool
  | 0 => false
  | k + 1 => match (find l fr).bind fun i => l[i]? with
    | none => false
    | some n => n.frm.any fun f => f == to || above l f to k
def Edge (l : List Nd) (x y : Int) : Prop := ∃ n, ((find l x).bind fun i => l[i]?) = some n ∧ y ∈ n.frm
theorem above_succ {l : List Nd} {x z : Int} {k : Nat} : above l x z (k + 1) = true ↔ ∃ y, Edge l x y ∧ (y = z ∨ above l y z k = true) := by
  rw [above]
  cases h : (find l x).bind fun i => l[i]? with
  | none =>
    refine ⟨fun h2 => by simp at h2, ?_⟩
    rintro ⟨y, ⟨n, hn, _⟩, _⟩
    rw [h] at hn
    cases hn
  | some n =>
    simp only [List.any_eq_true, Bool.or_eq_true, beq_iff_eq]
    constructor
    · rintro ⟨y, hy, h2⟩
      exact ⟨y, ⟨n, h, hy⟩, h2⟩
    · rintro ⟨y, ⟨m, hm, hy⟩, h2⟩
      rw [h] at hm
      cases hm
      exact ⟨y, hy, h2⟩
theorem above_mono {l : List Nd} : ∀ (k : Nat) {x z : Int}, above l x z k = true → above l x z (k + 1) = true
  | 0, x, z, h => by simp [above] at h
  | k + 1, x, z, h => by
    obtain ⟨y, hy, h2⟩ := above_succ.1 h
    exact above_succ.2 ⟨y, hy, h2.imp id fun h3 => above_mono k h3⟩
theorem above_le {l : List Nd} {x z : Int} {j k : Nat} (h : j ≤ k) (ha : above l x z j = true) : above l x z k = true := by
  induction k with
  | zero => rw [show j = 0 by omega] at ha; exact ha
  | succ k ih =>
    rcases Nat.lt_or_ge k j with h1 | h1
    · rw [show k + 1 = j by omega]; exact ha
    · exact above_mono k (ih h1)
/-- a way of edges -/
def Way (l : List Nd) (p : Nat → Int) (k : Nat) : Prop := ∀ i, i < k → Edge l (p i) (p (i + 1))
theorem Way.above {l : List Nd} {p : Nat → Int} {k : Nat} (h : Way l p k) : ∀ (d i : Nat), i + d + 1 ≤ k → above l (p i) (p (i + d + 1)) (d + 1) = true
  | 0, i, hk => above_succ.2 ⟨_, h i (by omega), .inl rfl⟩
  | d + 1, i, hk => by
    have := Way.above h d (i + 1) (by omega)
    rw [show i + 1 + d + 1 = i + (d + 1) + 1 by omega] at this
    exact above_succ.2 ⟨_, h i (by omega), .inr this⟩

/-- the program's order -/
def nextS (l : List Nd) (out : List Int) : Option Int := (l.find? fun n => !out.contains n.id && n.frm.all fun f => out.contains f).map (·.id)
def sortG (l : List Nd) : Nat → List Int → List Int
  | 0, out => out
  | k + 1, out => match nextS l out with
    | none => out
    | some id => sortG l k (out ++ [id])
def ids (l : List Nd) : List Int := l.map (·.id)
/-- what holds of an order as far as it goes -/
structure Ord (l : List Nd) (out : List Int) : Prop where
  nd : out.Nodup
  sub : ∀ x ∈ out, x ∈ ids l
  dn : ∀ (i : Nat) (x : Int), out[i]? = some x → ∃ n ∈ l, n.id = x ∧ ∀ f ∈ n.frm, ∃ j, j < i ∧ out[j]? = some f
theorem Ord.nil (l : List Nd) : Ord l [] := ⟨List.nodup_nil, fun x hx => (by cases hx), fun i x h => by simp at h⟩
theorem nextS_some {l : List Nd} {out : List Int} {x : Int} (h : nextS l out = some x) : ∃ n ∈ l, n.id = x ∧ x ∉ out ∧ ∀ f ∈ n.frm, f ∈ out := by
  unfold nextS at h
  rw [Option.map_eq_some_iff] at h
  obtain ⟨n, hn, rfl⟩ := h
  have h1 := List.find?_some hn
  have h2 := List.mem_of_find?_eq_some hn
  simp only [Bool.and_eq_true, Bool.not_eq_true', List.all_eq_true, List.contains_eq_mem, decide_eq_false_iff_not, decide_eq_true_eq] at h1
  exact ⟨n, h2, rfl, h1.1, h1.2⟩
theorem nextS_none {l : List Nd} {out : List Int} (h : nextS l out = none) : ∀ n ∈ l, n.id ∉ out → ∃ f ∈ n.frm, f ∉ out := by
  intro n hn hout
  unfold nextS at h
  rw [Option.map_eq_none_iff, List.find?_eq_none] at h
  have h1 := h n hn
  simp only [Bool.and_eq_true, Bool.not_eq_true', List.contains_eq_mem, decide_eq_false_iff_not, List.all_eq_true, decide_eq_true_eq, not_and, Classical.not_forall] at h1
  obtain ⟨f, hf, h2⟩ := h1 hout
  exact ⟨f, hf, h2⟩
theorem Ord.step {l : List Nd} {out : List Int} (h : Ord l out) {x : Int} (hx : nextS l out = some x) : Ord l (out ++ [x]) := by
  obtain ⟨n, hn, rfl, hno, hall⟩ := nextS_some hx
  refine ⟨List.nodup_append.2 ⟨h.nd, by simp, fun a ha b hb => ?_⟩, fun x hx => ?_, fun i x hi => ?_⟩
  · rw [List.mem_singleton] at hb
    subst hb
    rintro rfl
    exact hno ha
  · rcases List.mem_append.1 hx with h1 | h1
    · exact h.sub x h1
    · rw [List.mem_singleton] at h1
      subst h1
      exact List.mem_map.2 ⟨n, hn, rfl⟩
  · rcases Nat.lt_or_ge i out.length with h1 | h1
    · rw [List.getElem?_append_left h1] at hi
      obtain ⟨m, hm, hid, hf⟩ := h.dn i x hi
      refine ⟨m, hm, hid, fun f hff => ?_⟩
      obtain ⟨j, hj, h2⟩ := hf f hff
      exact ⟨j, hj, by rw [List.getElem?_append_left (by omega)]; exact h2⟩
    · rw [List.getElem?_append_right h1] at hi
      have hi0 : i - out.length = 0 := by
        rcases Nat.eq_zero_or_pos (i - out.length) with h2 | h2
        · exact h2
        · rw [List.getElem?_eq_none (by simp; omega)] at hi
          cases hi
      rw [hi0] at hi
      simp at hi
      refine ⟨n, hn, hi, fun f hff => ?_⟩
      obtain ⟨j, hj, h2⟩ := List.mem_iff_getElem.1 (hall f hff)
      exact ⟨j, by omega, by rw [List.getElem?_append_left hj, List.getElem?_eq_getElem hj, h2]⟩
theorem Ord.le {l : List Nd} {out : List Int} (h : Ord l out) : out.length ≤ l.length := by
  have := h.nd.length_le_of_subset h.sub
  unfold ids at this
  rwa [List.length_map] at this
theorem sortG_ord {l : List Nd} : ∀ (k : Nat) (out : List Int), Ord l out → Ord l (sortG l k out)
  | 0, out, h => h
  | k + 1, out, h => by
    rw [sortG]
    cases hn : nextS l out with
    | none => exact h
    | some x => exact sortG_ord k _ (h.step hn)
theorem sortG_end {l : List Nd} : ∀ (k : Nat) (out : List Int), Ord l out → l.length < k + out.length → nextS l (sortG l k out) = none
  | 0, out, h, hk => by have := h.le; omega
  | k + 1, out, h, hk => by
    rw [sortG]
    cases hn : nextS l out with
    | none => exact hn
    | some x => exact sortG_end k _ (h.step hn) (by rw [List.length_append]; simp; omega)

theorem find_of_mem {l : List Nd} {x : Int} (h : x ∈ ids l) : ∃ n, ((find l x).bind fun i => l[i]?) = some n ∧ n ∈ l ∧ n.id = x := by
  obtain ⟨n, hn, rfl⟩ := List.mem_map.1 h
  cases hf : find l n.id with
  | none =>
    unfold find at hf
    rw [List.findIdx?_eq_none_iff] at hf
    have := hf n hn
    simp at this
  | some i =>
    have hf2 := hf
    unfold find at hf
    obtain ⟨hi, h1, -⟩ := List.findIdx?_eq_some_iff_getElem.1 hf
    exact ⟨l[i], by simp [List.getElem?_eq_getElem hi], List.getElem_mem hi, by simpa using h1⟩
/-- no order takes in all: then one lies above itself -/
theorem cycle_of {l : List Nd} {out : List Int} (h8 : l.length ≤ 8) (hn : nextS l out = none) (hfr : ∀ n ∈ l, ∀ f ∈ n.frm, f ∈ ids l) {x : Int} (hx : x ∈ ids l) (hxo : x ∉ out) : ∃ y ∈ ids l, above l y y 9 = true := by
  have hstep : ∀ y : Int, ∃ z : Int, y ∈ ids l → y ∉ out → Edge l y z ∧ z ∈ ids l ∧ z ∉ out := by
    intro y
    by_cases hy : y ∈ ids l ∧ y ∉ out
    · obtain ⟨n, h1, h2, h3⟩ := find_of_mem hy.1
      obtain ⟨f, hf, hfo⟩ := nextS_none hn n h2 (by rw [h3]; exact hy.2)
      exact ⟨f, fun _ _ => ⟨⟨n, h1, hf⟩, hfr n h2 f hf, hfo⟩⟩
    · exact ⟨0, fun h1 h2 => absurd ⟨h1, h2⟩ hy⟩
  obtain ⟨g, hg⟩ := Classical.axiomOfChoice hstep
  let p : Nat → Int := fun i => Nat.rec x (fun _ y => g y) i
  have hp : ∀ i, p i ∈ ids l ∧ p i ∉ out := by
    intro i
    induction i with
    | zero => exact ⟨hx, hxo⟩
    | succ i ih => exact (hg (p i) ih.1 ih.2).2
  have hw : ∀ k, Way l p k := fun k i _ => (hg (p i) (hp i).1 (hp i).2).1
  have hnd : ¬ ((List.range 9).map p).Nodup := fun hnd => by
    have := hnd.length_le_of_subset (l₂ := ids l) (fun y hy => by
      obtain ⟨i, -, rfl⟩ := List.mem_map.1 hy
      exact (hp i).1)
    unfold ids at this
    simp at this
    omega
  have hex : ∃ i j, i < j ∧ j < 9 ∧ p i = p j := by
    refine Classical.byContradiction fun hne => hnd ?_
    rw [List.Nodup, List.pairwise_iff_getElem]
    intro i j hi hj hij he
    simp at hi hj
    simp at he
    exact hne ⟨i, j, hij, hj, he⟩
  obtain ⟨i, j, hij, hj, he⟩ := hex
  have ha := (hw 9).above (j - i - 1) i (by omega)
  rw [show i + (j - i - 1) + 1 = j by omega, ← he] at ha
  exact ⟨p i, (hp i).1, above_le (by omega) ha⟩
/-- an order that takes in all: none lies above itself -/
theorem no_cycle {l : List Nd} {out : List Int} (h : Ord l out) (hu : (ids l).Nodup) (hlen : out.length = l.length) : ∀ (k : Nat) (x z : Int) (i : Nat), out[i]? = some x → above l x z k = true → ∃ j, j < i ∧ out[j]? = some z
  | 0, x, z, i, hi, ha => by simp [above] at ha
  | k + 1, x, z, i, hi, ha => by
    obtain ⟨y, ⟨n, h1, h2⟩, h3⟩ := above_succ.1 ha
    obtain ⟨m, hm, hid, hf⟩ := h.dn i x hi
    have hnm : n = m := by
      obtain ⟨n', h4, h5, h6⟩ := find_of_mem (l := l) (x := x) (List.mem_map.2 ⟨m, hm, hid⟩)
      rw [h1] at h4
      cases h4
      obtain ⟨a, ha', e1⟩ := List.mem_iff_getElem.1 h5
      obtain ⟨b, hb', e2⟩ := List.mem_iff_getElem.1 hm
      have hab : a = b := by
        refine Classical.byContradiction fun hne => ?_
        have hp := List.pairwise_iff_getElem.1 hu
        rcases Nat.lt_or_gt_of_ne hne with hlt | hlt
        · refine hp a b (by simpa [ids] using ha') (by simpa [ids] using hb') hlt ?_
          simp [ids, e1, e2, h6, hid]
        · refine hp b a (by simpa [ids] using hb') (by simpa [ids] using ha') hlt ?_
          simp [ids, e1, e2, h6, hid]
      subst hab
      rw [← e1, ← e2]
    subst hnm
    obtain ⟨j, hj, h4⟩ := hf y h2
    rcases h3 with rfl | h3
    · exact ⟨j, hj, h4⟩
    · obtain ⟨j', hj', h5⟩ := no_cycle h hu hlen k y z j h4 h3
      exact ⟨j', by omega, h5⟩
theorem sort_all {l : List Nd} (h8 : l.length ≤ 8) (hu : (ids l).Nodup) (hfr : ∀ n ∈ l, ∀ f ∈ n.frm, f ∈ ids l) : (sortG l (l.length + 1) []).length = l.length ↔ ∀ n ∈ l, above l n.id n.id 9 = false := by
  have ho := sortG_ord (l.length + 1) [] (Ord.nil l)
  have hend := sortG_end (l.length + 1) [] (Ord.nil l) (by simp)
  generalize sortG l (l.length + 1) [] = out at *
  have hin : out.length = l.length → ∀ x ∈ ids l, x ∈ out := by
    intro hlen x hx
    refine Classical.byContradiction fun hxo => ?_
    have := (List.nodup_cons.2 ⟨hxo, ho.nd⟩).length_le_of_subset (l₂ := ids l) (fun y hy => by
      rcases List.mem_cons.1 hy with rfl | h1
      · exact hx
      · exact ho.sub y h1)
    unfold ids at this
    simp at this
    omega
  constructor
  · intro hlen n hn
    cases ha : above l n.id n.id 9 with
    | false => rfl
    | true =>
      exfalso
      obtain ⟨i, hi, e⟩ := List.mem_iff_getElem.1 (hin hlen n.id (List.mem_map.2 ⟨n, hn, rfl⟩))
      obtain ⟨j, hj, e2⟩ := no_cycle ho hu hlen 9 n.id n.id i (by rw [List.getElem?_eq_getElem hi, e]) ha
      have hj' : j < out.length := by omega
      rw [List.getElem?_eq_getElem hj'] at e2
      have := List.pairwise_iff_getElem.1 ho.nd j i hj' hi hj
      exact this (by rw [e]; exact Option.some.inj e2)
  · intro hall
    refine Classical.byContradiction fun hne => ?_
    have hlt : out.length < l.length := by have := ho.le; omega
    have hex : ∃ x ∈ ids l, x ∉ out := by
      refine Classical.byContradiction fun hno => ?_
      have := hu.length_le_of_subset (l₂ := out) (fun x hx => Classical.byContradiction fun hxo => hno ⟨x, hx, hxo⟩)
      unfold ids at this
      simp at this
      omega
    obtain ⟨x, hx, hxo⟩ := hex
    obtain ⟨y, hy, ha⟩ := cycle_of h8 hend hfr hx hxo
    obtain ⟨n, hn, rfl⟩ := List.mem_map.1 hy
    rw [hall n hn] at ha
    cases ha
end Gr

/-! Nodes in memory: thirteen cells each, two slices among them. -/
namespace Go.Proofs.YtmdmbimfdpngaaaGreatDoor
set_option linter.unusedSimpArgs false
set_option linter.unusedVariables false
open Go.RowKit Ga
set_option maxRecDepth 100000

abbrev IntsAt (w : World) (v : Value) (l : List Int) : Prop := RowsAt 1 (fun x => [Value.int .i64 x]) w v l
/-- a node as it lies: its slices are values -/
structure NdC where
  id : Int
  kind : Int
  af : Option Addr
  nf : Nat
  cf : Nat
  ap : Option Addr
  np : Nat
  cp : Nat
  par : Int
  r0 : Int
  r1 : Int
  r2 : Int
  r3 : Int
  r4 : Int
  r5 : Int
  r6 : Int
  r7 : Int
instance : Inhabited NdC := ⟨⟨0, 0, none, 0, 0, none, 0, 0, 0, 0, 0, 0, 0, 0, 0, 0, 0⟩⟩
abbrev NdC.vf (c : NdC) : Value := .slice c.af c.nf c.cf
abbrev NdC.vp (c : NdC) : Value := .slice c.ap c.np c.cp
def encNd (n : NdC) : List Value := [.int .i64 n.id, .int .i64 n.kind, .slice n.af n.nf n.cf, .slice n.ap n.np n.cp, .int .i64 n.par, .int .i64 n.r0, .int .i64 n.r1, .int .i64 n.r2, .int .i64 n.r3, .int .i64 n.r4, .int .i64 n.r5, .int .i64 n.r6, .int .i64 n.r7]
theorem encNd_len (n : NdC) : (encNd n).length = 13 := rfl
structure NodeIs (w : World) (c : NdC) (n : Gr.Nd) : Prop where
  id : n.id = c.id
  kind : n.kind = c.kind
  f : IntsAt w c.vf n.frm
  p : ValsAt w c.vp n.prog
  par : n.par = c.par
  route : n.route = [c.r0, c.r1, c.r2, c.r3, c.r4, c.r5, c.r6, c.r7]
  fc : n.frm.length ≤ c.cf
theorem NodeIs.grew {w w' : World} {c : NdC} {n : Gr.Nd} (h : NodeIs w c n) (g : Grew w w') : NodeIs w' c n :=
  { h with f := h.f.grew g, p := h.p.grew g }
theorem IntsAt.one {w : World} {v : Value} {l : List Int} (h : IntsAt w v l) : v.oneCell' = true := by
  obtain ⟨a, cap, rfl, -⟩ := h
  rfl
theorem ValsAt.one {w : World} {v : Value} {l : List Val} (h : ValsAt w v l) : v.oneCell' = true := by
  obtain ⟨a, cap, rfl, -⟩ := h
  rfl
/-- .. written out -/
theorem NodeIs.lit {w : World} {c : NdC} {n : Gr.Nd} (h : NodeIs w c n) : ∃ id kind af cf ap cp par r0 r1 r2 r3 r4 r5 r6 r7, c = ⟨id, kind, af, n.frm.length, cf, ap, n.prog.length, cp, par, r0, r1, r2, r3, r4, r5, r6, r7⟩ := by
  obtain ⟨id, kind, af, nf, cf, ap, np, cp, par, r0, r1, r2, r3, r4, r5, r6, r7⟩ := c
  obtain ⟨af', cf', e1⟩ := h.f.len
  obtain ⟨ap', cp', e2⟩ := h.p.len
  simp only [NdC.vf, NdC.vp] at e1 e2
  cases e1
  cases e2
  exact ⟨id, kind, _, _, _, _, par, r0, r1, r2, r3, r4, r5, r6, r7, rfl⟩
def NodesAt (w : World) (v : Value) (l : List Gr.Nd) : Prop := ∃ lc : List NdC, RowsAt 13 encNd w v lc ∧ lc.length = l.length ∧ ∀ (i : Nat) (c : NdC) (n : Gr.Nd), lc[i]? = some c → l[i]? = some n → NodeIs w c n
theorem NodesAt.grew {w w' : World} {v : Value} {l : List Gr.Nd} (h : NodesAt w v l) (g : Grew w w') : NodesAt w' v l := by
  obtain ⟨lc, h1, h2, h3⟩ := h
  exact ⟨lc, h1.grew g, h2, fun i c n hc hn => (h3 i c n hc hn).grew g⟩
/-- the slice and its cells, the node as it lies -/
theorem NodesAt.openC {w : World} {v : Value} {l : List Gr.Nd} (h : NodesAt w v l) : ∃ a cap, v = .slice a l.length cap ∧ l.length ≤ 9223372036854775807 ∧ ∀ i (hi : i < l.length), ∃ b off c, a = some ⟨b, off, none⟩ ∧ Pre b w ∧ NodeIs w c l[i] ∧
    w.cell? ⟨b, off + i * 13, none⟩ = some (.int .i64 c.id) ∧ w.cell? ⟨b, off + i * 13 + 1, none⟩ = some (.int .i64 c.kind) ∧ w.cell? ⟨b, off + i * 13 + 2, none⟩ = some (.slice c.af c.nf c.cf) ∧ w.cell? ⟨b, off + i * 13 + 3, none⟩ = some (.slice c.ap c.np c.cp) ∧ w.cell? ⟨b, off + i * 13 + 4, none⟩ = some (.int .i64 c.par) ∧
    w.cell? ⟨b, off + i * 13 + 5, none⟩ = some (.int .i64 c.r0) ∧ w.cell? ⟨b, off + i * 13 + 6, none⟩ = some (.int .i64 c.r1) ∧ w.cell? ⟨b, off + i * 13 + 7, none⟩ = some (.int .i64 c.r2) ∧ w.cell? ⟨b, off + i * 13 + 8, none⟩ = some (.int .i64 c.r3) ∧ w.cell? ⟨b, off + i * 13 + 9, none⟩ = some (.int .i64 c.r4) ∧ w.cell? ⟨b, off + i * 13 + 10, none⟩ = some (.int .i64 c.r5) ∧ w.cell? ⟨b, off + i * 13 + 11, none⟩ = some (.int .i64 c.r6) ∧ w.cell? ⟨b, off + i * 13 + 12, none⟩ = some (.int .i64 c.r7) := by
  obtain ⟨lc, ⟨a, cap, rfl, hm, hx⟩, h2, h3⟩ := h
  refine ⟨a, cap, by rw [h2], by unfold maxLen at hm; omega, fun i hi => ?_⟩
  have hi' : i < lc.length := by omega
  obtain ⟨b, off, rfl, hc⟩ := hx (by intro e; subst e; simp at hi')
  have hn := h3 i lc[i] l[i] (List.getElem?_eq_getElem hi') (List.getElem?_eq_getElem hi)
  have hj := fun j u => hc i lc[i] (List.getElem?_eq_getElem hi') j u
  have h0 := hj 0 _ rfl
  exact ⟨b, off, lc[i], rfl, Pre.mk (World.block_lt_of_cell? w _ h0), hn, h0, hj 1 _ rfl, hj 2 _ rfl, hj 3 _ rfl, hj 4 _ rfl, hj 5 _ rfl, hj 6 _ rfl, hj 7 _ rfl, hj 8 _ rfl, hj 9 _ rfl, hj 10 _ rfl, hj 11 _ rfl, hj 12 _ rfl⟩
/-- .. what the first cells hold, in the node's own words -/
theorem NodesAt.open' {w : World} {v : Value} {l : List Gr.Nd} (h : NodesAt w v l) : ∃ a cap, v = .slice a l.length cap ∧ l.length ≤ 9223372036854775807 ∧ ∀ i (hi : i < l.length), ∃ b off vf vp, a = some ⟨b, off, none⟩ ∧ Pre b w ∧ IntsAt w vf l[i].frm ∧ ValsAt w vp l[i].prog ∧
    w.cell? ⟨b, off + i * 13, none⟩ = some (.int .i64 l[i].id) ∧ w.cell? ⟨b, off + i * 13 + 1, none⟩ = some (.int .i64 l[i].kind) ∧ w.cell? ⟨b, off + i * 13 + 2, none⟩ = some vf ∧ w.cell? ⟨b, off + i * 13 + 3, none⟩ = some vp ∧ w.cell? ⟨b, off + i * 13 + 4, none⟩ = some (.int .i64 l[i].par) ∧
    ∀ g, g < 8 → w.cell? ⟨b, off + i * 13 + 5 + g, none⟩ = some (.int .i64 (l[i].route.getD g 0)) := by
  obtain ⟨a, cap, rfl, hm, hx⟩ := h.openC
  refine ⟨a, cap, rfl, hm, fun i hi => ?_⟩
  obtain ⟨b, off, c, rfl, hb, hn, c0, c1, c2, c3, c4, c5, c6, c7, c8, c9, c10, c11, c12⟩ := hx i hi
  refine ⟨b, off, c.vf, c.vp, rfl, hb, hn.f, hn.p, by rw [hn.id]; exact c0, by rw [hn.kind]; exact c1, c2, c3, by rw [hn.par]; exact c4, fun g hg => ?_⟩
  rw [hn.route]
  rcases (show g = 0 ∨ g = 1 ∨ g = 2 ∨ g = 3 ∨ g = 4 ∨ g = 5 ∨ g = 6 ∨ g = 7 by omega) with rfl | rfl | rfl | rfl | rfl | rfl | rfl | rfl
  · exact c5
  · exact c6
  · exact c7
  · exact c8
  · exact c9
  · exact c10
  · exact c11
  · exact c12
end Go.Proofs.YtmdmbimfdpngaaaGreatDoor
