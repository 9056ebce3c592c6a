import Derived.Test.YtmdmbimfdpngaaaGreatDoorMc17
import Derived.Test.YtmdmbimfdpngaaaGreatDoorMc25
import Derived.Test.YtmdmbimfdpngaaaGreatDoorMc16
import Derived.Test.YtmdmbimfdpngaaaGreatDoorMc9
import Derived.Test.YtmdmbimfdpngaaaGreatDoorMc11
import Derived.Lib.ConvBytes
import Derived.Laws.BitsAllLaws
import Derived.ScopeJumps
import Derived.Laws.EntriesVeiled
import Derived.Scope
/-! graph.route, kind, node. -/
namespace Go.Proofs.YtmdmbimfdpngaaaGreatDoor
set_option linter.unusedSimpArgs false
set_option linter.unusedVariables false
open Go.RowKit Ga
set_option maxRecDepth 100000

end Go.Proofs.YtmdmbimfdpngaaaGreatDoor

/-! graph.node. -/
namespace Go.Proofs.YtmdmbimfdpngaaaGreatDoor
set_option linter.unusedSimpArgs false
set_option linter.unusedVariables false
open Go.RowKit Ga
set_option maxRecDepth 100000

end Go.Proofs.YtmdmbimfdpngaaaGreatDoor

/-! Insertion sort, as the library does it: plain laws. -/
namespace Gr
set_option linter.unusedSimpArgs false
set_option linter.unusedVariables false
section
variable {α : Type} (key : α → Int)
/-- two that stand side by side change places -/
def swapAt (l : List α) (j : Nat) : List α := match l[j]?, l[j + 1]? with
  | some x, some y => (l.set j y).set (j + 1) x
  | _, _ => l
theorem swapAt_eq {l : List α} {j : Nat} (h : j + 1 < l.length) : swapAt l j = (l.set j (l[j + 1]'h)).set (j + 1) (l[j]'(by omega)) := by
  unfold swapAt
  rw [List.getElem?_eq_getElem (show j < l.length by omega), List.getElem?_eq_getElem h]
theorem swapAt_len (l : List α) (j : Nat) : (swapAt l j).length = l.length := by
  unfold swapAt
  split
  · rw [List.length_set, List.length_set]
  · rfl
theorem swapAt_get {l : List α} {j : Nat} (h : j + 1 < l.length) (a : Nat) (ha : a < l.length) : (swapAt l j)[a]'(by rw [swapAt_len]; exact ha) = if a = j then l[j + 1]'h else if a = j + 1 then l[j]'(by omega) else l[a] := by
  have e := swapAt_eq h
  have e2 : (swapAt l j)[a]? = some (if a = j then l[j + 1]'h else if a = j + 1 then l[j]'(by omega) else l[a]) := by
    rw [e, List.getElem?_set, List.length_set, List.getElem?_set]
    by_cases h1 : a = j + 1
    · subst h1
      rw [if_pos rfl, if_pos h, if_neg (by omega), if_pos rfl]
    · rw [if_neg (fun q => h1 q.symm)]
      by_cases h2 : a = j
      · subst h2
        rw [if_pos rfl, if_pos (by omega), if_pos rfl]
      · rw [if_neg (fun q => h2 q.symm), if_neg h2, if_neg h1, List.getElem?_eq_getElem ha]
  rw [List.getElem?_eq_getElem (by rw [swapAt_len]; exact ha)] at e2
  exact Option.some.inj e2
/-- the first n stand by their keys -/
def Upto (l : List α) (n : Nat) : Prop := ∀ (a b : Nat) (ha : a < l.length) (hb : b < l.length), a < b → b < n → key l[a] ≤ key l[b]
/-- while the one at j is let down: all up to i but it stand by their keys; it is less than those above -/
structure Down (l : List α) (i j : Nat) : Prop where
  ji : j ≤ i
  il : i < l.length
  so : ∀ (a b : Nat) (ha : a < l.length) (hb : b < l.length), a < b → b ≤ i → a ≠ j → b ≠ j → key l[a] ≤ key l[b]
  lt : ∀ (b : Nat) (hj : j < l.length) (hb : b < l.length), j < b → b ≤ i → key l[j] < key l[b]
variable {key}
theorem Down.start {l : List α} {i : Nat} (h : Upto key l i) (hi : i < l.length) : Down key l i i :=
  ⟨Nat.le_refl _, hi, fun a b ha hb hab hbi _ hbj => h a b ha hb hab (by omega), fun b _ hb h1 h2 => by omega⟩
theorem Down.step {l : List α} {i j : Nat} (h : Down key l i (j + 1)) (h1 : j < l.length) (h2 : j + 1 < l.length) (hlt : key l[j + 1] < key l[j]) : Down key (swapAt l j) i j := by
  have hji := h.ji
  refine ⟨by omega, by rw [swapAt_len]; exact h.il, fun a b ha hb hab hbi haj hbj => ?_, fun b hj hb hab hbi => ?_⟩
  · rw [swapAt_len] at ha hb
    rw [swapAt_get h2 a ha, swapAt_get h2 b hb, if_neg haj, if_neg hbj]
    by_cases e1 : a = j + 1
    · rw [if_pos e1, if_neg (by omega)]
      exact h.so j b h1 hb (by omega) hbi (by omega) (by omega)
    · rw [if_neg e1]
      by_cases e2 : b = j + 1
      · rw [if_pos e2]
        exact h.so a j ha h1 (by omega) (by omega) e1 (by omega)
      · rw [if_neg e2]
        exact h.so a b ha hb hab hbi e1 e2
  · rw [swapAt_len] at hj hb
    rw [swapAt_get h2 j hj, swapAt_get h2 b hb, if_pos rfl, if_neg (by omega)]
    by_cases e2 : b = j + 1
    · rw [if_pos e2]
      exact hlt
    · rw [if_neg e2]
      exact h.lt b h2 hb (by omega) hbi
end
theorem Upto.sorted {l : List Nd} (h : Upto (·.id) l l.length) : l.Pairwise fun a b => a.id ≤ b.id :=
  List.pairwise_iff_getElem.2 fun i j hi hj hij => h i j hi hj hij hj
end Gr

/-! The library's stable sort at nodes, up to 19 of them. -/
namespace Go.Proofs.YtmdmbimfdpngaaaGreatDoor
set_option linter.unusedSimpArgs false
set_option linter.unusedVariables false
open Go.RowKit Ga
set_option maxRecDepth 100000

def NodesOwn (base : Nat) (w : World) (v : Value) (lc : List NdC) : Prop := OwnAt base 41 13 encNd w v lc
def SortPost (base : Nat) (W : World) (v : Value) (lc : List NdC) (e : Ending) (w' : World) : Prop :=
  e = .returned (.tuple #[]) ∧ ∃ lc', NodesOwn base w' v lc' ∧ lc'.Perm lc ∧ (lc'.Pairwise fun a b => a.id ≤ b.id) ∧ (∀ q, q < W.heap.size → v.ownBlock ≠ some q → w'.heap[q]? = W.heap[q]?) ∧ W.heap.size ≤ w'.heap.size ∧ (∀ w0, Grew w0 W → w0.heap.size ≤ base → Grew w0 w')
theorem SortPost.none (base : Nat) (W : World) (v : Value) (h : NodesOwn base W v []) : SortPost base W v [] (.returned (.tuple #[])) W :=
  ⟨rfl, [], h, List.Perm.refl _, List.Pairwise.nil, fun _ _ _ => rfl, Nat.le_refl _, fun _ g _ => g⟩
end Go.Proofs.YtmdmbimfdpngaaaGreatDoor

/-! The library's stable sort at nodes, up to 19 of them; graph.Norm. -/
namespace Go.Proofs.YtmdmbimfdpngaaaGreatDoor
set_option linter.unusedSimpArgs false
set_option linter.unusedVariables false
open Go.RowKit Ga
set_option maxRecDepth 100000

end Go.Proofs.YtmdmbimfdpngaaaGreatDoor

/-! graph.Norm. -/
namespace Go.Proofs.YtmdmbimfdpngaaaGreatDoor
set_option linter.unusedSimpArgs false
set_option linter.unusedVariables false
open Go.RowKit Ga
set_option maxRecDepth 100000

/-- two lists, side by side -/
def Rel {α β : Type} (R : α → β → Prop) : List α → List β → Prop
  | [], [] => True
  | a :: xs, b :: ys => R a b ∧ Rel R xs ys
  | _, _ => False
theorem Rel.len {α β : Type} {R : α → β → Prop} : ∀ {xs : List α} {ys : List β}, Rel R xs ys → xs.length = ys.length
  | [], [], _ => rfl
  | a :: xs, b :: ys, h => by rw [List.length_cons, List.length_cons, Rel.len h.2]
  | [], _ :: _, h => h.elim
  | _ :: _, [], h => h.elim
theorem Rel.get {α β : Type} {R : α → β → Prop} : ∀ {xs : List α} {ys : List β}, Rel R xs ys → ∀ (i : Nat) (a : α) (b : β), xs[i]? = some a → ys[i]? = some b → R a b
  | [], [], _, i, a, b, h1, _ => by simp at h1
  | a :: xs, b :: ys, h, 0, x, y, h1, h2 => by simp at h1 h2; subst h1 h2; exact h.1
  | a :: xs, b :: ys, h, i + 1, x, y, h1, h2 => Rel.get h.2 i x y (by simpa using h1) (by simpa using h2)
  | [], _ :: _, h, _, _, _, _, _ => h.elim
  | _ :: _, [], h, _, _, _, _, _ => h.elim
theorem Rel.mono {α β : Type} {R S : α → β → Prop} (hm : ∀ a b, R a b → S a b) : ∀ {xs : List α} {ys : List β}, Rel R xs ys → Rel S xs ys
  | [], [], _ => trivial
  | a :: xs, b :: ys, h => ⟨hm a b h.1, Rel.mono hm h.2⟩
  | [], _ :: _, h => h.elim
  | _ :: _, [], h => h.elim
theorem Rel.perm {α β : Type} {R : α → β → Prop} {xs' xs : List α} (hp : xs'.Perm xs) : ∀ {ys : List β}, Rel R xs ys → ∃ ys', Rel R xs' ys' ∧ ys'.Perm ys := by
  induction hp with
  | nil => intro ys h; cases ys with
    | nil => exact ⟨[], trivial, List.Perm.refl _⟩
    | cons => exact h.elim
  | cons x _ ih => intro ys h; cases ys with
    | nil => exact h.elim
    | cons b ys =>
      obtain ⟨ys', h1, h2⟩ := ih h.2
      exact ⟨b :: ys', ⟨h.1, h1⟩, h2.cons b⟩
  | swap x y t => intro ys h; cases ys with
    | nil => exact h.elim
    | cons b ys => cases ys with
      | nil => exact h.2.elim
      | cons c ys => exact ⟨c :: b :: ys, ⟨h.2.1, h.1, h.2.2⟩, List.Perm.swap ..⟩
  | trans _ _ ih1 ih2 =>
    intro ys h
    obtain ⟨b2, h1, h2⟩ := ih2 h
    obtain ⟨b1, h3, h4⟩ := ih1 h1
    exact ⟨b1, h3, h4.trans h2⟩
/-- the nodes behind the cells: in memory behind 'base' -/
def NodesIn (base : Nat) (w : World) (lc : List NdC) (l : List Gr.Nd) : Prop := Rel (fun c n => NodeIs w c n ∧ OwnsNd base w c n) lc l
theorem NodesIn.at {base : Nat} {w : World} {v : Value} {lc : List NdC} {l : List Gr.Nd} (h : NodesIn base w lc l) (ho : NodesOwn base w v lc) : NodesAt w v l :=
  ⟨lc, OwnAt.rows ho encNd_len, Rel.len h, fun i c n h1 h2 => (Rel.get h i c n h1 h2).1⟩
theorem OwnsNd.to2 {base : Nat} {w w' : World} {c : NdC} {n : Gr.Nd} (o : OwnsNd base w c n) (hb : ∀ (q : Nat) (cs : Array Value) (t : TypeId), w.heap[q]? = some (.cells cs t) → base ≤ q → t ≠ 41 → w'.heap[q]? = w.heap[q]?) : OwnsNd base w' c n := by
  refine ⟨OwnAt.same o.1 fun b h => ?_, OwnAt.same o.2 fun b h => ?_⟩
  · obtain ⟨h1, cs, h2⟩ := OwnAt.block o.1 h
    exact hb b cs _ h2 h1 (by decide)
  · obtain ⟨h1, cs, h2⟩ := OwnAt.block o.2 h
    exact hb b cs _ h2 h1 (by decide)
theorem NodesIn.keep {base : Nat} {w w' : World} {v : Value} {lc lv : List NdC} {l : List Gr.Nd} (h : NodesIn base w lc l) (ho : NodesOwn base w v lv) (hk : ∀ q, q < w.heap.size → v.ownBlock ≠ some q → w'.heap[q]? = w.heap[q]?) : NodesIn base w' lc l :=
  Rel.mono (fun c n ⟨h1, h2⟩ => by
    have h3 : OwnsNd base w' c n := h2.to2 fun q cs t hq hb hne => hk q (heap_lt hq) (OwnAt.other ho hq hne)
    exact ⟨h3.is h1, h3⟩) h
theorem NodesIn.grew {base : Nat} {w w' : World} {lc : List NdC} {l : List Gr.Nd} (h : NodesIn base w lc l) (g : Grew w w') : NodesIn base w' lc l :=
  Rel.mono (fun c n ⟨h1, h2⟩ => ⟨h1.grew g, h2.grew g⟩) h
end Go.Proofs.YtmdmbimfdpngaaaGreatDoor

/-! octet.Reader. -/
namespace Go.Proofs.YtmdmbimfdpngaaaGreatDoor
set_option linter.unusedSimpArgs false
set_option linter.unusedVariables false
open Go.RowKit
set_option maxRecDepth 100000

/-- What Within does. -/
def within (s : List UInt8) (a b : Int) : Int × Int × List UInt8 := if s.length < 4 then (0, 3, s) else if Oc.num s < a ∨ b < Oc.num s then (0, 2, s) else (Oc.num s, 0, s.drop 4)

end Go.Proofs.YtmdmbimfdpngaaaGreatDoor

/-! graph.sort: its two closures; the world of a round. -/
namespace Go.Proofs.YtmdmbimfdpngaaaGreatDoor
set_option linter.unusedSimpArgs false
set_option linter.unusedVariables false
open Go.RowKit Ga
set_option maxRecDepth 100000

/-- a world of the sort's: w: the one that came in; w1: the one behind Norm; B: the cell of what stands; C: the cell of the closure -/
structure SortAt (w w1 : World) (B C : Nat) (W : World) (v : Value) (out : List Int) : Prop where
  keep : Keep B w1 W
  g : Grew w W
  own : OwnAt w.heap.size 3 1 encN W v out
  hi : ∀ q, v.ownBlock = some q → w1.heap.size ≤ q
  b : W.heap[B]? = some (.cells #[v] 29)
  c : W.heap[C]? = some (.cells #[.func (.func 148) #[] #[.pointer (some ⟨B, 0, none⟩)]] 212)
  bl : w.heap.size ≤ B
theorem SortAt.grew {w w1 : World} {B C : Nat} {W W' : World} {v : Value} {out : List Int} (h : SortAt w w1 B C W v out) (g : Grew W W') : SortAt w w1 B C W' v out :=
  ⟨h.keep.trans (Keep.ofGrew g), h.g.trans g, h.own.grew g, h.hi, grew_heap g h.b, grew_heap g h.c, h.bl⟩
theorem SortAt.push {w w1 : World} {B C : Nat} {W W' : World} {v v' : Value} {out : List Int} {x : Int} (h : SortAt w w1 B C W v out) (hA : Appended w 3 1 encN W v (out ++ [x]) v' W') :
    W'.heap[B]? = some (.cells #[v] 29) ∧ SortAt w w1 B C (W'.setCell ⟨B, 0, none⟩ v') v' (out ++ [x]) := by
  obtain ⟨a1, a2, a3, a4, a5⟩ := hA
  have hB : W'.heap[B]? = some (.cells #[v] 29) := by rw [a4 B (heap_lt h.b) (OwnAt.other h.own h.b (by decide))]; exact h.b
  have hC : W'.heap[C]? = some (.cells #[.func (.func 148) #[] #[.pointer (some ⟨B, 0, none⟩)]] 212) := by rw [a4 C (heap_lt h.c) (OwnAt.other h.own h.c (by decide))]; exact h.c
  have hne : B ≠ C := fun e => by
    rw [e, hC] at hB
    cases hB
  have hk : Keep B w1 W' := ⟨Nat.le_trans h.keep.1 a3, fun q hq hn => (a4 q (Nat.lt_of_lt_of_le hq h.keep.1) fun e => by have := h.hi q e; omega).trans (h.keep.2 q hq hn)⟩
  refine ⟨hB, ⟨hk.trans (Keep.set _), a1.set h.bl _, OwnAt.same a2 fun b hb => set_other fun e => ?_, fun q hq => ?_, by rw [set_self hB]; rfl, by rw [set_other hne]; exact hC, h.bl⟩⟩
  · subst e
    exact OwnAt.other a2 hB (by decide) hb
  · rcases a5 q hq with h1 | h1
    · exact h.hi q h1
    · exact Nat.le_trans h.keep.1 h1
/-- the nodes stand as they stood -/
theorem SortAt.nodes {w w1 : World} {B C base : Nat} {W : World} {v vn : Value} {out : List Int} {lc : List NdC} {l : List Gr.Nd} (h : SortAt w w1 B C W v out) (ho : NodesOwn base w1 vn lc) (hn : NodesIn base w1 lc l) (hB : ∃ c, w1.heap[B]? = some (.cells c 29)) : NodesAt W vn l := by
  obtain ⟨cB, hB⟩ := hB
  have hk := h.keep
  have hne : ∀ (q : Nat) (cs : Array Value) (t : TypeId), w1.heap[q]? = some (.cells cs t) → t ≠ 29 → q ≠ B := fun q cs t hq ht e => by
    subst e
    rw [hB] at hq
    cases hq
    exact ht rfl
  have ho2 : NodesOwn base W vn lc := OwnAt.same ho fun b hb => by
    obtain ⟨_, cs, h2⟩ := OwnAt.block ho hb
    exact hk.2 b (heap_lt h2) (hne b cs _ h2 (by decide))
  have hn2 : NodesIn base W lc l := Rel.mono (fun c n ⟨h1, h2⟩ => by
    have h3 : OwnsNd base W c n := by
      refine ⟨OwnAt.same h2.1 fun b hb => ?_, OwnAt.same h2.2 fun b hb => ?_⟩
      · obtain ⟨_, cs, h4⟩ := OwnAt.block h2.1 hb
        exact hk.2 b (heap_lt h4) (hne b cs _ h4 (by decide))
      · obtain ⟨_, cs, h4⟩ := OwnAt.block h2.2 hb
        exact hk.2 b (heap_lt h4) (hne b cs _ h4 (by decide))
    exact ⟨h3.is h1, h3⟩) hn
  exact hn2.at ho2
end Go.Proofs.YtmdmbimfdpngaaaGreatDoor
