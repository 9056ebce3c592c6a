import Derived.Test.YtmdmbimfdpngaaaGreatDoorMc2
/-! Slices that are read: a list whose elements lie row by row. -/
namespace Go
set_option linter.unusedSimpArgs false
set_option linter.unusedVariables false
open Go.RowKit

/-- v is a slice of the elements l, each of k cells. -/
def RowsAt {α : Type} (k : Nat) (enc : α → List Value) (w : World) (v : Value) (l : List α) : Prop :=
  ∃ a cap, v = .slice a l.length cap ∧ l.length ≤ maxLen ∧ (l ≠ [] → ∃ b off, a = some ⟨b, off, none⟩ ∧ ∀ (i : Nat) (x : α), l[i]? = some x → ∀ (j : Nat) (u : Value), (enc x)[j]? = some u → w.cell? ⟨b, off + i * k + j, none⟩ = some u)

section
variable {α : Type} {k : Nat} {enc : α → List Value} {w w' : World} {v : Value} {l : List α}

theorem RowsAt.of_cells (h : RowsAt k enc w v l) (hc : ∀ a u, w.cell? a = some u → w'.cell? a = some u) : RowsAt k enc w' v l := by
  obtain ⟨a, cap, rfl, hm, hl⟩ := h
  refine ⟨a, cap, rfl, hm, fun hne => ?_⟩
  obtain ⟨b, off, rfl, hx⟩ := hl hne
  exact ⟨b, off, rfl, fun i x hi j u hu => hc _ _ (hx i x hi j u hu)⟩

theorem below_keeps (h : Below w.heap.size w w') (a : Addr) (u : Value) (hc : w.cell? a = some u) : w'.cell? a = some u :=
  (h.cell (World.block_lt_of_cell? w a hc)).trans hc

theorem RowsAt.grew (h : RowsAt k enc w v l) (g : Grew w w') : RowsAt k enc w' v l := h.of_cells (below_keeps g.below)
theorem RowsAt.nil : RowsAt k enc w (.slice none 0 0) [] := ⟨none, 0, rfl, Nat.zero_le _, fun h => absurd rfl h⟩

/-- a slice that was just made. -/
theorem RowsAt.made (c : Array Value) (t : TypeId) (cap : Nat) (hl : l.length ≤ maxLen) (hc : ∀ (i : Nat) (x : α), l[i]? = some x → ∀ (j : Nat) (u : Value), (enc x)[j]? = some u → c[i * k + j]? = some u) :
    RowsAt k enc (w.alloc (.cells c t)) (.slice (some ⟨w.heap.size, 0, none⟩) l.length cap) l := by
  refine ⟨_, cap, rfl, hl, fun _ => ⟨_, _, rfl, fun i x hi j u hu => ?_⟩⟩
  rw [World.cell?_alloc_new, Nat.zero_add]
  exact hc i x hi j u hu

theorem flat_get (henc : ∀ x, (enc x).length = k) : ∀ (l : List α) (i : Nat) (x : α), l[i]? = some x → ∀ (j : Nat) (u : Value), (enc x)[j]? = some u → (l.flatMap enc)[i * k + j]? = some u
  | [], i, x, hi, _, _, _ => by simp at hi
  | y :: l, 0, x, hi, j, u, hu => by
    simp at hi; subst hi
    rw [List.flatMap_cons, Nat.zero_mul, Nat.zero_add, List.getElem?_append_left (List.getElem?_eq_some_iff.1 hu).1]
    exact hu
  | y :: l, i + 1, x, hi, j, u, hu => by
    rw [List.flatMap_cons, Nat.add_one_mul, List.getElem?_append_right (by rw [henc]; omega), henc, show i * k + k + j - k = i * k + j by omega]
    exact flat_get henc l i x (by simpa using hi) j u hu

/-- a slice that was just made, its cells written out. -/
theorem RowsAt.fresh {n : Nat} {t : TypeId} {cap : Nat} {ls : Nat} {c : List Value} (hls : ls = l.length) (hl : l.length ≤ maxLen) (henc : ∀ x, (enc x).length = k) (hn : n = w.heap.size) (hc : c = l.flatMap enc) :
    RowsAt k enc (w.alloc (.cells c.toArray t)) (.slice (some ⟨n, 0, none⟩) ls cap) l := by
  subst hls hn hc
  exact RowsAt.made _ t cap hl fun i x hi j u hu => by
    rw [List.getElem?_toArray]; exact flat_get henc l i x hi j u hu

/-- As far as a slice is cut. -/
theorem RowsAt.len (h : RowsAt k enc w v l) : ∃ a cap, v = .slice a l.length cap := let ⟨a, cap, e, _⟩ := h; ⟨a, cap, e⟩
end

/-- two cells an element -/
theorem RowsAt.open2 {α : Type} {f g : α → Value} {w : World} {v : Value} {l : List α} (h : RowsAt 2 (fun x => [f x, g x]) w v l) :
    ∃ a cap, v = .slice a l.length cap ∧ l.length ≤ 9223372036854775807 ∧ ∀ i (hi : i < l.length), ∃ b off, a = some ⟨b, off, none⟩ ∧ Pre b w ∧ w.cell? ⟨b, off + i * 2, none⟩ = some (f l[i]) ∧ w.cell? ⟨b, off + i * 2 + 1, none⟩ = some (g l[i]) := by
  obtain ⟨a, cap, rfl, hm, hl⟩ := h
  refine ⟨a, cap, rfl, by unfold maxLen at hm; omega, fun i hi => ?_⟩
  obtain ⟨b, off, rfl, hx⟩ := hl (by intro e; subst e; simp at hi)
  have h0 := hx i l[i] (List.getElem?_eq_getElem hi) 0 (f l[i]) rfl
  have h1 := hx i l[i] (List.getElem?_eq_getElem hi) 1 (g l[i]) rfl
  exact ⟨b, off, rfl, Pre.ofCell h0, h0, h1⟩
theorem RowsAt.open1 {α : Type} {f : α → Value} {w : World} {v : Value} {l : List α} (h : RowsAt 1 (fun x => [f x]) w v l) :
    ∃ a cap, v = .slice a l.length cap ∧ l.length ≤ 9223372036854775807 ∧ ∀ i (hi : i < l.length), ∃ b off, a = some ⟨b, off, none⟩ ∧ Pre b w ∧ w.cell? ⟨b, off + i, none⟩ = some (f l[i]) := by
  obtain ⟨a, cap, rfl, hm, hl⟩ := h
  refine ⟨a, cap, rfl, by unfold maxLen at hm; omega, fun i hi => ?_⟩
  obtain ⟨b, off, rfl, hx⟩ := hl (by intro e; subst e; simp at hi)
  have h0 := hx i l[i] (List.getElem?_eq_getElem hi) 0 (f l[i]) rfl
  rw [Nat.mul_one, Nat.add_zero] at h0
  exact ⟨b, off, rfl, Pre.ofCell h0, h0⟩
end Go
