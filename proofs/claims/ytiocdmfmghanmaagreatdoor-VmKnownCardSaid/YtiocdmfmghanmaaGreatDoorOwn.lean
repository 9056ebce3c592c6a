import Derived.Test.YtiocdmfmghanmaaGreatDoorRowsAt
import Derived.WalkKit
import Derived.OwnWalk
import Derived.Laws.AppendOwnNone
/-! Slices that a call has made itself, and append onto them. -/
namespace Go
set_option linter.unusedSimpArgs false
set_option linter.unusedVariables false
open Go.RowKit

/-- v is a slice of the elements l, made behind block 'base'. -/
def OwnAt {α : Type} (base : Nat) (e : TypeId) (k : Nat) (enc : α → List Value) (w : World) (v : Value) (l : List α) : Prop := w.ownsRow base e k v l.length (l.flatMap enc)

section
variable {α : Type} {base : Nat} {e : TypeId} {k : Nat} {enc : α → List Value} {w w' w0 : World} {v : Value} {l : List α}

theorem Grew.grown {row : Option Nat} (g : Grew w0 w) (h : w.grownBy w' row) (hr : ∀ k, row = some k → w0.heap.size ≤ k) : Grew w0 w' :=
  Grew.ofBelow (g.below.grown h g.below.size hr)

theorem OwnAt.grew (h : OwnAt base e k enc w v l) (g : Grew w w') : OwnAt base e k enc w' v l := by
  obtain ⟨h1, h2⟩ := h
  refine ⟨h1, ?_⟩
  rcases h2 with h | ⟨b, cap, cur, hv, hb, hh, r⟩
  · exact .inl h
  · refine .inr ⟨b, cap, cur, hv, hb, ?_, r⟩
    rw [g.below.block b (Array.getElem?_eq_some_iff.1 hh).1]; exact hh
theorem OwnAt.nil (w : World) : OwnAt base e k enc w (.slice none 0 0) [] := World.ownsRow_nil w base e k
theorem OwnAt.lt (h : OwnAt base e k enc w v l) : ∀ k, v.ownBlock = some k → base ≤ k := fun q hq => (World.ownsRow.lt h q hq).1

theorem addr_add_zero (b j : Nat) : ((⟨b, 0, none⟩ : Addr).add j) = ⟨b, j, none⟩ := by
  unfold Addr.add; split
  · rename_i h; have : j = 0 := by simpa using h
    rw [this]
  · simp
/-- .. it reads as the list. -/
theorem OwnAt.rows (h : OwnAt base e k enc w v l) (henc : ∀ x, (enc x).length = k) : RowsAt k enc w v l := by
  obtain ⟨h1, h2⟩ := h
  rcases h2 with ⟨rfl, h3⟩ | ⟨b, cap, cur, rfl, hb, hh, hc, hm, hs, ht⟩
  · have : l = [] := List.eq_nil_of_length_eq_zero h3
    subst this; exact RowsAt.nil
  · refine ⟨_, cap, rfl, Nat.le_trans hc hm, fun _ => ⟨b, 0, rfl, fun i x hi j u hu => ?_⟩⟩
    have h3 := flat_get henc l i x hi j u hu
    rw [← ht, List.getElem?_take] at h3
    split at h3
    · unfold World.cell?
      rw [hh]
      simpa using h3
    · cases h3
/-- .. nil, or at the head of a block. -/
theorem OwnAt.form (h : OwnAt base e k enc w v l) : (v = .slice none 0 0 ∧ l = []) ∨ ∃ b cap, v = .slice (some ⟨b, 0, none⟩) l.length cap ∧ base ≤ b ∧ l.length ≤ cap ∧ cap ≤ maxLen := by
  obtain ⟨h1, h2⟩ := h
  rcases h2 with ⟨rfl, h3⟩ | ⟨b, cap, cur, rfl, hb, hh, hc, hm, hs, ht⟩
  · exact .inl ⟨rfl, List.eq_nil_of_length_eq_zero h3⟩
  · exact .inr ⟨b, cap, rfl, hb, hc, hm⟩

theorem OwnAt.form1 {y : α} (h : OwnAt base e k enc w v (l ++ [y])) : ∃ b cap, v = .slice (some ⟨b, 0, none⟩) (l.length + 1) cap ∧ base ≤ b ∧ l.length + 1 ≤ cap ∧ cap ≤ maxLen := by
  rcases h.form with ⟨_, h⟩ | ⟨b, cap, h1, h2, h3, h4⟩
  · simp at h
  · rw [List.length_append] at h1 h3
    exact ⟨b, cap, h1, h2, h3, h4⟩

/-- a block that was just made. -/
theorem new_cells (W : World) (c : Array Value) (t : TypeId) (b : Nat) (hb : b = W.heap.size) (j : Nat) : (W.alloc (.cells c t)).cell? ⟨b, j, none⟩ = c[j]? := by
  subst hb
  rw [World.cell?_alloc_at _ _ _ _ rfl]

/-- append of one element. -/
theorem wpList_own1 {P : Program} {ops : Array Oper} {rest : List Oper} {o : Oper} {a : Act} {Q : Exit → Act → World → Prop} {W : World}
    (hgd : o.guard = none) (s x : Operand) (t : TypeId) (z : Value) (bytes c0 b : Nat) (y : α)
    (ho : o.op = .call { callee := .builtin .append, args := #[s, x], argTypes := #[t, t] })
    (ht : P.underlying t = some (.slice e)) (hinfo : (P.info? e).map (fun i => (i.zero, i.size, i.bytes)) = some (some z, k, bytes)) (hz : z.cells.size = k) (hk : 0 < k)
    (henc : ∀ x, (enc x).length = k) (hone : ∀ x, ∀ u ∈ enc x, u.oneCell' = true)
    (hs : a.eval s = v) (hown : OwnAt w0.heap.size e k enc W v l) (hg : Grew w0 W)
    (hx : a.eval x = .slice (some ⟨b, 0, none⟩) 1 c0) (hb : ∀ j u, (enc y)[j]? = some u → W.cell? ⟨b, j, none⟩ = some u)
    (hlen : l.length ≤ 1000000) (hby : bytes ≤ 1000)
    (h : ∀ v' R N, OwnAt w0.heap.size e k enc (w0.more R N) v' (l ++ [y]) → wpList P ops Q rest (a.put o.dst v') (w0.more R N)) : wpList P ops Q (o :: rest) a W := by
  obtain ⟨i, hi, hz0, hz1, hz2⟩ := info_parts hinfo
  have hmul : (l.length + 1) * bytes ≤ 1000001 * 1000 := Nat.mul_le_mul (by omega) hby
  refine wpList_append_own W hgd s x t ho w0.heap.size e i z k bytes ht hi hz0 hz1 hz2 hz hk v l.length (l.flatMap enc) hs hown ⟨b, 0, none⟩ 1 c0 (enc y) hx (by rw [henc, Nat.one_mul]) ?_ (hone y) (by unfold maxLen; omega) (by omega) hg.below.size ?_
  · intro j u hj
    rw [addr_add_zero]; exact hb j u hj
  · intro v' w' h1 h2 _
    obtain ⟨R, N, rfl⟩ := hg.grown h2 (fun q hq => OwnAt.lt hown q hq)
    refine h v' R N ?_
    unfold OwnAt
    rw [List.length_append, List.flatMap_append]
    simpa using h1

theorem flat_inv (henc : ∀ x, (enc x).length = k) : ∀ (l : List α) (j : Nat) (u : Value), (l.flatMap enc)[j]? = some u → ∃ i x r, l[i]? = some x ∧ (enc x)[r]? = some u ∧ j = i * k + r
  | [], j, u, h => by simp at h
  | y :: l, j, u, h => by
    rw [List.flatMap_cons] at h
    by_cases hj : j < k
    · rw [List.getElem?_append_left (by rw [henc]; exact hj)] at h
      exact ⟨0, y, j, rfl, h, by omega⟩
    · rw [List.getElem?_append_right (by rw [henc]; omega), henc] at h
      obtain ⟨i, x, r, h1, h2, h3⟩ := flat_inv henc l (j - k) u h
      exact ⟨i + 1, x, r, by simpa using h1, h2, by rw [Nat.add_one_mul]; omega⟩
theorem flat_length (henc : ∀ x, (enc x).length = k) : ∀ (l : List α), (l.flatMap enc).length = l.length * k
  | [] => by simp
  | y :: l => by rw [List.flatMap_cons, List.length_append, henc, flat_length henc l, List.length_cons, Nat.add_one_mul]; omega
theorem addr_add_off (b off j : Nat) : ((⟨b, off, none⟩ : Addr).add j) = ⟨b, off + j, none⟩ := by
  unfold Addr.add; split
  · rename_i h; have : j = 0 := by simpa using h
    simp [this]
  · rfl
/-- As far as it is cut. -/
theorem RowsAt.take {a : Option Addr} {n cap j : Nat} (h : RowsAt k enc w (.slice a n cap) l) (hj : j ≤ n) : RowsAt k enc w (.slice a j cap) (l.take j) := by
  obtain ⟨a', cap', e, hm, hx⟩ := h
  cases e
  have hlen : (l.take j).length = j := by rw [List.length_take]; omega
  refine ⟨a, cap, by rw [hlen], by omega, fun hne => ?_⟩
  obtain ⟨b, off, rfl, hc⟩ := hx (by intro e; rw [e] at hne; simp at hne)
  refine ⟨b, off, rfl, fun i x hi r u hu => ?_⟩
  rw [List.getElem?_take] at hi
  split at hi
  · exact hc i x hi r u hu
  · cases hi

/-- append of a slice that is read. -/
theorem wpList_ownM {P : Program} {ops : Array Oper} {rest : List Oper} {o : Oper} {a : Act} {Q : Exit → Act → World → Prop} {W : World}
    (hgd : o.guard = none) (s x : Operand) (t : TypeId) (z : Value) (bytes : Nat) (vx : Value) (l2 : List α)
    (ho : o.op = .call { callee := .builtin .append, args := #[s, x], argTypes := #[t, t] })
    (ht : P.underlying t = some (.slice e)) (hinfo : (P.info? e).map (fun i => (i.zero, i.size, i.bytes)) = some (some z, k, bytes)) (hz : z.cells.size = k) (hk : 0 < k)
    (henc : ∀ x, (enc x).length = k) (hone : ∀ x, ∀ u ∈ enc x, u.oneCell' = true)
    (hs : a.eval s = v) (hown : OwnAt w0.heap.size e k enc W v l) (hg : Grew w0 W)
    (hx : a.eval x = vx) (hrows : RowsAt k enc W vx l2) (hnil : vx = .slice none 0 0 ∨ ∃ ad c, vx = .slice (some ad) l2.length c)
    (hlen : l.length + l2.length ≤ 1000000) (hby : bytes ≤ 1000)
    (h : ∀ v' R N, OwnAt w0.heap.size e k enc (w0.more R N) v' (l ++ l2) → (v' = .slice none 0 0 → v = .slice none 0 0) → wpList P ops Q rest (a.put o.dst v') (w0.more R N)) : wpList P ops Q (o :: rest) a W := by
  obtain ⟨i, hi, hz0, hz1, hz2⟩ := info_parts hinfo
  obtain ⟨a2, cap2, hv2, hm2, hc2⟩ := hrows
  rcases hnil with h0 | ⟨ad, c, h0⟩
  · subst h0
    have hl0 : l2 = [] := by
      injection hv2 with _ h1 _
      exact List.eq_nil_of_length_eq_zero h1.symm
    subst hl0
    obtain ⟨R, N, rfl⟩ := hg
    refine wpList_append_own_none hgd s x t ho w0.heap.size e i k ht hi v l.length (l.flatMap enc) hs hown hx (h v R N ?_ fun h => h)
    rw [List.append_nil]; exact hown
  · subst h0
    have hmul : (l.length + l2.length) * bytes ≤ 1000000 * 1000 := Nat.mul_le_mul hlen hby
    refine wpList_append_own W hgd s x t ho w0.heap.size e i z k bytes ht hi hz0 hz1 hz2 hz hk v l.length (l.flatMap enc) hs hown ad l2.length c (l2.flatMap enc) hx (flat_length henc l2) ?_ ?_ (by unfold maxLen; omega) (by omega) hg.below.size ?_
    · intro j u hj
      obtain ⟨q, y, r, h1, h2, rfl⟩ := flat_inv henc l2 j u hj
      obtain ⟨b, off, hb, hcell⟩ := hc2 (by intro e; subst e; simp at h1)
      cases hv2
      cases hb
      rw [addr_add_off, ← Nat.add_assoc]
      exact hcell q y h1 r u h2
    · intro u hu
      obtain ⟨y, _, hy⟩ := List.mem_flatMap.1 hu
      exact hone y u hy
    · intro v' w' h1 h2 h3
      obtain ⟨R, N, rfl⟩ := hg.grown h2 (fun q hq => OwnAt.lt hown q hq)
      refine h v' R N ?_ fun h => (h3.1 h).1
      unfold OwnAt
      rw [List.length_append, List.flatMap_append]
      exact h1
theorem OwnAt.lit (w : World) (b : Nat) (hb : b = w.heap.size) (hbase : base ≤ b) : OwnAt (α := α) base e k enc (w.alloc (.cells #[] e)) (.slice (some ⟨b, 0, none⟩) 0 0) [] := by
  subst hb
  exact World.ownsRow_lit w #[] 0 hbase (Nat.zero_le _) (by simp)
end
end Go
