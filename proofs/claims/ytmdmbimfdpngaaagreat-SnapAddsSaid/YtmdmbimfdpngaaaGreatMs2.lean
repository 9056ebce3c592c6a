import Derived.Test.YtmdmbimfdpngaaaGreatMs1
import Derived.Test.YtmdmbimfdpngaaaGreatRows
import Derived.Test.YtmdmbimfdpngaaaGreatMs0
import Derived.WalkKit
import Derived.WalkSpells
import Derived.StillTactics
import Derived.Laws.Pointers
import Derived.Laws.ComplexArith
import Derived.Deep.RegionHeld3
import Derived.Deep.QuietTactic
import Derived.BigQuiet
import Derived.Below
import Derived.Lib.Hide
import Derived.Outline
import Derived.LoopTactic
import Derived.OwnWalk
import Derived.Laws.AppendOwnNone
import Derived.ArgAppend
import Derived.Lib.Atoi
import Derived.Lib.ItoaNum
import Derived.Lib.Join
import Derived.Lib.IndexMore
import Derived.Lib.AtoiTie
import Derived.Lib.AtoiAllCases
import Derived.Lib.Fields
/-! Slices that are read: a list whose elements lie row by row. -/
namespace Go
set_option linter.unusedSimpArgs false
set_option linter.unusedVariables false
open Go.RowKit

/-- v is a slice of the elements l, each of k cells. -/
def RowsAt {α : Type} (k : Nat) (enc : α → List Value) (w : World) (v : Value) (l : List α) : Prop :=
  ∃ a cap, v = .slice a l.length cap ∧ l.length ≤ maxLen ∧ (l ≠ [] → ∃ b off, a = some ⟨b, off, none⟩ ∧ ∀ (i : Nat) (x : α), l[i]? = some x → ∀ (j : Nat) (u : Value), (enc x)[j]? = some u → w.cell? ⟨b, off + i * k + j, none⟩ = some u)

section
variable {α : Type} {k : Nat} {enc : α → List Value} {w w' : World} {v : Value} {l : List α}

theorem RowsAt.of_cells (h : RowsAt k enc w v l) (hc : ∀ a u, w.cell? a = some u → w'.cell? a = some u) : RowsAt k enc w' v l := by
  obtain ⟨a, cap, rfl, hm, hl⟩ := h
  refine ⟨a, cap, rfl, hm, fun hne => ?_⟩
  obtain ⟨b, off, rfl, hx⟩ := hl hne
  exact ⟨b, off, rfl, fun i x hi j u hu => hc _ _ (hx i x hi j u hu)⟩

theorem below_keeps (h : Below w.heap.size w w') (a : Addr) (u : Value) (hc : w.cell? a = some u) : w'.cell? a = some u :=
  (h.cell (World.block_lt_of_cell? w a hc)).trans hc

theorem RowsAt.grew (h : RowsAt k enc w v l) (g : Grew w w') : RowsAt k enc w' v l := h.of_cells (below_keeps g.below)
theorem RowsAt.nil : RowsAt k enc w (.slice none 0 0) [] := ⟨none, 0, rfl, Nat.zero_le _, fun h => absurd rfl h⟩

/-- a slice that was just made. -/
theorem RowsAt.made (c : Array Value) (t : TypeId) (cap : Nat) (hl : l.length ≤ maxLen) (hc : ∀ (i : Nat) (x : α), l[i]? = some x → ∀ (j : Nat) (u : Value), (enc x)[j]? = some u → c[i * k + j]? = some u) :
    RowsAt k enc (w.alloc (.cells c t)) (.slice (some ⟨w.heap.size, 0, none⟩) l.length cap) l := by
  refine ⟨_, cap, rfl, hl, fun _ => ⟨_, _, rfl, fun i x hi j u hu => ?_⟩⟩
  rw [World.cell?_alloc_new, Nat.zero_add]
  exact hc i x hi j u hu

theorem flat_get (henc : ∀ x, (enc x).length = k) : ∀ (l : List α) (i : Nat) (x : α), l[i]? = some x → ∀ (j : Nat) (u : Value), (enc x)[j]? = some u → (l.flatMap enc)[i * k + j]? = some u
  | [], i, x, hi, _, _, _ => by simp at hi
  | y :: l, 0, x, hi, j, u, hu => by
    simp at hi; subst hi
    rw [List.flatMap_cons, Nat.zero_mul, Nat.zero_add, List.getElem?_append_left (List.getElem?_eq_some_iff.1 hu).1]
    exact hu
  | y :: l, i + 1, x, hi, j, u, hu => by
    rw [List.flatMap_cons, Nat.add_one_mul, List.getElem?_append_right (by rw [henc]; omega), henc, show i * k + k + j - k = i * k + j by omega]
    exact flat_get henc l i x (by simpa using hi) j u hu

/-- a slice that was just made, its cells written out. -/
theorem RowsAt.fresh {n : Nat} {t : TypeId} {cap : Nat} {ls : Nat} {c : List Value} (hls : ls = l.length) (hl : l.length ≤ maxLen) (henc : ∀ x, (enc x).length = k) (hn : n = w.heap.size) (hc : c = l.flatMap enc) :
    RowsAt k enc (w.alloc (.cells c.toArray t)) (.slice (some ⟨n, 0, none⟩) ls cap) l := by
  subst hls hn hc
  exact RowsAt.made _ t cap hl fun i x hi j u hu => by
    rw [List.getElem?_toArray]; exact flat_get henc l i x hi j u hu

/-- As far as a slice is cut. -/
theorem RowsAt.len (h : RowsAt k enc w v l) : ∃ a cap, v = .slice a l.length cap := let ⟨a, cap, e, _⟩ := h; ⟨a, cap, e⟩
end

/-- two cells an element -/
theorem RowsAt.open2 {α : Type} {f g : α → Value} {w : World} {v : Value} {l : List α} (h : RowsAt 2 (fun x => [f x, g x]) w v l) :
    ∃ a cap, v = .slice a l.length cap ∧ l.length ≤ 9223372036854775807 ∧ ∀ i (hi : i < l.length), ∃ b off, a = some ⟨b, off, none⟩ ∧ Pre b w ∧ w.cell? ⟨b, off + i * 2, none⟩ = some (f l[i]) ∧ w.cell? ⟨b, off + i * 2 + 1, none⟩ = some (g l[i]) := by
  obtain ⟨a, cap, rfl, hm, hl⟩ := h
  refine ⟨a, cap, rfl, by unfold maxLen at hm; omega, fun i hi => ?_⟩
  obtain ⟨b, off, rfl, hx⟩ := hl (by intro e; subst e; simp at hi)
  have h0 := hx i l[i] (List.getElem?_eq_getElem hi) 0 (f l[i]) rfl
  have h1 := hx i l[i] (List.getElem?_eq_getElem hi) 1 (g l[i]) rfl
  exact ⟨b, off, rfl, Pre.ofCell h0, h0, h1⟩
theorem RowsAt.open1 {α : Type} {f : α → Value} {w : World} {v : Value} {l : List α} (h : RowsAt 1 (fun x => [f x]) w v l) :
    ∃ a cap, v = .slice a l.length cap ∧ l.length ≤ 9223372036854775807 ∧ ∀ i (hi : i < l.length), ∃ b off, a = some ⟨b, off, none⟩ ∧ Pre b w ∧ w.cell? ⟨b, off + i, none⟩ = some (f l[i]) := by
  obtain ⟨a, cap, rfl, hm, hl⟩ := h
  refine ⟨a, cap, rfl, by unfold maxLen at hm; omega, fun i hi => ?_⟩
  obtain ⟨b, off, rfl, hx⟩ := hl (by intro e; subst e; simp at hi)
  have h0 := hx i l[i] (List.getElem?_eq_getElem hi) 0 (f l[i]) rfl
  rw [Nat.mul_one, Nat.add_zero] at h0
  exact ⟨b, off, rfl, Pre.ofCell h0, h0⟩
end Go

/-! The contracts of package gauss, and of the other text of it. -/
namespace Go.Proofs.YtmdmbimfdpngaaaGreat
set_option linter.unusedSimpArgs false
set_option linter.unusedVariables false
open Go.RowKit Ga

/-- The call returns v; there are new blocks, nothing else has turned. -/
def Gives (v : Value) (w : World) (e : Ending) (w' : World) : Prop := e = .returned v ∧ Grew w w'
abbrev vv (a : Ga.Val) : Value := .agg #[.int .i64 a.1, .int .i64 a.2]
abbrev ValsAt (w : World) (v : Value) (l : List Ga.Val) : Prop := RowsAt 2 (fun a : Ga.Val => [.int .i64 a.1, .int .i64 a.2]) w v l

theorem Tryz.mixed : Tryz.prog.follows .mixedOrders = true := by kernel_rfl

theorem into_any (n : Int) (w : World) : Calls Tryz.prog 145 #[.int .i64 n] w fun e w' => e = .returned (.int .i64 (into n)) ∧ w = w' := by
  have h1 := tmod_lt n
  have h2 := lt_tmod n
  unfold into
  by_cases c1 : n.tmod 1048576 < 0
  · by_cases c2 : n.tmod 1048576 + 1048576 ≥ 524288
    all_goals
      go_enter Tryz.func145, Tryz.ntmps145
      go_wp2
      go_ret
      refine ⟨?_, rfl⟩
      simp [c1, c2]
  · by_cases c2 : n.tmod 1048576 ≥ 524288
    all_goals
      go_enter Tryz.func145, Tryz.ntmps145
      go_wp2
      go_ret
      refine ⟨?_, rfl⟩
      simp [c1, c2]

theorem refInto_any (n : Int) (w : World) : Calls Tryz.prog 131 #[.int .i64 n] w fun e w' => e = .returned (.int .i64 (into n)) ∧ w = w' := by
  have h1 := tmod_lt n
  have h2 := lt_tmod n
  have h3 := into_ref n
  by_cases c1 : n.tmod 1048576 < -524288
  · rw [if_pos c1] at h3
    by_cases c2 : n.tmod 1048576 + 1048576 ≥ 524288
    · omega
    · rw [if_neg c2] at h3
      rw [← h3]
      go_enter Tryz.func131, Tryz.ntmps131
      clear h3
      go_wp2
      go_ret
      exact ⟨rfl, rfl⟩
  · rw [if_neg c1] at h3
    by_cases c2 : n.tmod 1048576 ≥ 524288
    · rw [if_pos c2] at h3
      rw [← h3]
      go_enter Tryz.func131, Tryz.ntmps131
      clear h3
      go_wp2
      go_ret
      exact ⟨rfl, rfl⟩
    · rw [if_neg c2] at h3
      rw [← h3]
      go_enter Tryz.func131, Tryz.ntmps131
      clear h3
      go_wp2
      go_ret
      exact ⟨rfl, rfl⟩

theorem of_any (x y : Int) (w : World) : Calls Tryz.prog 122 #[.int .i64 x, .int .i64 y] w (Gives (.agg #[.int .i64 (into x), .int .i64 (into y)]) w) := by
  go_enter Tryz.func122, Tryz.ntmps122
  go_wp2_with (go_at_call 145; refine (into_any _ _).mono ?_; rintro e w' ⟨rfl, rfl⟩)
  refine bodyPost_ret (v := .agg #[.int .i64 (into x), .int .i64 (into y)]) (by simp [results, Tryz.results122, go_sem]) rfl ⟨rfl, ?_⟩
  exact (Grew.refl _).alloc _

theorem refOf_any (x y : Int) (w : World) : Calls Tryz.prog 100 #[.int .i64 x, .int .i64 y] w (Gives (.agg #[.int .i64 (into x), .int .i64 (into y)]) w) := by
  go_enter Tryz.func100, Tryz.ntmps100
  go_wp2_with (go_at_call 131; refine (refInto_any _ _).mono ?_; rintro e w' ⟨rfl, rfl⟩)
  refine bodyPost_ret (v := .agg #[.int .i64 (into x), .int .i64 (into y)]) (by simp [results, Tryz.results100, go_sem]) rfl ⟨rfl, ?_⟩
  exact (Grew.refl _).alloc _

def fl (z : Int) : Nat := floatOfInt .f64 z
end Go.Proofs.YtmdmbimfdpngaaaGreat

/-! The contracts of package gauss, part two. -/
namespace Go.Proofs.YtmdmbimfdpngaaaGreat
set_option linter.unusedSimpArgs false
set_option linter.unusedVariables false
open Go.RowKit Ga

set_option maxHeartbeats 1000000 in
theorem right_any (a : Val) (w : World) : Calls Tryz.prog 94 #[vv a] w (Gives (.bool (rightV a)) w) := by
  obtain ⟨x, y⟩ := a
  have H : rightV (x, y) = (decide (into x = x) && decide (into y = y)) := by
    unfold rightV; simp only [eq_comm]
  by_cases h1 : into x = x <;> by_cases h2 : into y = y
  all_goals
    rw [H]
    simp only [h1, h2, decide_true, decide_false, Bool.and_true, Bool.and_false, Bool.and_self]
    clear H
    try (have h1' : ¬ x = into x := fun e => h1 e.symm)
    try (have h2' : ¬ y = into y := fun e => h2 e.symm)
    go_enter Tryz.func94, Tryz.ntmps94
    go_wp2
    refine wp_region_seq 8 Tryz.mixed (by kernel_rfl) (by kernel_rfl) ?_
    iterate 8
      apply Seq.val
      focus
        rintro w1 u ⟨R1, n1, rfl⟩ -
        simp [putFacts, Oper.deps, Region.binds, List.filter_cons, Region.dstOf, Fact.at, Act.put, World.more_drew]
        go_wp2_with (first
        | (go_at_call 122; refine (of_any _ _ _).mono ?_; rintro e w1 ⟨rfl, R1, n1, rfl⟩))
        exact ⟨by repeat (first | exact Grew.refl _ | apply Grew.more | apply Grew.alloc | apply Grew.drew), rfl, _, _, rfl, rfl, rfl⟩
    rintro u w1 ⟨R1, n1, rfl⟩ -
    simp [putFacts, Region.dstOf, Fact.at, Act.put, List.range_succ, World.more_drew]
    go_wp2
    go_ret
    exact ⟨rfl, by repeat (first | exact Grew.refl _ | apply Grew.more | apply Grew.alloc | apply Grew.drew)⟩

end Go.Proofs.YtmdmbimfdpngaaaGreat

/-! Slices that a call has made itself, and append onto them. -/
namespace Go
set_option linter.unusedSimpArgs false
set_option linter.unusedVariables false
open Go.RowKit

/-- v is a slice of the elements l, made behind block 'base'. -/
def OwnAt {α : Type} (base : Nat) (e : TypeId) (k : Nat) (enc : α → List Value) (w : World) (v : Value) (l : List α) : Prop := w.ownsRow base e k v l.length (l.flatMap enc)

section
variable {α : Type} {base : Nat} {e : TypeId} {k : Nat} {enc : α → List Value} {w w' w0 : World} {v : Value} {l : List α}

theorem Grew.grown {row : Option Nat} (g : Grew w0 w) (h : w.grownBy w' row) (hr : ∀ k, row = some k → w0.heap.size ≤ k) : Grew w0 w' :=
  Grew.ofBelow (g.below.grown h g.below.size hr)

theorem OwnAt.grew (h : OwnAt base e k enc w v l) (g : Grew w w') : OwnAt base e k enc w' v l := by
  obtain ⟨h1, h2⟩ := h
  refine ⟨h1, ?_⟩
  rcases h2 with h | ⟨b, cap, cur, hv, hb, hh, r⟩
  · exact .inl h
  · refine .inr ⟨b, cap, cur, hv, hb, ?_, r⟩
    rw [g.below.block b (Array.getElem?_eq_some_iff.1 hh).1]; exact hh
theorem OwnAt.nil (w : World) : OwnAt base e k enc w (.slice none 0 0) [] := World.ownsRow_nil w base e k
theorem OwnAt.lt (h : OwnAt base e k enc w v l) : ∀ k, v.ownBlock = some k → base ≤ k := fun q hq => (World.ownsRow.lt h q hq).1

theorem addr_add_zero (b j : Nat) : ((⟨b, 0, none⟩ : Addr).add j) = ⟨b, j, none⟩ := by
  unfold Addr.add; split
  · rename_i h; have : j = 0 := by simpa using h
    rw [this]
  · simp
/-- .. it reads as the list. -/
theorem OwnAt.rows (h : OwnAt base e k enc w v l) (henc : ∀ x, (enc x).length = k) : RowsAt k enc w v l := by
  obtain ⟨h1, h2⟩ := h
  rcases h2 with ⟨rfl, h3⟩ | ⟨b, cap, cur, rfl, hb, hh, hc, hm, hs, ht⟩
  · have : l = [] := List.eq_nil_of_length_eq_zero h3
    subst this; exact RowsAt.nil
  · refine ⟨_, cap, rfl, Nat.le_trans hc hm, fun _ => ⟨b, 0, rfl, fun i x hi j u hu => ?_⟩⟩
    have h3 := flat_get henc l i x hi j u hu
    rw [← ht, List.getElem?_take] at h3
    split at h3
    · unfold World.cell?
      rw [hh]
      simpa using h3
    · cases h3
/-- .. nil, or at the head of a block. -/
theorem OwnAt.form (h : OwnAt base e k enc w v l) : (v = .slice none 0 0 ∧ l = []) ∨ ∃ b cap, v = .slice (some ⟨b, 0, none⟩) l.length cap ∧ base ≤ b ∧ l.length ≤ cap ∧ cap ≤ maxLen := by
  obtain ⟨h1, h2⟩ := h
  rcases h2 with ⟨rfl, h3⟩ | ⟨b, cap, cur, rfl, hb, hh, hc, hm, hs, ht⟩
  · exact .inl ⟨rfl, List.eq_nil_of_length_eq_zero h3⟩
  · exact .inr ⟨b, cap, rfl, hb, hc, hm⟩

/-- a block that was just made. -/
theorem new_cells (W : World) (c : Array Value) (t : TypeId) (b : Nat) (hb : b = W.heap.size) (j : Nat) : (W.alloc (.cells c t)).cell? ⟨b, j, none⟩ = c[j]? := by
  subst hb
  rw [World.cell?_alloc_at _ _ _ _ rfl]

theorem flat_inv (henc : ∀ x, (enc x).length = k) : ∀ (l : List α) (j : Nat) (u : Value), (l.flatMap enc)[j]? = some u → ∃ i x r, l[i]? = some x ∧ (enc x)[r]? = some u ∧ j = i * k + r
  | [], j, u, h => by simp at h
  | y :: l, j, u, h => by
    rw [List.flatMap_cons] at h
    by_cases hj : j < k
    · rw [List.getElem?_append_left (by rw [henc]; exact hj)] at h
      exact ⟨0, y, j, rfl, h, by omega⟩
    · rw [List.getElem?_append_right (by rw [henc]; omega), henc] at h
      obtain ⟨i, x, r, h1, h2, h3⟩ := flat_inv henc l (j - k) u h
      exact ⟨i + 1, x, r, by simpa using h1, h2, by rw [Nat.add_one_mul]; omega⟩
theorem flat_length (henc : ∀ x, (enc x).length = k) : ∀ (l : List α), (l.flatMap enc).length = l.length * k
  | [] => by simp
  | y :: l => by rw [List.flatMap_cons, List.length_append, henc, flat_length henc l, List.length_cons, Nat.add_one_mul]; omega
/-- As far as it is cut. -/
theorem RowsAt.take {a : Option Addr} {n cap j : Nat} (h : RowsAt k enc w (.slice a n cap) l) (hj : j ≤ n) : RowsAt k enc w (.slice a j cap) (l.take j) := by
  obtain ⟨a', cap', e, hm, hx⟩ := h
  cases e
  have hlen : (l.take j).length = j := by rw [List.length_take]; omega
  refine ⟨a, cap, by rw [hlen], by omega, fun hne => ?_⟩
  obtain ⟨b, off, rfl, hc⟩ := hx (by intro e; rw [e] at hne; simp at hne)
  refine ⟨b, off, rfl, fun i x hi r u hu => ?_⟩
  rw [List.getElem?_take] at hi
  split at hi
  · exact hc i x hi r u hu
  · cases hi

theorem OwnAt.lit (w : World) (b : Nat) (hb : b = w.heap.size) (hbase : base ≤ b) : OwnAt (α := α) base e k enc (w.alloc (.cells #[] e)) (.slice (some ⟨b, 0, none⟩) 0 0) [] := by
  subst hb
  exact World.ownsRow_lit w #[] 0 hbase (Nat.zero_le _) (by simp)
end
end Go

/-! Slices of the call's own that are cut; blocks that are written. -/
namespace Go
set_option linter.unusedSimpArgs false
set_option linter.unusedVariables false
open Go.RowKit

theorem flat_take {α : Type} {k : Nat} {enc : α → List Value} (henc : ∀ x, (enc x).length = k) : ∀ (l : List α) (m : Nat), (l.take m).flatMap enc = (l.flatMap enc).take (m * k)
  | [], m => by simp
  | y :: l, 0 => by simp
  | y :: l, m + 1 => by
    have hy : (enc y).length = k := henc y
    rw [List.take_succ_cons, List.flatMap_cons, List.flatMap_cons, flat_take henc l m, Nat.add_one_mul, List.take_append, hy, List.take_of_length_le (l := enc y) (by omega), show m * k + k - k = m * k by omega]

section
variable {α : Type} {base : Nat} {e : TypeId} {k : Nat} {enc : α → List Value} {w w' w0 : World} {v : Value} {l : List α}
theorem OwnAt.cut {b n cap m : Nat} (h : OwnAt base e k enc w (.slice (some ⟨b, 0, none⟩) n cap) l) (henc : ∀ x, (enc x).length = k) (hm : m ≤ l.length) : OwnAt base e k enc w (.slice (some ⟨b, 0, none⟩) m cap) (l.take m) := by
  obtain ⟨h1, h2⟩ := h
  have hlen : (l.take m).length = m := by rw [List.length_take]; omega
  refine ⟨by rw [flat_length henc], ?_⟩
  rcases h2 with ⟨h, _⟩ | ⟨g, cap', cur, hv, hb, hh, hc, hm', hs, ht⟩
  · cases h
  · cases hv
    refine .inr ⟨b, cap, cur, by rw [hlen], hb, hh, by rw [hlen]; omega, hm', hs, ?_⟩
    rw [hlen, flat_take henc, ← ht, List.take_take]
    congr 1
    exact (Nat.min_eq_left (Nat.mul_le_mul_right k hm)).symm
/-- a slice that was just made, its cells written out -/
theorem OwnAt.fresh {n ls cap : Nat} {t : TypeId} {c : List Value} (ht : t = e) (hls : ls = l.length) (hcap : cap = l.length) (hl : l.length ≤ maxLen) (henc : ∀ x, (enc x).length = k) (hn : n = w.heap.size) (hb : base ≤ n) (hc : c = l.flatMap enc) :
    OwnAt base e k enc (w.alloc (.cells c.toArray t)) (.slice (some ⟨n, 0, none⟩) ls cap) l := by
  subst ht hls hcap hn hc
  refine ⟨flat_length henc l, .inr ⟨_, l.length, (l.flatMap enc).toArray, rfl, hb, ?_, Nat.le_refl _, hl, ?_, ?_⟩⟩
  · show (w.heap.push _)[w.heap.size]? = _
    simp
  · simp [flat_length henc l]
  · rw [List.take_of_length_le (by simp [flat_length henc l])]
/-- the block that lies behind it, if any, is of the elements' type -/
theorem OwnAt.block (h : OwnAt base e k enc w v l) {q : Nat} (hq : v.ownBlock = some q) : base ≤ q ∧ ∃ c, w.heap[q]? = some (.cells c e) := by
  obtain ⟨h1, h2⟩ := h
  rcases h2 with ⟨rfl, _⟩ | ⟨g, cap', cur, rfl, hb, hh, _⟩
  · cases hq
  · cases hq; exact ⟨hb, cur, hh⟩
theorem OwnAt.other (h : OwnAt base e k enc w v l) {q : Nat} {c : Array Value} {t : TypeId} (hq : w.heap[q]? = some (.cells c t)) (hne : t ≠ e) : v.ownBlock ≠ some q := by
  intro e1
  obtain ⟨_, c', h'⟩ := h.block e1
  rw [hq] at h'
  cases h'
  exact hne rfl
theorem OwnAt.same (h : OwnAt base e k enc w v l) (hb : ∀ b, v.ownBlock = some b → w'.heap[b]? = w.heap[b]?) : OwnAt base e k enc w' v l := by
  obtain ⟨h1, h2⟩ := h
  refine ⟨h1, ?_⟩
  rcases h2 with h | ⟨g, cap, cur, rfl, hg, hh, r⟩
  · exact .inl h
  · exact .inr ⟨g, cap, cur, rfl, hg, by rw [hb g rfl]; exact hh, r⟩
end

theorem set_self {W : World} {b o : Nat} {c : Array Value} {t : TypeId} {f : Nat × Nat} {v : Value} (h : W.heap[b]? = some (.cells c t f)) : (W.setCell ⟨b, o, none⟩ v).heap[b]? = some (.cells (c.setIfInBounds o v) t f) := by
  unfold World.setCell
  simp only [Array.getElem?_modify, if_true, h]
  rfl
theorem set_other {W : World} {b b' o : Nat} {v : Value} (h : b ≠ b') : (W.setCell ⟨b, o, none⟩ v).heap[b']? = W.heap[b']? := by
  unfold World.setCell
  simp only [Array.getElem?_modify, h, if_false]
theorem cell_of {W : World} {b o : Nat} {c : Array Value} {t : TypeId} {f : Nat × Nat} (h : W.heap[b]? = some (.cells c t f)) : W.cell? ⟨b, o, none⟩ = c[o]? := by
  unfold World.cell?; rw [h]; simp
theorem frozen_of {W : World} {b o : Nat} {c : Array Value} {t : TypeId} (h : W.heap[b]? = some (.cells c t)) : W.frozen? ⟨b, o, none⟩ = false := by
  unfold World.frozen?; rw [h]; simp
theorem heap_lt {W : World} {b : Nat} {x : Obj} (h : W.heap[b]? = some x) : b < W.heap.size := (Array.getElem?_eq_some_iff.1 h).1
theorem grew_heap {W W' : World} {b : Nat} {x : Obj} (g : Grew W W') (h : W.heap[b]? = some x) : W'.heap[b]? = some x := by
  rw [g.below.block b (heap_lt h)]; exact h
theorem Grew.set {w0 W : World} (g : Grew w0 W) {b o : Nat} (hb : w0.heap.size ≤ b) (v : Value) : Grew w0 (W.setCell ⟨b, o, none⟩ v) :=
  Grew.ofBelow (g.below.setCell hb _)
theorem heap_alloc' {W : World} {b : Nat} {x : Obj} (h : W.heap[b]? = some x) (o : Obj) : (W.alloc o).heap[b]? = some x := by
  have hb := heap_lt h
  show (W.heap.push o)[b]? = some x
  rw [Array.getElem?_push_lt hb]
  rw [← h, Array.getElem?_eq_getElem hb]
/-- What append leaves: what else is as it was, and where the new slice lies. -/
def Appended {α : Type} (w0 : World) (e : TypeId) (k : Nat) (enc : α → List Value) (W : World) (v : Value) (l : List α) (v' : Value) (W' : World) : Prop :=
  Grew w0 W' ∧ OwnAt w0.heap.size e k enc W' v' l ∧ W.heap.size ≤ W'.heap.size ∧ (∀ q, q < W.heap.size → v.ownBlock ≠ some q → W'.heap[q]? = W.heap[q]?) ∧ (∀ q, v'.ownBlock = some q → v.ownBlock = some q ∨ W.heap.size ≤ q)
theorem run_ownK {α : Type} {e : TypeId} {k : Nat} {enc : α → List Value} {w0 : World} {v : Value} {l : List α} {P : Program} {W : World} (t ty : TypeId) (z : Value) (bytes c0 b : Nat) (l2 : List α)
    (ht : P.underlying t = some (.slice e)) (hinfo : (P.info? e).map (fun i => (i.zero, i.size, i.bytes)) = some (some z, k, bytes)) (hz : z.cells.size = k) (hk : 0 < k)
    (henc : ∀ x, (enc x).length = k) (hone : ∀ x, ∀ u ∈ enc x, u.oneCell' = true)
    (hown : OwnAt w0.heap.size e k enc W v l) (hg : Grew w0 W)
    (hb : ∀ j u, (l2.flatMap enc)[j]? = some u → W.cell? ⟨b, j, none⟩ = some u)
    (hlen : l.length + l2.length ≤ 1000000) (hby : bytes ≤ 1000) :
    ∃ v' W', (Builtin.append_ #[t, t] ty #[v, .slice (some ⟨b, 0, none⟩) l2.length c0]).run P W = .ok v' W' ∧ Appended w0 e k enc W v (l ++ l2) v' W' := by
  obtain ⟨i, hi, hz0, hz1, hz2⟩ := info_parts hinfo
  have hmul : (l.length + l2.length) * bytes ≤ 1000000 * 1000 := Nat.mul_le_mul hlen hby
  have hnews : ∀ j u, (l2.flatMap enc)[j]? = some u → W.cell? ((⟨b, 0, none⟩ : Addr).add j) = some u := fun j u hj => by rw [addr_add_zero]; exact hb j u hj
  have h1c : ∀ u ∈ l2.flatMap enc, u.oneCell' = true := by
    intro u hu
    obtain ⟨y, _, hy⟩ := List.mem_flatMap.1 hu
    exact hone y u hy
  have hlt : ∀ q, v.ownBlock = some q → w0.heap.size ≤ q := fun q hq => OwnAt.lt hown q hq
  have fin : ∀ v' W' (row : Option Nat), W.grownBy W' row → (∀ q, row = some q → v.ownBlock = some q) → W'.ownsRow w0.heap.size e k v' (l.length + l2.length) (l.flatMap enc ++ l2.flatMap enc) → (∀ q, v'.ownBlock = some q → v.ownBlock = some q ∨ W.heap.size ≤ q) → Appended w0 e k enc W v (l ++ l2) v' W' := by
    intro v' W' row h2 hrow h1 h3
    refine ⟨hg.grown h2 (fun q hq => hlt q (hrow q hq)), ?_, h2.size, fun q hq hne => h2.block q hq fun e => hne (hrow q e.symm), h3⟩
    unfold OwnAt
    rw [List.length_append, List.flatMap_append]
    exact h1
  have low : ∀ {v' W' n xs}, World.ownsRow W' W.heap.size e k v' n xs → W'.ownsRow w0.heap.size e k v' n xs := by
    rintro v' W' n xs ⟨h3, h4⟩
    refine ⟨h3, ?_⟩
    rcases h4 with h | ⟨g2, cap2, cur, hv2, hb2, r⟩
    · exact .inl h
    · exact .inr ⟨g2, cap2, cur, hv2, Nat.le_trans hg.below.size hb2, r⟩
  rcases hown.form with ⟨hv, hl0⟩ | ⟨g, cap, hv, hbase, hcap, hmax⟩
  · subst hv hl0
    simp only [List.length_nil, Nat.zero_add] at hlen hmul
    obtain ⟨v', W', hrun, h1, h2, _⟩ := run_append_own (P := P) W W.heap.size t ty e i z k bytes ht hi hz0 hz1 hz2 hz hk (.slice none 0 0) 0 [] (World.ownsRow_nil W _ e k) ⟨b, 0, none⟩ l2.length c0 (l2.flatMap enc) (flat_length henc l2) hnews h1c (by unfold maxLen; omega) (by rw [Nat.zero_add]; omega) (Nat.le_refl _)
    exact ⟨v', W', hrun, fin v' W' none h2 (fun q hq => by cases hq) (low h1) fun q hq => .inr (World.ownsRow.lt h1 q hq).1⟩
  · subst hv
    by_cases hroom : l.length + l2.length ≤ cap
    · obtain ⟨W', hrun, h1, h2⟩ := run_append_fits (P := P) W w0.heap.size t ty e i k ht hi hz1 g l.length cap (l.flatMap enc) hown ⟨b, 0, none⟩ l2.length c0 (l2.flatMap enc) (flat_length henc l2) hnews h1c hroom
      exact ⟨_, W', hrun, fin _ W' (some g) h2 (fun q hq => hq) h1 fun q hq => .inl hq⟩
    · have hr := hown.rows henc
      have hold : ∀ j u, (l.flatMap enc)[j]? = some u → W.cell? ((⟨g, 0, none⟩ : Addr).add j) = some u := by
        intro j u hj
        obtain ⟨q, y, r, h1, h2, rfl⟩ := flat_inv henc l j u hj
        obtain ⟨a2, cap2, hv2, _, hc2⟩ := hr
        obtain ⟨b3, off, hb3, hcell⟩ := hc2 (by intro e; subst e; simp at h1)
        cases hv2
        cases hb3
        rw [addr_add_zero]
        have := hcell q y h1 r u h2
        simpa using this
      obtain ⟨v', W', hrun, h1, h2⟩ := run_append_arg_grows (P := P) W t ty e i z k bytes ht hi hz0 hz1 hz2 hz hk ⟨g, 0, none⟩ l.length cap (l.flatMap enc) (flat_length henc l) hold ⟨b, 0, none⟩ l2.length c0 (l2.flatMap enc) (flat_length henc l2) hnews (by omega) (by unfold maxLen; omega) (by omega)
      exact ⟨v', W', hrun, fin v' W' none h2 (fun q hq => by cases hq) (low h1) fun q hq => .inr (World.ownsRow.lt h1 q hq).1⟩
theorem wpList_ownK {α : Type} {e : TypeId} {k : Nat} {enc : α → List Value} {w0 : World} {v : Value} {l : List α} {P : Program} {ops : Array Oper} {rest : List Oper} {o : Oper} {a : Act} {Q : Exit → Act → World → Prop} {W : World}
    (hgd : o.guard = none) (s x : Operand) (t : TypeId) (z : Value) (bytes c0 b : Nat) (l2 : List α)
    (ho : o.op = .call { callee := .builtin .append, args := #[s, x], argTypes := #[t, t] })
    (ht : P.underlying t = some (.slice e)) (hinfo : (P.info? e).map (fun i => (i.zero, i.size, i.bytes)) = some (some z, k, bytes)) (hz : z.cells.size = k) (hk : 0 < k)
    (henc : ∀ x, (enc x).length = k) (hone : ∀ x, ∀ u ∈ enc x, u.oneCell' = true)
    (hs : a.eval s = v) (hown : OwnAt w0.heap.size e k enc W v l) (hg : Grew w0 W)
    (hx : a.eval x = .slice (some ⟨b, 0, none⟩) l2.length c0) (hb : ∀ j u, (l2.flatMap enc)[j]? = some u → W.cell? ⟨b, j, none⟩ = some u)
    (hlen : l.length + l2.length ≤ 1000000) (hby : bytes ≤ 1000) (hne2 : 0 < l2.length)
    (h : ∀ v' W', Appended w0 e k enc W v (l ++ l2) v' W' → wpList P ops Q rest (a.put o.dst v') W') : wpList P ops Q (o :: rest) a W := by
  refine wpList_plain hgd fun K hK' => ?_
  obtain ⟨v', W', hrun, hA⟩ := run_ownK (P := P) (c0 := c0) t o.type z bytes b l2 ht hinfo hz hk henc hone hown hg hb hlen hby
  unfold Oper.wp
  simp [execOp, ho, resolve, invoke, builtin, hs, hx, hrun, Result.andThen]
  exact hK' _ _ (h v' W' hA)
/-- .. as a step of a region that draws its order. -/
theorem step_ownK {α : Type} {e : TypeId} {k : Nat} {enc : α → List Value} {w0 : World} {v : Value} {l : List α} {P : Program} {ops : Array Oper} {o : Oper} {a : Act} {K : Act → World → Prop} {Q : Exit → Act → World → Prop} {E : Prop} {W : World}
    (hgd : o.guard = none) (s x : Operand) (t : TypeId) (z : Value) (bytes c0 b : Nat) (l2 : List α)
    (ho : o.op = .call { callee := .builtin .append, args := #[s, x], argTypes := #[t, t] })
    (ht : P.underlying t = some (.slice e)) (hinfo : (P.info? e).map (fun i => (i.zero, i.size, i.bytes)) = some (some z, k, bytes)) (hz : z.cells.size = k) (hk : 0 < k)
    (henc : ∀ x, (enc x).length = k) (hone : ∀ x, ∀ u ∈ enc x, u.oneCell' = true)
    (hs : a.eval s = v) (hown : OwnAt w0.heap.size e k enc W v l) (hg : Grew w0 W)
    (hx : a.eval x = .slice (some ⟨b, 0, none⟩) l2.length c0) (hb : ∀ j u, (l2.flatMap enc)[j]? = some u → W.cell? ⟨b, j, none⟩ = some u)
    (hlen : l.length + l2.length ≤ 1000000) (hby : bytes ≤ 1000) (hne2 : 0 < l2.length)
    (h : ∀ v' W', Appended w0 e k enc W v (l ++ l2) v' W' → K (a.put o.dst v') W') : if Region.wanted o (yielded ops a.tmps) = true then Oper.wp P o a W K Q else E := by
  have hw : Region.wanted o (yielded ops a.tmps) = true := by simp [Region.wanted, hgd]
  rw [if_pos hw]
  obtain ⟨v', W', hrun, hA⟩ := run_ownK (P := P) (c0 := c0) t o.type z bytes b l2 ht hinfo hz hk henc hone hown hg hb hlen hby
  unfold Oper.wp
  simp [execOp, ho, resolve, invoke, builtin, hs, hx, hrun, Result.andThen]
  exact h v' W' hA
theorem Appended.refl {α : Type} {w0 : World} {e : TypeId} {k : Nat} {enc : α → List Value} {W : World} {v : Value} {l : List α} (hg : Grew w0 W) (h : OwnAt w0.heap.size e k enc W v l) : Appended w0 e k enc W v l v W :=
  ⟨hg, h, Nat.le_refl _, fun _ _ _ => rfl, fun q hq => .inl hq⟩
theorem own_some' {α : Type} {base : Nat} {e : TypeId} {k : Nat} {enc : α → List Value} {w : World} {v : Value} {l : List α} (h : OwnAt base e k enc w v l) (hne : 0 < l.length) : ∃ b cap, v = .slice (some ⟨b, 0, none⟩) l.length cap := by
  rcases h.form with ⟨_, h⟩ | ⟨b, cap, h, _⟩
  · rw [h] at hne; cases hne
  · exact ⟨b, cap, h⟩
end Go

/-! Texts of numbers and of values: plain laws. -/
namespace Tx
set_option linter.unusedSimpArgs false
set_option linter.unusedVariables false
open Go.Lib

end Tx

/-! Programs as words: plain laws. -/
namespace Co
set_option linter.unusedSimpArgs false
set_option linter.unusedVariables false
open Go.Lib

abbrev Ins := Int × Int
def hasA (op : Int) : Bool := op == 1 || (op == 2 || (op == 4 || (op == 5 || (op == 15 || op == 16))))
def lo (op : Int) : Int := if op = 1 ∨ op = 2 then -524288 else if op = 15 ∨ op = 16 then 1 else 0
def hi (op : Int) : Int := if op = 1 ∨ op = 2 then 524287 else if op = 4 ∨ op = 5 then 1 else if op = 15 ∨ op = 16 then 24 else 0
def rightI (i : Ins) : Bool := decide (0 ≤ i.1) && decide (i.1 < 18) && decide (lo i.1 ≤ i.2) && decide (i.2 ≤ hi i.1)
def fitsI (l : List Ins) : Bool := decide (l.length ≤ 24) && l.all rightI
def namesL : List (List UInt8) := [[72, 65, 76, 84], [80, 85, 83, 72], [80, 85, 83, 72, 73], [73, 78], [76, 79, 65, 68], [83, 84, 79, 82, 69], [65, 68, 68], [83, 85, 66], [77, 85, 76], [67, 79, 78, 74], [84, 85, 82, 78], [68, 85, 80], [83, 87, 65, 80], [68, 82, 79, 80], [69, 77, 73, 84], [74, 90], [74, 77, 80], [76, 84]]
def nameOf (op : Int) : List UInt8 := namesL.getD op.toNat []
def word (i : Ins) : List UInt8 := nameOf i.1 ++ (if hasA i.1 then 32 :: itoa i.2 else [])
/-! ### a word has no semicolon; a name has no blank -/
/-! ### index and cut -/
theorem right_parts {i : Ins} (h : rightI i = true) : 0 ≤ i.1 ∧ i.1 < 18 ∧ lo i.1 ≤ i.2 ∧ i.2 ≤ hi i.1 := by
  unfold rightI at h
  simp only [Bool.and_eq_true, decide_eq_true_eq] at h
  exact ⟨h.1.1.1, h.1.1.2, h.1.2, h.2⟩
theorem right_arg {i : Ins} (h : rightI i = true) : -524288 ≤ i.2 ∧ i.2 < 524288 := by
  obtain ⟨_, _, h2, h3⟩ := right_parts h
  unfold lo at h2; unfold hi at h3
  split at h2 <;> split at h3 <;> (try split at h2) <;> (try split at h3) <;> (try split at h3) <;> omega
theorem fits_parts {l : List Ins} (h : fitsI l = true) : l.length ≤ 24 ∧ ∀ i ∈ l, rightI i = true := by
  unfold fitsI at h
  simp only [Bool.and_eq_true, decide_eq_true_eq, List.all_eq_true] at h
  exact h
end Co
