import Derived.Test.YtangapokicnfgaaGreatMp2
import Derived.Test.YtangapokicnfgaaGreatRows
import Derived.Test.YtangapokicnfgaaGreatMp0
import Derived.Test.YtangapokicnfgaaGreatMp1
import Derived.WalkKit
import Derived.WalkSpells
import Derived.StillTactics
import Derived.Laws.Pointers
import Derived.Laws.ComplexArith
import Derived.Deep.RegionHeld3
import Derived.Deep.QuietTactic
import Derived.BigQuiet
import Derived.Below
import Derived.Lib.Hide
import Derived.Outline
import Derived.LoopTactic
import Derived.OwnWalk
import Derived.Laws.AppendOwnNone
/-! Slices that are read: a list whose elements lie row by row. -/
namespace Go
set_option linter.unusedSimpArgs false
set_option linter.unusedVariables false
open Go.RowKit

/-- v is a slice of the elements l, each of k cells. -/
def RowsAt {α : Type} (k : Nat) (enc : α → List Value) (w : World) (v : Value) (l : List α) : Prop :=
  ∃ a cap, v = .slice a l.length cap ∧ l.length ≤ maxLen ∧ (l ≠ [] → ∃ b off, a = some ⟨b, off, none⟩ ∧ ∀ (i : Nat) (x : α), l[i]? = some x → ∀ (j : Nat) (u : Value), (enc x)[j]? = some u → w.cell? ⟨b, off + i * k + j, none⟩ = some u)

section
variable {α : Type} {k : Nat} {enc : α → List Value} {w w' : World} {v : Value} {l : List α}

theorem RowsAt.of_cells (h : RowsAt k enc w v l) (hc : ∀ a u, w.cell? a = some u → w'.cell? a = some u) : RowsAt k enc w' v l := by
  obtain ⟨a, cap, rfl, hm, hl⟩ := h
  refine ⟨a, cap, rfl, hm, fun hne => ?_⟩
  obtain ⟨b, off, rfl, hx⟩ := hl hne
  exact ⟨b, off, rfl, fun i x hi j u hu => hc _ _ (hx i x hi j u hu)⟩

theorem below_keeps (h : Below w.heap.size w w') (a : Addr) (u : Value) (hc : w.cell? a = some u) : w'.cell? a = some u :=
  (h.cell (World.block_lt_of_cell? w a hc)).trans hc

theorem RowsAt.grew (h : RowsAt k enc w v l) (g : Grew w w') : RowsAt k enc w' v l := h.of_cells (below_keeps g.below)
theorem RowsAt.nil : RowsAt k enc w (.slice none 0 0) [] := ⟨none, 0, rfl, Nat.zero_le _, fun h => absurd rfl h⟩

/-- a slice that was just made. -/
theorem RowsAt.made (c : Array Value) (t : TypeId) (cap : Nat) (hl : l.length ≤ maxLen) (hc : ∀ (i : Nat) (x : α), l[i]? = some x → ∀ (j : Nat) (u : Value), (enc x)[j]? = some u → c[i * k + j]? = some u) :
    RowsAt k enc (w.alloc (.cells c t)) (.slice (some ⟨w.heap.size, 0, none⟩) l.length cap) l := by
  refine ⟨_, cap, rfl, hl, fun _ => ⟨_, _, rfl, fun i x hi j u hu => ?_⟩⟩
  rw [World.cell?_alloc_new, Nat.zero_add]
  exact hc i x hi j u hu

theorem flat_get (henc : ∀ x, (enc x).length = k) : ∀ (l : List α) (i : Nat) (x : α), l[i]? = some x → ∀ (j : Nat) (u : Value), (enc x)[j]? = some u → (l.flatMap enc)[i * k + j]? = some u
  | [], i, x, hi, _, _, _ => by simp at hi
  | y :: l, 0, x, hi, j, u, hu => by
    simp at hi; subst hi
    rw [List.flatMap_cons, Nat.zero_mul, Nat.zero_add, List.getElem?_append_left (List.getElem?_eq_some_iff.1 hu).1]
    exact hu
  | y :: l, i + 1, x, hi, j, u, hu => by
    rw [List.flatMap_cons, Nat.add_one_mul, List.getElem?_append_right (by rw [henc]; omega), henc, show i * k + k + j - k = i * k + j by omega]
    exact flat_get henc l i x (by simpa using hi) j u hu

/-- a slice that was just made, its cells written out. -/
theorem RowsAt.fresh {n : Nat} {t : TypeId} {cap : Nat} {ls : Nat} {c : List Value} (hls : ls = l.length) (hl : l.length ≤ maxLen) (henc : ∀ x, (enc x).length = k) (hn : n = w.heap.size) (hc : c = l.flatMap enc) :
    RowsAt k enc (w.alloc (.cells c.toArray t)) (.slice (some ⟨n, 0, none⟩) ls cap) l := by
  subst hls hn hc
  exact RowsAt.made _ t cap hl fun i x hi j u hu => by
    rw [List.getElem?_toArray]; exact flat_get henc l i x hi j u hu

/-- As far as a slice is cut. -/
theorem RowsAt.len (h : RowsAt k enc w v l) : ∃ a cap, v = .slice a l.length cap := let ⟨a, cap, e, _⟩ := h; ⟨a, cap, e⟩
end

/-- two cells an element -/
theorem RowsAt.open2 {α : Type} {f g : α → Value} {w : World} {v : Value} {l : List α} (h : RowsAt 2 (fun x => [f x, g x]) w v l) :
    ∃ a cap, v = .slice a l.length cap ∧ l.length ≤ 9223372036854775807 ∧ ∀ i (hi : i < l.length), ∃ b off, a = some ⟨b, off, none⟩ ∧ Pre b w ∧ w.cell? ⟨b, off + i * 2, none⟩ = some (f l[i]) ∧ w.cell? ⟨b, off + i * 2 + 1, none⟩ = some (g l[i]) := by
  obtain ⟨a, cap, rfl, hm, hl⟩ := h
  refine ⟨a, cap, rfl, by unfold maxLen at hm; omega, fun i hi => ?_⟩
  obtain ⟨b, off, rfl, hx⟩ := hl (by intro e; subst e; simp at hi)
  have h0 := hx i l[i] (List.getElem?_eq_getElem hi) 0 (f l[i]) rfl
  have h1 := hx i l[i] (List.getElem?_eq_getElem hi) 1 (g l[i]) rfl
  exact ⟨b, off, rfl, Pre.ofCell h0, h0, h1⟩
theorem RowsAt.open1 {α : Type} {f : α → Value} {w : World} {v : Value} {l : List α} (h : RowsAt 1 (fun x => [f x]) w v l) :
    ∃ a cap, v = .slice a l.length cap ∧ l.length ≤ 9223372036854775807 ∧ ∀ i (hi : i < l.length), ∃ b off, a = some ⟨b, off, none⟩ ∧ Pre b w ∧ w.cell? ⟨b, off + i, none⟩ = some (f l[i]) := by
  obtain ⟨a, cap, rfl, hm, hl⟩ := h
  refine ⟨a, cap, rfl, by unfold maxLen at hm; omega, fun i hi => ?_⟩
  obtain ⟨b, off, rfl, hx⟩ := hl (by intro e; subst e; simp at hi)
  have h0 := hx i l[i] (List.getElem?_eq_getElem hi) 0 (f l[i]) rfl
  rw [Nat.mul_one, Nat.add_zero] at h0
  exact ⟨b, off, rfl, Pre.ofCell h0, h0⟩
end Go

/-! The contracts of package gauss, and of the other text of it. -/
namespace Go.Proofs.YtangapokicnfgaaGreat
set_option linter.unusedSimpArgs false
set_option linter.unusedVariables false
open Go.RowKit Ga

/-- The call returns v; there are new blocks, nothing else has turned. -/
def Gives (v : Value) (w : World) (e : Ending) (w' : World) : Prop := e = .returned v ∧ Grew w w'
abbrev vv (a : Ga.Val) : Value := .agg #[.int .i64 a.1, .int .i64 a.2]
def encVal (a : Ga.Val) : List Value := [.int .i64 a.1, .int .i64 a.2]
abbrev ValsAt (w : World) (v : Value) (l : List Ga.Val) : Prop := RowsAt 2 (fun a : Ga.Val => [.int .i64 a.1, .int .i64 a.2]) w v l

theorem Tryz.mixed : Tryz.prog.follows .mixedOrders = true := by kernel_rfl

theorem field_re (a : Ga.Val) (w : World) : (Instr.field 94 (vv a) 0).run Tryz.prog w = .ok (.int .i64 a.1) w := by kernel_rfl

theorem field_im (a : Ga.Val) (w : World) : (Instr.field 94 (vv a) 1).run Tryz.prog w = .ok (.int .i64 a.2) w := by kernel_rfl

theorem into_any (n : Int) (w : World) : Calls Tryz.prog 135 #[.int .i64 n] w fun e w' => e = .returned (.int .i64 (into n)) ∧ w = w' := by
  have h1 := tmod_lt n
  have h2 := lt_tmod n
  unfold into
  by_cases c1 : n.tmod 1048576 < 0
  · by_cases c2 : n.tmod 1048576 + 1048576 ≥ 524288
    all_goals
      go_enter Tryz.func135, Tryz.ntmps135
      go_wp2
      go_ret
      refine ⟨?_, rfl⟩
      simp [c1, c2]
  · by_cases c2 : n.tmod 1048576 ≥ 524288
    all_goals
      go_enter Tryz.func135, Tryz.ntmps135
      go_wp2
      go_ret
      refine ⟨?_, rfl⟩
      simp [c1, c2]

theorem refInto_any (n : Int) (w : World) : Calls Tryz.prog 134 #[.int .i64 n] w fun e w' => e = .returned (.int .i64 (into n)) ∧ w = w' := by
  have h1 := tmod_lt n
  have h2 := lt_tmod n
  have h3 := into_ref n
  by_cases c1 : n.tmod 1048576 < -524288
  · rw [if_pos c1] at h3
    by_cases c2 : n.tmod 1048576 + 1048576 ≥ 524288
    · omega
    · rw [if_neg c2] at h3
      rw [← h3]
      go_enter Tryz.func134, Tryz.ntmps134
      clear h3
      go_wp2
      go_ret
      exact ⟨rfl, rfl⟩
  · rw [if_neg c1] at h3
    by_cases c2 : n.tmod 1048576 ≥ 524288
    · rw [if_pos c2] at h3
      rw [← h3]
      go_enter Tryz.func134, Tryz.ntmps134
      clear h3
      go_wp2
      go_ret
      exact ⟨rfl, rfl⟩
    · rw [if_neg c2] at h3
      rw [← h3]
      go_enter Tryz.func134, Tryz.ntmps134
      clear h3
      go_wp2
      go_ret
      exact ⟨rfl, rfl⟩

theorem of_any (x y : Int) (w : World) : Calls Tryz.prog 120 #[.int .i64 x, .int .i64 y] w (Gives (.agg #[.int .i64 (into x), .int .i64 (into y)]) w) := by
  go_enter Tryz.func120, Tryz.ntmps120
  go_wp2_with (go_at_call 135; refine (into_any _ _).mono ?_; rintro e w' ⟨rfl, rfl⟩)
  refine bodyPost_ret (v := .agg #[.int .i64 (into x), .int .i64 (into y)]) (by simp [results, Tryz.results120, go_sem]) rfl ⟨rfl, ?_⟩
  exact (Grew.refl _).alloc _

theorem refOf_any (x y : Int) (w : World) : Calls Tryz.prog 119 #[.int .i64 x, .int .i64 y] w (Gives (.agg #[.int .i64 (into x), .int .i64 (into y)]) w) := by
  go_enter Tryz.func119, Tryz.ntmps119
  go_wp2_with (go_at_call 134; refine (refInto_any _ _).mono ?_; rintro e w' ⟨rfl, rfl⟩)
  refine bodyPost_ret (v := .agg #[.int .i64 (into x), .int .i64 (into y)]) (by simp [results, Tryz.results119, go_sem]) rfl ⟨rfl, ?_⟩
  exact (Grew.refl _).alloc _

def fl (z : Int) : Nat := floatOfInt .f64 z
theorem fl_rep (z : Int) (h : z.natAbs < 2 ^ 53) : Fl.Rep (fl z) z := Fl.Rep.ofInt z h




/-- Between -2^19 and 2^19. -/
abbrev In (x : Int) : Prop := -524288 ≤ x ∧ x < 524288
theorem mul_bound (x y : Int) (hx : In x) (hy : In y) : -274877906944 ≤ x * y ∧ x * y ≤ 274877906944 := by
  have h := Int.natAbs_mul x y
  have h3 : x.natAbs * y.natAbs ≤ 524288 * 524288 := Nat.mul_le_mul (by omega) (by omega)
  omega




theorem foldTo_succ {f : Val → Val → Val} {z : Val} (l : List Val) (k : Nat) (h : k < l.length) : (l.take (k + 1)).foldl f z = f ((l.take k).foldl f z) l[k] := by
  rw [List.take_succ_eq_append_getElem h, List.foldl_append]; rfl



end Go.Proofs.YtangapokicnfgaaGreat

/-! Slices that a call has made itself, and append onto them. -/
namespace Go
set_option linter.unusedSimpArgs false
set_option linter.unusedVariables false
open Go.RowKit

/-- v is a slice of the elements l, made behind block 'base'. -/
def OwnAt {α : Type} (base : Nat) (e : TypeId) (k : Nat) (enc : α → List Value) (w : World) (v : Value) (l : List α) : Prop := w.ownsRow base e k v l.length (l.flatMap enc)

section
variable {α : Type} {base : Nat} {e : TypeId} {k : Nat} {enc : α → List Value} {w w' w0 : World} {v : Value} {l : List α}

theorem Grew.grown {row : Option Nat} (g : Grew w0 w) (h : w.grownBy w' row) (hr : ∀ k, row = some k → w0.heap.size ≤ k) : Grew w0 w' :=
  Grew.ofBelow (g.below.grown h g.below.size hr)

theorem OwnAt.grew (h : OwnAt base e k enc w v l) (g : Grew w w') : OwnAt base e k enc w' v l := by
  obtain ⟨h1, h2⟩ := h
  refine ⟨h1, ?_⟩
  rcases h2 with h | ⟨b, cap, cur, hv, hb, hh, r⟩
  · exact .inl h
  · refine .inr ⟨b, cap, cur, hv, hb, ?_, r⟩
    rw [g.below.block b (Array.getElem?_eq_some_iff.1 hh).1]; exact hh
theorem OwnAt.nil (w : World) : OwnAt base e k enc w (.slice none 0 0) [] := World.ownsRow_nil w base e k
theorem OwnAt.lt (h : OwnAt base e k enc w v l) : ∀ k, v.ownBlock = some k → base ≤ k := fun q hq => (World.ownsRow.lt h q hq).1

theorem addr_add_zero (b j : Nat) : ((⟨b, 0, none⟩ : Addr).add j) = ⟨b, j, none⟩ := by
  unfold Addr.add; split
  · rename_i h; have : j = 0 := by simpa using h
    rw [this]
  · simp
/-- .. it reads as the list. -/
theorem OwnAt.rows (h : OwnAt base e k enc w v l) (henc : ∀ x, (enc x).length = k) : RowsAt k enc w v l := by
  obtain ⟨h1, h2⟩ := h
  rcases h2 with ⟨rfl, h3⟩ | ⟨b, cap, cur, rfl, hb, hh, hc, hm, hs, ht⟩
  · have : l = [] := List.eq_nil_of_length_eq_zero h3
    subst this; exact RowsAt.nil
  · refine ⟨_, cap, rfl, Nat.le_trans hc hm, fun _ => ⟨b, 0, rfl, fun i x hi j u hu => ?_⟩⟩
    have h3 := flat_get henc l i x hi j u hu
    rw [← ht, List.getElem?_take] at h3
    split at h3
    · unfold World.cell?
      rw [hh]
      simpa using h3
    · cases h3
/-- .. nil, or at the head of a block. -/
theorem OwnAt.form (h : OwnAt base e k enc w v l) : (v = .slice none 0 0 ∧ l = []) ∨ ∃ b cap, v = .slice (some ⟨b, 0, none⟩) l.length cap ∧ base ≤ b ∧ l.length ≤ cap ∧ cap ≤ maxLen := by
  obtain ⟨h1, h2⟩ := h
  rcases h2 with ⟨rfl, h3⟩ | ⟨b, cap, cur, rfl, hb, hh, hc, hm, hs, ht⟩
  · exact .inl ⟨rfl, List.eq_nil_of_length_eq_zero h3⟩
  · exact .inr ⟨b, cap, rfl, hb, hc, hm⟩

theorem OwnAt.form1 {y : α} (h : OwnAt base e k enc w v (l ++ [y])) : ∃ b cap, v = .slice (some ⟨b, 0, none⟩) (l.length + 1) cap ∧ base ≤ b ∧ l.length + 1 ≤ cap ∧ cap ≤ maxLen := by
  rcases h.form with ⟨_, h⟩ | ⟨b, cap, h1, h2, h3, h4⟩
  · simp at h
  · rw [List.length_append] at h1 h3
    exact ⟨b, cap, h1, h2, h3, h4⟩

/-- a block that was just made. -/
theorem new_cells (W : World) (c : Array Value) (t : TypeId) (b : Nat) (hb : b = W.heap.size) (j : Nat) : (W.alloc (.cells c t)).cell? ⟨b, j, none⟩ = c[j]? := by
  subst hb
  rw [World.cell?_alloc_at _ _ _ _ rfl]

/-- append of one element. -/
theorem wpList_own1 {P : Program} {ops : Array Oper} {rest : List Oper} {o : Oper} {a : Act} {Q : Exit → Act → World → Prop} {W : World}
    (hgd : o.guard = none) (s x : Operand) (t : TypeId) (z : Value) (bytes c0 b : Nat) (y : α)
    (ho : o.op = .call { callee := .builtin .append, args := #[s, x], argTypes := #[t, t] })
    (ht : P.underlying t = some (.slice e)) (hinfo : (P.info? e).map (fun i => (i.zero, i.size, i.bytes)) = some (some z, k, bytes)) (hz : z.cells.size = k) (hk : 0 < k)
    (henc : ∀ x, (enc x).length = k) (hone : ∀ x, ∀ u ∈ enc x, u.oneCell' = true)
    (hs : a.eval s = v) (hown : OwnAt w0.heap.size e k enc W v l) (hg : Grew w0 W)
    (hx : a.eval x = .slice (some ⟨b, 0, none⟩) 1 c0) (hb : ∀ j u, (enc y)[j]? = some u → W.cell? ⟨b, j, none⟩ = some u)
    (hlen : l.length ≤ 1000000) (hby : bytes ≤ 1000)
    (h : ∀ v' R N, OwnAt w0.heap.size e k enc (w0.more R N) v' (l ++ [y]) → wpList P ops Q rest (a.put o.dst v') (w0.more R N)) : wpList P ops Q (o :: rest) a W := by
  obtain ⟨i, hi, hz0, hz1, hz2⟩ := info_parts hinfo
  have hmul : (l.length + 1) * bytes ≤ 1000001 * 1000 := Nat.mul_le_mul (by omega) hby
  refine wpList_append_own W hgd s x t ho w0.heap.size e i z k bytes ht hi hz0 hz1 hz2 hz hk v l.length (l.flatMap enc) hs hown ⟨b, 0, none⟩ 1 c0 (enc y) hx (by rw [henc, Nat.one_mul]) ?_ (hone y) (by unfold maxLen; omega) (by omega) hg.below.size ?_
  · intro j u hj
    rw [addr_add_zero]; exact hb j u hj
  · intro v' w' h1 h2 _
    obtain ⟨R, N, rfl⟩ := hg.grown h2 (fun q hq => OwnAt.lt hown q hq)
    refine h v' R N ?_
    unfold OwnAt
    rw [List.length_append, List.flatMap_append]
    simpa using h1

theorem flat_inv (henc : ∀ x, (enc x).length = k) : ∀ (l : List α) (j : Nat) (u : Value), (l.flatMap enc)[j]? = some u → ∃ i x r, l[i]? = some x ∧ (enc x)[r]? = some u ∧ j = i * k + r
  | [], j, u, h => by simp at h
  | y :: l, j, u, h => by
    rw [List.flatMap_cons] at h
    by_cases hj : j < k
    · rw [List.getElem?_append_left (by rw [henc]; exact hj)] at h
      exact ⟨0, y, j, rfl, h, by omega⟩
    · rw [List.getElem?_append_right (by rw [henc]; omega), henc] at h
      obtain ⟨i, x, r, h1, h2, h3⟩ := flat_inv henc l (j - k) u h
      exact ⟨i + 1, x, r, by simpa using h1, h2, by rw [Nat.add_one_mul]; omega⟩
theorem flat_length (henc : ∀ x, (enc x).length = k) : ∀ (l : List α), (l.flatMap enc).length = l.length * k
  | [] => by simp
  | y :: l => by rw [List.flatMap_cons, List.length_append, henc, flat_length henc l, List.length_cons, Nat.add_one_mul]; omega
theorem addr_add_off (b off j : Nat) : ((⟨b, off, none⟩ : Addr).add j) = ⟨b, off + j, none⟩ := by
  unfold Addr.add; split
  · rename_i h; have : j = 0 := by simpa using h
    simp [this]
  · rfl
/-- As far as it is cut. -/
theorem RowsAt.take {a : Option Addr} {n cap j : Nat} (h : RowsAt k enc w (.slice a n cap) l) (hj : j ≤ n) : RowsAt k enc w (.slice a j cap) (l.take j) := by
  obtain ⟨a', cap', e, hm, hx⟩ := h
  cases e
  have hlen : (l.take j).length = j := by rw [List.length_take]; omega
  refine ⟨a, cap, by rw [hlen], by omega, fun hne => ?_⟩
  obtain ⟨b, off, rfl, hc⟩ := hx (by intro e; rw [e] at hne; simp at hne)
  refine ⟨b, off, rfl, fun i x hi r u hu => ?_⟩
  rw [List.getElem?_take] at hi
  split at hi
  · exact hc i x hi r u hu
  · cases hi

/-- append of a slice that is read. -/
theorem wpList_ownM {P : Program} {ops : Array Oper} {rest : List Oper} {o : Oper} {a : Act} {Q : Exit → Act → World → Prop} {W : World}
    (hgd : o.guard = none) (s x : Operand) (t : TypeId) (z : Value) (bytes : Nat) (vx : Value) (l2 : List α)
    (ho : o.op = .call { callee := .builtin .append, args := #[s, x], argTypes := #[t, t] })
    (ht : P.underlying t = some (.slice e)) (hinfo : (P.info? e).map (fun i => (i.zero, i.size, i.bytes)) = some (some z, k, bytes)) (hz : z.cells.size = k) (hk : 0 < k)
    (henc : ∀ x, (enc x).length = k) (hone : ∀ x, ∀ u ∈ enc x, u.oneCell' = true)
    (hs : a.eval s = v) (hown : OwnAt w0.heap.size e k enc W v l) (hg : Grew w0 W)
    (hx : a.eval x = vx) (hrows : RowsAt k enc W vx l2) (hnil : vx = .slice none 0 0 ∨ ∃ ad c, vx = .slice (some ad) l2.length c)
    (hlen : l.length + l2.length ≤ 1000000) (hby : bytes ≤ 1000)
    (h : ∀ v' R N, OwnAt w0.heap.size e k enc (w0.more R N) v' (l ++ l2) → (v' = .slice none 0 0 → v = .slice none 0 0) → wpList P ops Q rest (a.put o.dst v') (w0.more R N)) : wpList P ops Q (o :: rest) a W := by
  obtain ⟨i, hi, hz0, hz1, hz2⟩ := info_parts hinfo
  obtain ⟨a2, cap2, hv2, hm2, hc2⟩ := hrows
  rcases hnil with h0 | ⟨ad, c, h0⟩
  · subst h0
    have hl0 : l2 = [] := by
      injection hv2 with _ h1 _
      exact List.eq_nil_of_length_eq_zero h1.symm
    subst hl0
    obtain ⟨R, N, rfl⟩ := hg
    refine wpList_append_own_none hgd s x t ho w0.heap.size e i k ht hi v l.length (l.flatMap enc) hs hown hx (h v R N ?_ fun h => h)
    rw [List.append_nil]; exact hown
  · subst h0
    have hmul : (l.length + l2.length) * bytes ≤ 1000000 * 1000 := Nat.mul_le_mul hlen hby
    refine wpList_append_own W hgd s x t ho w0.heap.size e i z k bytes ht hi hz0 hz1 hz2 hz hk v l.length (l.flatMap enc) hs hown ad l2.length c (l2.flatMap enc) hx (flat_length henc l2) ?_ ?_ (by unfold maxLen; omega) (by omega) hg.below.size ?_
    · intro j u hj
      obtain ⟨q, y, r, h1, h2, rfl⟩ := flat_inv henc l2 j u hj
      obtain ⟨b, off, hb, hcell⟩ := hc2 (by intro e; subst e; simp at h1)
      cases hv2
      cases hb
      rw [addr_add_off, ← Nat.add_assoc]
      exact hcell q y h1 r u h2
    · intro u hu
      obtain ⟨y, _, hy⟩ := List.mem_flatMap.1 hu
      exact hone y u hy
    · intro v' w' h1 h2 h3
      obtain ⟨R, N, rfl⟩ := hg.grown h2 (fun q hq => OwnAt.lt hown q hq)
      refine h v' R N ?_ fun h => (h3.1 h).1
      unfold OwnAt
      rw [List.length_append, List.flatMap_append]
      exact h1
theorem OwnAt.lit (w : World) (b : Nat) (hb : b = w.heap.size) (hbase : base ≤ b) : OwnAt (α := α) base e k enc (w.alloc (.cells #[] e)) (.slice (some ⟨b, 0, none⟩) 0 0) [] := by
  subst hb
  exact World.ownsRow_lit w #[] 0 hbase (Nat.zero_le _) (by simp)
end
end Go
