import Derived.Test.YtmdmbimfdpngaaaGreatDoorMp4
import Derived.ArgAppend
import Derived.OwnWalk
import Derived.Lib.Atoi
import Derived.Lib.ItoaNum
/-! Slices of the call's own that are cut; blocks that are written. -/
namespace Go
set_option linter.unusedSimpArgs false
set_option linter.unusedVariables false
open Go.RowKit

theorem flat_take {α : Type} {k : Nat} {enc : α → List Value} (henc : ∀ x, (enc x).length = k) : ∀ (l : List α) (m : Nat), (l.take m).flatMap enc = (l.flatMap enc).take (m * k)
  | [], m => by simp
  | y :: l, 0 => by simp
  | y :: l, m + 1 => by
    have hy : (enc y).length = k := henc y
    rw [List.take_succ_cons, List.flatMap_cons, List.flatMap_cons, flat_take henc l m, Nat.add_one_mul, List.take_append, hy, List.take_of_length_le (l := enc y) (by omega), show m * k + k - k = m * k by omega]

section
variable {α : Type} {base : Nat} {e : TypeId} {k : Nat} {enc : α → List Value} {w w' w0 : World} {v : Value} {l : List α}
theorem OwnAt.cut {b n cap m : Nat} (h : OwnAt base e k enc w (.slice (some ⟨b, 0, none⟩) n cap) l) (henc : ∀ x, (enc x).length = k) (hm : m ≤ l.length) : OwnAt base e k enc w (.slice (some ⟨b, 0, none⟩) m cap) (l.take m) := by
  obtain ⟨h1, h2⟩ := h
  have hlen : (l.take m).length = m := by rw [List.length_take]; omega
  refine ⟨by rw [flat_length henc], ?_⟩
  rcases h2 with ⟨h, _⟩ | ⟨g, cap', cur, hv, hb, hh, hc, hm', hs, ht⟩
  · cases h
  · cases hv
    refine .inr ⟨b, cap, cur, by rw [hlen], hb, hh, by rw [hlen]; omega, hm', hs, ?_⟩
    rw [hlen, flat_take henc, ← ht, List.take_take]
    congr 1
    exact (Nat.min_eq_left (Nat.mul_le_mul_right k hm)).symm
/-- a slice that was just made, its cells written out -/
theorem OwnAt.fresh {n ls cap : Nat} {t : TypeId} {c : List Value} (ht : t = e) (hls : ls = l.length) (hcap : cap = l.length) (hl : l.length ≤ maxLen) (henc : ∀ x, (enc x).length = k) (hn : n = w.heap.size) (hb : base ≤ n) (hc : c = l.flatMap enc) :
    OwnAt base e k enc (w.alloc (.cells c.toArray t)) (.slice (some ⟨n, 0, none⟩) ls cap) l := by
  subst ht hls hcap hn hc
  refine ⟨flat_length henc l, .inr ⟨_, l.length, (l.flatMap enc).toArray, rfl, hb, ?_, Nat.le_refl _, hl, ?_, ?_⟩⟩
  · show (w.heap.push _)[w.heap.size]? = _
    simp
  · simp [flat_length henc l]
  · rw [List.take_of_length_le (by simp [flat_length henc l])]
/-- the block that lies behind it, if any, is of the elements' type -/
theorem OwnAt.block (h : OwnAt base e k enc w v l) {q : Nat} (hq : v.ownBlock = some q) : base ≤ q ∧ ∃ c, w.heap[q]? = some (.cells c e) := by
  obtain ⟨h1, h2⟩ := h
  rcases h2 with ⟨rfl, _⟩ | ⟨g, cap', cur, rfl, hb, hh, _⟩
  · cases hq
  · cases hq; exact ⟨hb, cur, hh⟩
theorem OwnAt.other (h : OwnAt base e k enc w v l) {q : Nat} {c : Array Value} {t : TypeId} (hq : w.heap[q]? = some (.cells c t)) (hne : t ≠ e) : v.ownBlock ≠ some q := by
  intro e1
  obtain ⟨_, c', h'⟩ := h.block e1
  rw [hq] at h'
  cases h'
  exact hne rfl
theorem OwnAt.same (h : OwnAt base e k enc w v l) (hb : ∀ b, v.ownBlock = some b → w'.heap[b]? = w.heap[b]?) : OwnAt base e k enc w' v l := by
  obtain ⟨h1, h2⟩ := h
  refine ⟨h1, ?_⟩
  rcases h2 with h | ⟨g, cap, cur, rfl, hg, hh, r⟩
  · exact .inl h
  · exact .inr ⟨g, cap, cur, rfl, hg, by rw [hb g rfl]; exact hh, r⟩
end

theorem set_self {W : World} {b o : Nat} {c : Array Value} {t : TypeId} {f : Nat × Nat} {v : Value} (h : W.heap[b]? = some (.cells c t f)) : (W.setCell ⟨b, o, none⟩ v).heap[b]? = some (.cells (c.setIfInBounds o v) t f) := by
  unfold World.setCell
  simp only [Array.getElem?_modify, if_true, h]
  rfl
theorem set_other {W : World} {b b' o : Nat} {v : Value} (h : b ≠ b') : (W.setCell ⟨b, o, none⟩ v).heap[b']? = W.heap[b']? := by
  unfold World.setCell
  simp only [Array.getElem?_modify, h, if_false]
theorem cell_of {W : World} {b o : Nat} {c : Array Value} {t : TypeId} {f : Nat × Nat} (h : W.heap[b]? = some (.cells c t f)) : W.cell? ⟨b, o, none⟩ = c[o]? := by
  unfold World.cell?; rw [h]; simp
theorem frozen_of {W : World} {b o : Nat} {c : Array Value} {t : TypeId} (h : W.heap[b]? = some (.cells c t)) : W.frozen? ⟨b, o, none⟩ = false := by
  unfold World.frozen?; rw [h]; simp
theorem heap_lt {W : World} {b : Nat} {x : Obj} (h : W.heap[b]? = some x) : b < W.heap.size := (Array.getElem?_eq_some_iff.1 h).1
theorem grew_heap {W W' : World} {b : Nat} {x : Obj} (g : Grew W W') (h : W.heap[b]? = some x) : W'.heap[b]? = some x := by
  rw [g.below.block b (heap_lt h)]; exact h
theorem Grew.set {w0 W : World} (g : Grew w0 W) {b o : Nat} (hb : w0.heap.size ≤ b) (v : Value) : Grew w0 (W.setCell ⟨b, o, none⟩ v) :=
  Grew.ofBelow (g.below.setCell hb _)
theorem heap_alloc' {W : World} {b : Nat} {x : Obj} (h : W.heap[b]? = some x) (o : Obj) : (W.alloc o).heap[b]? = some x := by
  have hb := heap_lt h
  show (W.heap.push o)[b]? = some x
  rw [Array.getElem?_push_lt hb]
  rw [← h, Array.getElem?_eq_getElem hb]
/-- What append leaves: what else is as it was, and where the new slice lies. -/
def Appended {α : Type} (w0 : World) (e : TypeId) (k : Nat) (enc : α → List Value) (W : World) (v : Value) (l : List α) (v' : Value) (W' : World) : Prop :=
  Grew w0 W' ∧ OwnAt w0.heap.size e k enc W' v' l ∧ W.heap.size ≤ W'.heap.size ∧ (∀ q, q < W.heap.size → v.ownBlock ≠ some q → W'.heap[q]? = W.heap[q]?) ∧ (∀ q, v'.ownBlock = some q → v.ownBlock = some q ∨ W.heap.size ≤ q)
theorem run_ownK {α : Type} {e : TypeId} {k : Nat} {enc : α → List Value} {w0 : World} {v : Value} {l : List α} {P : Program} {W : World} (t ty : TypeId) (z : Value) (bytes c0 b : Nat) (l2 : List α)
    (ht : P.underlying t = some (.slice e)) (hinfo : (P.info? e).map (fun i => (i.zero, i.size, i.bytes)) = some (some z, k, bytes)) (hz : z.cells.size = k) (hk : 0 < k)
    (henc : ∀ x, (enc x).length = k) (hone : ∀ x, ∀ u ∈ enc x, u.oneCell' = true)
    (hown : OwnAt w0.heap.size e k enc W v l) (hg : Grew w0 W)
    (hb : ∀ j u, (l2.flatMap enc)[j]? = some u → W.cell? ⟨b, j, none⟩ = some u)
    (hlen : l.length + l2.length ≤ 1000000) (hby : bytes ≤ 1000) :
    ∃ v' W', (Builtin.append_ #[t, t] ty #[v, .slice (some ⟨b, 0, none⟩) l2.length c0]).run P W = .ok v' W' ∧ Appended w0 e k enc W v (l ++ l2) v' W' := by
  obtain ⟨i, hi, hz0, hz1, hz2⟩ := info_parts hinfo
  have hmul : (l.length + l2.length) * bytes ≤ 1000000 * 1000 := Nat.mul_le_mul hlen hby
  have hnews : ∀ j u, (l2.flatMap enc)[j]? = some u → W.cell? ((⟨b, 0, none⟩ : Addr).add j) = some u := fun j u hj => by rw [addr_add_zero]; exact hb j u hj
  have h1c : ∀ u ∈ l2.flatMap enc, u.oneCell' = true := by
    intro u hu
    obtain ⟨y, _, hy⟩ := List.mem_flatMap.1 hu
    exact hone y u hy
  have hlt : ∀ q, v.ownBlock = some q → w0.heap.size ≤ q := fun q hq => OwnAt.lt hown q hq
  have fin : ∀ v' W' (row : Option Nat), W.grownBy W' row → (∀ q, row = some q → v.ownBlock = some q) → W'.ownsRow w0.heap.size e k v' (l.length + l2.length) (l.flatMap enc ++ l2.flatMap enc) → (∀ q, v'.ownBlock = some q → v.ownBlock = some q ∨ W.heap.size ≤ q) → Appended w0 e k enc W v (l ++ l2) v' W' := by
    intro v' W' row h2 hrow h1 h3
    refine ⟨hg.grown h2 (fun q hq => hlt q (hrow q hq)), ?_, h2.size, fun q hq hne => h2.block q hq fun e => hne (hrow q e.symm), h3⟩
    unfold OwnAt
    rw [List.length_append, List.flatMap_append]
    exact h1
  have low : ∀ {v' W' n xs}, World.ownsRow W' W.heap.size e k v' n xs → W'.ownsRow w0.heap.size e k v' n xs := by
    rintro v' W' n xs ⟨h3, h4⟩
    refine ⟨h3, ?_⟩
    rcases h4 with h | ⟨g2, cap2, cur, hv2, hb2, r⟩
    · exact .inl h
    · exact .inr ⟨g2, cap2, cur, hv2, Nat.le_trans hg.below.size hb2, r⟩
  rcases hown.form with ⟨hv, hl0⟩ | ⟨g, cap, hv, hbase, hcap, hmax⟩
  · subst hv hl0
    simp only [List.length_nil, Nat.zero_add] at hlen hmul
    obtain ⟨v', W', hrun, h1, h2, _⟩ := run_append_own (P := P) W W.heap.size t ty e i z k bytes ht hi hz0 hz1 hz2 hz hk (.slice none 0 0) 0 [] (World.ownsRow_nil W _ e k) ⟨b, 0, none⟩ l2.length c0 (l2.flatMap enc) (flat_length henc l2) hnews h1c (by unfold maxLen; omega) (by rw [Nat.zero_add]; omega) (Nat.le_refl _)
    exact ⟨v', W', hrun, fin v' W' none h2 (fun q hq => by cases hq) (low h1) fun q hq => .inr (World.ownsRow.lt h1 q hq).1⟩
  · subst hv
    by_cases hroom : l.length + l2.length ≤ cap
    · obtain ⟨W', hrun, h1, h2⟩ := run_append_fits (P := P) W w0.heap.size t ty e i k ht hi hz1 g l.length cap (l.flatMap enc) hown ⟨b, 0, none⟩ l2.length c0 (l2.flatMap enc) (flat_length henc l2) hnews h1c hroom
      exact ⟨_, W', hrun, fin _ W' (some g) h2 (fun q hq => hq) h1 fun q hq => .inl hq⟩
    · have hr := hown.rows henc
      have hold : ∀ j u, (l.flatMap enc)[j]? = some u → W.cell? ((⟨g, 0, none⟩ : Addr).add j) = some u := by
        intro j u hj
        obtain ⟨q, y, r, h1, h2, rfl⟩ := flat_inv henc l j u hj
        obtain ⟨a2, cap2, hv2, _, hc2⟩ := hr
        obtain ⟨b3, off, hb3, hcell⟩ := hc2 (by intro e; subst e; simp at h1)
        cases hv2
        cases hb3
        rw [addr_add_zero]
        have := hcell q y h1 r u h2
        simpa using this
      obtain ⟨v', W', hrun, h1, h2⟩ := run_append_arg_grows (P := P) W t ty e i z k bytes ht hi hz0 hz1 hz2 hz hk ⟨g, 0, none⟩ l.length cap (l.flatMap enc) (flat_length henc l) hold ⟨b, 0, none⟩ l2.length c0 (l2.flatMap enc) (flat_length henc l2) hnews (by omega) (by unfold maxLen; omega) (by omega)
      exact ⟨v', W', hrun, fin v' W' none h2 (fun q hq => by cases hq) (low h1) fun q hq => .inr (World.ownsRow.lt h1 q hq).1⟩
theorem wpList_ownK {α : Type} {e : TypeId} {k : Nat} {enc : α → List Value} {w0 : World} {v : Value} {l : List α} {P : Program} {ops : Array Oper} {rest : List Oper} {o : Oper} {a : Act} {Q : Exit → Act → World → Prop} {W : World}
    (hgd : o.guard = none) (s x : Operand) (t : TypeId) (z : Value) (bytes c0 b : Nat) (l2 : List α)
    (ho : o.op = .call { callee := .builtin .append, args := #[s, x], argTypes := #[t, t] })
    (ht : P.underlying t = some (.slice e)) (hinfo : (P.info? e).map (fun i => (i.zero, i.size, i.bytes)) = some (some z, k, bytes)) (hz : z.cells.size = k) (hk : 0 < k)
    (henc : ∀ x, (enc x).length = k) (hone : ∀ x, ∀ u ∈ enc x, u.oneCell' = true)
    (hs : a.eval s = v) (hown : OwnAt w0.heap.size e k enc W v l) (hg : Grew w0 W)
    (hx : a.eval x = .slice (some ⟨b, 0, none⟩) l2.length c0) (hb : ∀ j u, (l2.flatMap enc)[j]? = some u → W.cell? ⟨b, j, none⟩ = some u)
    (hlen : l.length + l2.length ≤ 1000000) (hby : bytes ≤ 1000) (hne2 : 0 < l2.length)
    (h : ∀ v' W', Appended w0 e k enc W v (l ++ l2) v' W' → wpList P ops Q rest (a.put o.dst v') W') : wpList P ops Q (o :: rest) a W := by
  refine wpList_plain hgd fun K hK' => ?_
  obtain ⟨v', W', hrun, hA⟩ := run_ownK (P := P) (c0 := c0) t o.type z bytes b l2 ht hinfo hz hk henc hone hown hg hb hlen hby
  unfold Oper.wp
  simp [execOp, ho, resolve, invoke, builtin, hs, hx, hrun, Result.andThen]
  exact hK' _ _ (h v' W' hA)
/-- .. as a step of a region that draws its order. -/
theorem step_ownK {α : Type} {e : TypeId} {k : Nat} {enc : α → List Value} {w0 : World} {v : Value} {l : List α} {P : Program} {ops : Array Oper} {o : Oper} {a : Act} {K : Act → World → Prop} {Q : Exit → Act → World → Prop} {E : Prop} {W : World}
    (hgd : o.guard = none) (s x : Operand) (t : TypeId) (z : Value) (bytes c0 b : Nat) (l2 : List α)
    (ho : o.op = .call { callee := .builtin .append, args := #[s, x], argTypes := #[t, t] })
    (ht : P.underlying t = some (.slice e)) (hinfo : (P.info? e).map (fun i => (i.zero, i.size, i.bytes)) = some (some z, k, bytes)) (hz : z.cells.size = k) (hk : 0 < k)
    (henc : ∀ x, (enc x).length = k) (hone : ∀ x, ∀ u ∈ enc x, u.oneCell' = true)
    (hs : a.eval s = v) (hown : OwnAt w0.heap.size e k enc W v l) (hg : Grew w0 W)
    (hx : a.eval x = .slice (some ⟨b, 0, none⟩) l2.length c0) (hb : ∀ j u, (l2.flatMap enc)[j]? = some u → W.cell? ⟨b, j, none⟩ = some u)
    (hlen : l.length + l2.length ≤ 1000000) (hby : bytes ≤ 1000) (hne2 : 0 < l2.length)
    (h : ∀ v' W', Appended w0 e k enc W v (l ++ l2) v' W' → K (a.put o.dst v') W') : if Region.wanted o (yielded ops a.tmps) = true then Oper.wp P o a W K Q else E := by
  have hw : Region.wanted o (yielded ops a.tmps) = true := by simp [Region.wanted, hgd]
  rw [if_pos hw]
  obtain ⟨v', W', hrun, hA⟩ := run_ownK (P := P) (c0 := c0) t o.type z bytes b l2 ht hinfo hz hk henc hone hown hg hb hlen hby
  unfold Oper.wp
  simp [execOp, ho, resolve, invoke, builtin, hs, hx, hrun, Result.andThen]
  exact h v' W' hA
theorem Appended.refl {α : Type} {w0 : World} {e : TypeId} {k : Nat} {enc : α → List Value} {W : World} {v : Value} {l : List α} (hg : Grew w0 W) (h : OwnAt w0.heap.size e k enc W v l) : Appended w0 e k enc W v l v W :=
  ⟨hg, h, Nat.le_refl _, fun _ _ _ => rfl, fun q hq => .inl hq⟩
theorem own_some' {α : Type} {base : Nat} {e : TypeId} {k : Nat} {enc : α → List Value} {w : World} {v : Value} {l : List α} (h : OwnAt base e k enc w v l) (hne : 0 < l.length) : ∃ b cap, v = .slice (some ⟨b, 0, none⟩) l.length cap := by
  rcases h.form with ⟨_, h⟩ | ⟨b, cap, h, _⟩
  · rw [h] at hne; cases hne
  · exact ⟨b, cap, h⟩
end Go

/-! Texts of numbers and of values: plain laws. -/
namespace Tx
set_option linter.unusedSimpArgs false
set_option linter.unusedVariables false
open Go.Lib

def isDig (b : UInt8) : Bool := decide (48 ≤ b.toNat) && decide (b.toNat ≤ 57)
def isPM (b : UInt8) : Bool := b == 43 || b == 45

theorem ofNat_toNat (k : Nat) (h : k < 256) : (UInt8.ofNat k).toNat = k := by simp [UInt8.toNat_ofNat']; omega
theorem dig_ofNat (k : Nat) (h : k < 10) : isDig (UInt8.ofNat (48 + k)) = true := by
  unfold isDig; rw [ofNat_toNat _ (by omega)]; simp; omega
theorem dec_dig (n : Nat) : ∀ b ∈ decDigits n, isDig b = true := by
  induction n using Nat.strongRecOn with
  | _ n ih =>
    intro b hb
    rw [decDigits] at hb
    split at hb
    · rw [List.mem_singleton] at hb; subst hb; exact dig_ofNat n (by omega)
    · rcases List.mem_append.1 hb with h | h
      · exact ih _ (by omega) b h
      · rw [List.mem_singleton] at h; subst h; exact dig_ofNat (n % 10) (Nat.mod_lt n (by decide))
theorem dec_ne (n : Nat) : decDigits n ≠ [] := by
  rw [decDigits]; split <;> simp
theorem not_pm_of_dig {b : UInt8} (h : isDig b = true) : isPM b = false := by
  unfold isDig at h; unfold isPM
  simp only [Bool.and_eq_true, decide_eq_true_eq] at h
  rw [Bool.or_eq_false_iff, beq_eq_false_iff_ne, beq_eq_false_iff_ne]
  constructor
  · rintro rfl; exact absurd h.1 (by decide)
  · rintro rfl; exact absurd h.1 (by decide)

theorem decFrom_digits (acc : Nat) (l : List UInt8) (x : UInt8) (k : Nat) (hx : digitVal x = some k) : ∀ (m : Nat), decFrom acc l = some m → decFrom acc (l ++ [x]) = some (m * 10 + k) := by
  induction l generalizing acc with
  | nil => intro m h; simp [decFrom] at h ⊢; subst h; simp [hx]
  | cons y l ih =>
    intro m h
    rw [List.cons_append, decFrom]
    rw [decFrom] at h
    cases hy : digitVal y with
    | none => rw [hy] at h; simp at h
    | some d => rw [hy] at h; simp at h ⊢; exact ih _ m h

theorem digitVal_ofNat (k : Nat) (h : k < 10) : digitVal (UInt8.ofNat (48 + k)) = some k := by
  unfold digitVal; rw [ofNat_toNat _ (by omega), if_pos (by omega)]; congr 1; omega
theorem decFrom_dec (n : Nat) : decFrom 0 (decDigits n) = some n := by
  induction n using Nat.strongRecOn with
  | _ n ih =>
    rw [decDigits]
    split
    · rename_i h
      rw [decFrom, digitVal_ofNat n h]; simp [decFrom]
    · rw [decFrom_digits 0 _ _ (n % 10) (digitVal_ofNat _ (Nat.mod_lt _ (by decide))) (n / 10) (ih _ (by omega))]
      congr 1; omega
theorem decNat_dec (n : Nat) : decNat (decDigits n) = some n := by
  unfold decNat
  rw [decFrom_dec]
  have := dec_ne n
  cases h : decDigits n with
  | nil => exact absurd h this
  | cons => rfl

theorem atoi_itoa (n : Int) : atoi (itoa n) = some n := by
  unfold itoa
  split
  · rename_i h
    rw [atoi, if_pos (by decide), decNat_dec]; simp; omega
  · rename_i h
    cases hd : decDigits n.toNat with
    | nil => exact absurd hd (dec_ne _)
    | cons b r =>
      have hb : isDig b = true := dec_dig n.toNat b (by rw [hd]; exact List.mem_cons_self)
      have hp := not_pm_of_dig hb
      unfold isPM at hp
      rw [Bool.or_eq_false_iff] at hp
      rw [atoi]
      rw [hp.1, hp.2, ← hd, decNat_dec]
      simp; omega
theorem dec_len (m k : Nat) (h : m < 10 ^ (k + 1)) : (decDigits m).length ≤ k + 1 := by
  induction k generalizing m with
  | zero => rw [decDigits, dif_pos (by omega)]; simp
  | succ k ih =>
    rw [decDigits]
    split
    · simp
    · have := ih (m / 10) (by rw [Nat.pow_succ] at h; omega)
      simp; omega
theorem itoa_len6 (n : Int) (h : -524288 ≤ n ∧ n < 524288) : (itoa n).length ≤ 7 := by
  unfold itoa
  split
  · have := dec_len n.natAbs 5 (by omega); simp; omega
  · have := dec_len n.toNat 5 (by omega); omega
end Tx
