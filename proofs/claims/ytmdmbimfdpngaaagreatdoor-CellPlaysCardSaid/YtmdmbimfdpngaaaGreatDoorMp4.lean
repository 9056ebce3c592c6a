import Derived.Test.YtmdmbimfdpngaaaGreatDoorMp3
import Derived.WalkKit
import Derived.OwnWalk
import Derived.Laws.AppendOwnNone
/-! The contracts of package gauss, part two. -/
namespace Go.Proofs.YtmdmbimfdpngaaaGreatDoor
set_option linter.unusedSimpArgs false
set_option linter.unusedVariables false
open Go.RowKit Ga

set_option maxHeartbeats 1000000 in
theorem sub_any (a b : Val) (w : World) : Calls Tryz.prog 222 #[vv a, vv b] w (Gives (vv (subV a b)) w) := by
  obtain ⟨x, y⟩ := a
  obtain ⟨p, q⟩ := b
  obtain ⟨re, im, hm1, q1, q2, q3, q4⟩ := csub (into x) (into y) (into p) (into q) (into_range _) (into_range _) (into_range _) (into_range _)
  go_enter Tryz.func222, Tryz.ntmps222
  go_wp2
  refine wp_region_seq 6 Tryz.mixed (by kernel_rfl) (by kernel_rfl) ?_
  iterate 6
    apply Seq.val
    focus
      rintro w1 u ⟨R1, n1, rfl⟩ -
      simp [putFacts, Oper.deps, Region.binds, List.filter_cons, Region.dstOf, Fact.at, Act.put, World.more_drew]
      go_wp2_with (first
      | (go_at_call 220; refine (number_any _ _ _).mono ?_; rintro e w1 ⟨rfl, R1, n1, rfl⟩)
      | (go_at_call 248; refine (value_any re im _ _ q1 q2 _ q3 q4).mono ?_; rintro e w1 ⟨rfl, R1, n1, rfl⟩))
      exact ⟨by repeat (first | exact Grew.refl _ | apply Grew.more | apply Grew.alloc | apply Grew.drew), rfl, _, _, rfl, rfl, rfl⟩
  · rintro u w1 ⟨R1, n1, rfl⟩ -
    simp [putFacts, Region.dstOf, Fact.at, Act.put, List.range_succ, World.more_drew]
    go_wp2
    refine bodyPost_ret (v := vv (subV (x, y) (p, q))) (by simp [results, Tryz.results222, go_sem, subV]) rfl ⟨rfl, ?_⟩
    repeat (first | exact Grew.refl _ | apply Grew.more | apply Grew.alloc | apply Grew.drew)

theorem run_neg_float {P : Program} (k : FloatKind) (b : Nat) (w : World) : (Op.unary .neg (.float k b)).run P w = .ok (.float k (Op.negFloat k b)) w := rfl

theorem fl_zero : fl 0 = 0 := by decide +kernel
theorem fl_one : fl 1 = 4607182418800017408 := by decide +kernel

set_option maxHeartbeats 1000000 in
theorem conj_any (a : Val) (w : World) : Calls Tryz.prog 225 #[vv a] w (Gives (vv (conjV a)) w) := by
  obtain ⟨x, y⟩ := a
  have hx := into_range x
  have hy := into_range y
  have q1 := fl_rep (into x) (by omega)
  have q2 : Fl.Rep (Op.negFloat .f64 (fl (into y))) (-into y) := Fl.Rep.neg (fl_rep (into y) (by omega))
  have hn := fun w => run_neg_float (P := Tryz.prog) .f64 (fl (into y)) w
  go_enter Tryz.func225, Tryz.ntmps225
  go_wp2_with (first
    | (go_at_call 220; refine (number_any _ _ _).mono ?_; rintro e w1 ⟨rfl, R1, n1, rfl⟩)
    | (go_at_call 248; refine (value_any _ _ _ _ q1 q2 _ (by omega) (by omega)).mono ?_; rintro e w1 ⟨rfl, R1, n1, rfl⟩))
  refine bodyPost_ret (v := vv (conjV (x, y))) (by simp [results, Tryz.results225, go_sem, conjV]) rfl ⟨rfl, ?_⟩
  repeat (first | exact Grew.refl _ | apply Grew.more | apply Grew.alloc | apply Grew.drew)

set_option maxHeartbeats 1000000 in
theorem turn_any (a : Val) (w : World) : Calls Tryz.prog 226 #[vv a] w (Gives (vv (turnV a)) w) := by
  obtain ⟨x, y⟩ := a
  obtain ⟨re, im, hm1, q1, q2, q3, q4⟩ := cmul (into x) (into y) 0 1 (into_range _) (into_range _) (by decide) (by decide)
  rw [fl_zero, fl_one] at hm1
  go_enter Tryz.func226, Tryz.ntmps226
  go_wp2_with (first
    | (go_at_call 220; refine (number_any _ _ _).mono ?_; rintro e w1 ⟨rfl, R1, n1, rfl⟩)
    | (go_at_call 248; refine (value_any _ _ _ _ q1 q2 _ q3 q4).mono ?_; rintro e w1 ⟨rfl, R1, n1, rfl⟩))
  refine bodyPost_ret (v := vv (turnV (x, y))) (by simp [results, Tryz.results226, go_sem, turnV]) rfl ⟨rfl, ?_⟩
  repeat (first | exact Grew.refl _ | apply Grew.more | apply Grew.alloc | apply Grew.drew)

theorem order_eq (a b : Int) (ha : In a) (hb : In b) : (FloatKind.f64.format.order (fl a) (fl b) == some .eq) = decide (a = b) := by
  rw [show FloatKind.f64.format.order (fl a) (fl b) = some (compare a b) from Fl.Rep.order (fl_rep a (by omega)) (fl_rep b (by omega))]
  by_cases h : a = b
  · rw [decide_eq_true h, Int.compare_eq_eq.2 h]; rfl
  · rw [decide_eq_false h, beq_eq_false_iff_ne]
    intro hc
    exact h (Int.compare_eq_eq.1 (Option.some.inj hc))
theorem order_lt (a b : Int) (ha : In a) (hb : In b) : (FloatKind.f64.format.order (fl a) (fl b) == some .lt) = decide (a < b) := by
  rw [show FloatKind.f64.format.order (fl a) (fl b) = some (compare a b) from Fl.Rep.order (fl_rep a (by omega)) (fl_rep b (by omega))]
  by_cases h : a < b
  · rw [decide_eq_true h, Int.compare_eq_lt.2 h]; rfl
  · rw [decide_eq_false h, beq_eq_false_iff_ne]
    intro hc
    exact h (Int.compare_eq_lt.1 (Option.some.inj hc))

set_option maxHeartbeats 1000000 in
theorem zero_any (a : Val) (w : World) : Calls Tryz.prog 170 #[vv a] w (Gives (.bool (zeroV a)) w) := by
  obtain ⟨x, y⟩ := a
  have h1 := order_eq (into x) 0 (into_range _) (by decide)
  have h2 := order_eq (into y) 0 (into_range _) (by decide)
  rw [fl_zero] at h1 h2
  have H1 := Lib.hid h1
  have H2 := Lib.hid h2
  clear h1 h2
  go_enter Tryz.func170, Tryz.ntmps170
  go_wp2_with (go_at_call 220; refine (number_any _ _ _).mono ?_; rintro e w1 ⟨rfl, R1, n1, rfl⟩)
  go_ret
  refine ⟨?_, ?_⟩
  · simp [H1.out, H2.out, zeroV]
  repeat (first | exact Grew.refl _ | apply Grew.more | apply Grew.alloc | apply Grew.drew)

set_option maxHeartbeats 1000000 in
theorem right_any (a : Val) (w : World) : Calls Tryz.prog 53 #[vv a] w (Gives (.bool (rightV a)) w) := by
  obtain ⟨x, y⟩ := a
  have H : rightV (x, y) = (decide (into x = x) && decide (into y = y)) := by
    unfold rightV; simp only [eq_comm]
  by_cases h1 : into x = x <;> by_cases h2 : into y = y
  all_goals
    rw [H]
    simp only [h1, h2, decide_true, decide_false, Bool.and_true, Bool.and_false, Bool.and_self]
    clear H
    try (have h1' : ¬ x = into x := fun e => h1 e.symm)
    try (have h2' : ¬ y = into y := fun e => h2 e.symm)
    go_enter Tryz.func53, Tryz.ntmps53
    go_wp2
    refine wp_region_seq 8 Tryz.mixed (by kernel_rfl) (by kernel_rfl) ?_
    iterate 8
      apply Seq.val
      focus
        rintro w1 u ⟨R1, n1, rfl⟩ -
        simp [putFacts, Oper.deps, Region.binds, List.filter_cons, Region.dstOf, Fact.at, Act.put, World.more_drew]
        go_wp2_with (first
        | (go_at_call 82; refine (of_any _ _ _).mono ?_; rintro e w1 ⟨rfl, R1, n1, rfl⟩))
        exact ⟨by repeat (first | exact Grew.refl _ | apply Grew.more | apply Grew.alloc | apply Grew.drew), rfl, _, _, rfl, rfl, rfl⟩
    rintro u w1 ⟨R1, n1, rfl⟩ -
    simp [putFacts, Region.dstOf, Fact.at, Act.put, List.range_succ, World.more_drew]
    go_wp2
    go_ret
    exact ⟨rfl, by repeat (first | exact Grew.refl _ | apply Grew.more | apply Grew.alloc | apply Grew.drew)⟩

set_option maxHeartbeats 1000000 in
theorem less_any (a b : Val) (w : World) : Calls Tryz.prog 224 #[vv a, vv b] w (Gives (.bool (lessV a b)) w) := by
  obtain ⟨x, y⟩ := a
  obtain ⟨p, q⟩ := b
  have hl := order_lt (into x) (into p) (into_range _) (into_range _)
  have HL := Lib.hid hl
  clear hl
  go_enter Tryz.func224, Tryz.ntmps224
  go_wp2
  refine wp_region_seq 8 Tryz.mixed (by kernel_rfl) (by kernel_rfl) ?_
  iterate 8
    apply Seq.val
    focus
      rintro w1 u ⟨R1, n1, rfl⟩ -
      simp [putFacts, Oper.deps, Region.binds, List.filter_cons, Region.dstOf, Fact.at, Act.put, World.more_drew]
      go_wp2_with (first
      | (go_at_call 220; refine (number_any _ _ _).mono ?_; rintro e w1 ⟨rfl, R1, n1, rfl⟩))
      exact ⟨by repeat (first | exact Grew.refl _ | apply Grew.more | apply Grew.alloc | apply Grew.drew), rfl, _, _, rfl, rfl, rfl⟩
  rintro u w1 ⟨R1, n1, rfl⟩ -
  simp [putFacts, Region.dstOf, Fact.at, Act.put, List.range_succ, World.more_drew]
  go_wp2
  go_ret
  refine ⟨?_, ?_⟩
  · simp [lessV, HL.out]
  repeat (first | exact Grew.refl _ | apply Grew.more | apply Grew.alloc | apply Grew.drew)

set_option maxHeartbeats 1000000 in
theorem refAdd_any (a b : Val) (w : World) : Calls Tryz.prog 84 #[vv a, vv b] w (Gives (vv (addV a b)) w) := by
  obtain ⟨x, y⟩ := a
  obtain ⟨p, q⟩ := b
  have b1 := into_range x
  have b2 := into_range y
  have b3 := into_range p
  have b4 := into_range q
  go_enter Tryz.func84, Tryz.ntmps84
  go_wp2
  refine wp_region_seq 15 Tryz.mixed (by kernel_rfl) (by kernel_rfl) ?_
  iterate 15
    apply Seq.val
    focus
      rintro w1 u ⟨R1, n1, rfl⟩ -
      simp [putFacts, Oper.deps, Region.binds, List.filter_cons, Region.dstOf, Fact.at, Act.put, World.more_drew]
      go_wp2_with (first
      | (go_at_call 111; refine (refInto_any _ _).mono ?_; rintro e w1 ⟨rfl, rfl⟩)
      | (go_at_call 70; refine (refOf_any _ _ _).mono ?_; rintro e w1 ⟨rfl, R1, n1, rfl⟩))
      exact ⟨by repeat (first | exact Grew.refl _ | apply Grew.more | apply Grew.alloc | apply Grew.drew), rfl, _, _, rfl, rfl, rfl⟩
  rintro u w1 ⟨R1, n1, rfl⟩ -
  simp [putFacts, Region.dstOf, Fact.at, Act.put, List.range_succ, World.more_drew]
  go_wp2
  refine bodyPost_ret (v := vv (addV (x, y) (p, q))) (by simp [results, Tryz.results84, go_sem, addV]) rfl ⟨rfl, ?_⟩
  repeat (first | exact Grew.refl _ | apply Grew.more | apply Grew.alloc | apply Grew.drew)

set_option maxHeartbeats 1000000 in
theorem refSub_any (a b : Val) (w : World) : Calls Tryz.prog 85 #[vv a, vv b] w (Gives (vv (subV a b)) w) := by
  obtain ⟨x, y⟩ := a
  obtain ⟨p, q⟩ := b
  have b1 := into_range x
  have b2 := into_range y
  have b3 := into_range p
  have b4 := into_range q
  go_enter Tryz.func85, Tryz.ntmps85
  go_wp2
  refine wp_region_seq 15 Tryz.mixed (by kernel_rfl) (by kernel_rfl) ?_
  iterate 15
    apply Seq.val
    focus
      rintro w1 u ⟨R1, n1, rfl⟩ -
      simp [putFacts, Oper.deps, Region.binds, List.filter_cons, Region.dstOf, Fact.at, Act.put, World.more_drew]
      go_wp2_with (first
      | (go_at_call 111; refine (refInto_any _ _).mono ?_; rintro e w1 ⟨rfl, rfl⟩)
      | (go_at_call 70; refine (refOf_any _ _ _).mono ?_; rintro e w1 ⟨rfl, R1, n1, rfl⟩))
      exact ⟨by repeat (first | exact Grew.refl _ | apply Grew.more | apply Grew.alloc | apply Grew.drew), rfl, _, _, rfl, rfl, rfl⟩
  rintro u w1 ⟨R1, n1, rfl⟩ -
  simp [putFacts, Region.dstOf, Fact.at, Act.put, List.range_succ, World.more_drew]
  go_wp2
  refine bodyPost_ret (v := vv (subV (x, y) (p, q))) (by simp [results, Tryz.results85, go_sem, subV]) rfl ⟨rfl, ?_⟩
  repeat (first | exact Grew.refl _ | apply Grew.more | apply Grew.alloc | apply Grew.drew)

set_option maxHeartbeats 1000000 in
theorem refMul_any (a b : Val) (w : World) : Calls Tryz.prog 86 #[vv a, vv b] w (Gives (vv (mulV a b)) w) := by
  obtain ⟨x, y⟩ := a
  obtain ⟨p, q⟩ := b
  have b1 := into_range x
  have b2 := into_range y
  have b3 := into_range p
  have b4 := into_range q
  have c1 := mul_bound _ _ b1 b3
  have c2 := mul_bound _ _ b2 b4
  have c3 := mul_bound _ _ b1 b4
  have c4 := mul_bound _ _ b2 b3
  go_enter Tryz.func86, Tryz.ntmps86
  go_wp2
  refine wp_region_seq 16 Tryz.mixed (by kernel_rfl) (by kernel_rfl) ?_
  iterate 16
    apply Seq.val
    focus
      rintro w1 u ⟨R1, n1, rfl⟩ -
      simp [putFacts, Oper.deps, Region.binds, List.filter_cons, Region.dstOf, Fact.at, Act.put, World.more_drew]
      go_wp2_with (first
      | (go_at_call 111; refine (refInto_any _ _).mono ?_; rintro e w1 ⟨rfl, rfl⟩)
      | (go_at_call 70; refine (refOf_any _ _ _).mono ?_; rintro e w1 ⟨rfl, R1, n1, rfl⟩))
      exact ⟨by repeat (first | exact Grew.refl _ | apply Grew.more | apply Grew.alloc | apply Grew.drew), rfl, _, _, rfl, rfl, rfl⟩
  rintro u w1 ⟨R1, n1, rfl⟩ -
  simp [putFacts, Region.dstOf, Fact.at, Act.put, List.range_succ, World.more_drew]
  go_wp2_with (go_at_call 70; refine (refOf_any _ _ _).mono ?_; rintro e w1 ⟨rfl, R1, n1, rfl⟩)
  refine bodyPost_ret (v := vv (mulV (x, y) (p, q))) (by simp [results, Tryz.results86, go_sem, mulV]) rfl ⟨rfl, ?_⟩
  repeat (first | exact Grew.refl _ | apply Grew.more | apply Grew.alloc | apply Grew.drew)

/-- Two numbers that an int may hold. -/
def okVal (a : Ga.Val) : Prop := (-9223372036854775808 ≤ a.1 ∧ a.1 ≤ 9223372036854775807) ∧ (-9223372036854775808 ≤ a.2 ∧ a.2 ≤ 9223372036854775807)
end Go.Proofs.YtmdmbimfdpngaaaGreatDoor

/-! Slices that a call has made itself, and append onto them. -/
namespace Go
set_option linter.unusedSimpArgs false
set_option linter.unusedVariables false
open Go.RowKit

/-- v is a slice of the elements l, made behind block 'base'. -/
def OwnAt {α : Type} (base : Nat) (e : TypeId) (k : Nat) (enc : α → List Value) (w : World) (v : Value) (l : List α) : Prop := w.ownsRow base e k v l.length (l.flatMap enc)

section
variable {α : Type} {base : Nat} {e : TypeId} {k : Nat} {enc : α → List Value} {w w' w0 : World} {v : Value} {l : List α}

theorem Grew.grown {row : Option Nat} (g : Grew w0 w) (h : w.grownBy w' row) (hr : ∀ k, row = some k → w0.heap.size ≤ k) : Grew w0 w' :=
  Grew.ofBelow (g.below.grown h g.below.size hr)

theorem OwnAt.grew (h : OwnAt base e k enc w v l) (g : Grew w w') : OwnAt base e k enc w' v l := by
  obtain ⟨h1, h2⟩ := h
  refine ⟨h1, ?_⟩
  rcases h2 with h | ⟨b, cap, cur, hv, hb, hh, r⟩
  · exact .inl h
  · refine .inr ⟨b, cap, cur, hv, hb, ?_, r⟩
    rw [g.below.block b (Array.getElem?_eq_some_iff.1 hh).1]; exact hh
theorem OwnAt.nil (w : World) : OwnAt base e k enc w (.slice none 0 0) [] := World.ownsRow_nil w base e k
theorem OwnAt.lt (h : OwnAt base e k enc w v l) : ∀ k, v.ownBlock = some k → base ≤ k := fun q hq => (World.ownsRow.lt h q hq).1

theorem addr_add_zero (b j : Nat) : ((⟨b, 0, none⟩ : Addr).add j) = ⟨b, j, none⟩ := by
  unfold Addr.add; split
  · rename_i h; have : j = 0 := by simpa using h
    rw [this]
  · simp
/-- .. it reads as the list. -/
theorem OwnAt.rows (h : OwnAt base e k enc w v l) (henc : ∀ x, (enc x).length = k) : RowsAt k enc w v l := by
  obtain ⟨h1, h2⟩ := h
  rcases h2 with ⟨rfl, h3⟩ | ⟨b, cap, cur, rfl, hb, hh, hc, hm, hs, ht⟩
  · have : l = [] := List.eq_nil_of_length_eq_zero h3
    subst this; exact RowsAt.nil
  · refine ⟨_, cap, rfl, Nat.le_trans hc hm, fun _ => ⟨b, 0, rfl, fun i x hi j u hu => ?_⟩⟩
    have h3 := flat_get henc l i x hi j u hu
    rw [← ht, List.getElem?_take] at h3
    split at h3
    · unfold World.cell?
      rw [hh]
      simpa using h3
    · cases h3
/-- .. nil, or at the head of a block. -/
theorem OwnAt.form (h : OwnAt base e k enc w v l) : (v = .slice none 0 0 ∧ l = []) ∨ ∃ b cap, v = .slice (some ⟨b, 0, none⟩) l.length cap ∧ base ≤ b ∧ l.length ≤ cap ∧ cap ≤ maxLen := by
  obtain ⟨h1, h2⟩ := h
  rcases h2 with ⟨rfl, h3⟩ | ⟨b, cap, cur, rfl, hb, hh, hc, hm, hs, ht⟩
  · exact .inl ⟨rfl, List.eq_nil_of_length_eq_zero h3⟩
  · exact .inr ⟨b, cap, rfl, hb, hc, hm⟩

theorem OwnAt.form1 {y : α} (h : OwnAt base e k enc w v (l ++ [y])) : ∃ b cap, v = .slice (some ⟨b, 0, none⟩) (l.length + 1) cap ∧ base ≤ b ∧ l.length + 1 ≤ cap ∧ cap ≤ maxLen := by
  rcases h.form with ⟨_, h⟩ | ⟨b, cap, h1, h2, h3, h4⟩
  · simp at h
  · rw [List.length_append] at h1 h3
    exact ⟨b, cap, h1, h2, h3, h4⟩

/-- a block that was just made. -/
theorem new_cells (W : World) (c : Array Value) (t : TypeId) (b : Nat) (hb : b = W.heap.size) (j : Nat) : (W.alloc (.cells c t)).cell? ⟨b, j, none⟩ = c[j]? := by
  subst hb
  rw [World.cell?_alloc_at _ _ _ _ rfl]

/-- append of one element. -/
theorem wpList_own1 {P : Program} {ops : Array Oper} {rest : List Oper} {o : Oper} {a : Act} {Q : Exit → Act → World → Prop} {W : World}
    (hgd : o.guard = none) (s x : Operand) (t : TypeId) (z : Value) (bytes c0 b : Nat) (y : α)
    (ho : o.op = .call { callee := .builtin .append, args := #[s, x], argTypes := #[t, t] })
    (ht : P.underlying t = some (.slice e)) (hinfo : (P.info? e).map (fun i => (i.zero, i.size, i.bytes)) = some (some z, k, bytes)) (hz : z.cells.size = k) (hk : 0 < k)
    (henc : ∀ x, (enc x).length = k) (hone : ∀ x, ∀ u ∈ enc x, u.oneCell' = true)
    (hs : a.eval s = v) (hown : OwnAt w0.heap.size e k enc W v l) (hg : Grew w0 W)
    (hx : a.eval x = .slice (some ⟨b, 0, none⟩) 1 c0) (hb : ∀ j u, (enc y)[j]? = some u → W.cell? ⟨b, j, none⟩ = some u)
    (hlen : l.length ≤ 1000000) (hby : bytes ≤ 1000)
    (h : ∀ v' R N, OwnAt w0.heap.size e k enc (w0.more R N) v' (l ++ [y]) → wpList P ops Q rest (a.put o.dst v') (w0.more R N)) : wpList P ops Q (o :: rest) a W := by
  obtain ⟨i, hi, hz0, hz1, hz2⟩ := info_parts hinfo
  have hmul : (l.length + 1) * bytes ≤ 1000001 * 1000 := Nat.mul_le_mul (by omega) hby
  refine wpList_append_own W hgd s x t ho w0.heap.size e i z k bytes ht hi hz0 hz1 hz2 hz hk v l.length (l.flatMap enc) hs hown ⟨b, 0, none⟩ 1 c0 (enc y) hx (by rw [henc, Nat.one_mul]) ?_ (hone y) (by unfold maxLen; omega) (by omega) hg.below.size ?_
  · intro j u hj
    rw [addr_add_zero]; exact hb j u hj
  · intro v' w' h1 h2 _
    obtain ⟨R, N, rfl⟩ := hg.grown h2 (fun q hq => OwnAt.lt hown q hq)
    refine h v' R N ?_
    unfold OwnAt
    rw [List.length_append, List.flatMap_append]
    simpa using h1

theorem flat_inv (henc : ∀ x, (enc x).length = k) : ∀ (l : List α) (j : Nat) (u : Value), (l.flatMap enc)[j]? = some u → ∃ i x r, l[i]? = some x ∧ (enc x)[r]? = some u ∧ j = i * k + r
  | [], j, u, h => by simp at h
  | y :: l, j, u, h => by
    rw [List.flatMap_cons] at h
    by_cases hj : j < k
    · rw [List.getElem?_append_left (by rw [henc]; exact hj)] at h
      exact ⟨0, y, j, rfl, h, by omega⟩
    · rw [List.getElem?_append_right (by rw [henc]; omega), henc] at h
      obtain ⟨i, x, r, h1, h2, h3⟩ := flat_inv henc l (j - k) u h
      exact ⟨i + 1, x, r, by simpa using h1, h2, by rw [Nat.add_one_mul]; omega⟩
theorem flat_length (henc : ∀ x, (enc x).length = k) : ∀ (l : List α), (l.flatMap enc).length = l.length * k
  | [] => by simp
  | y :: l => by rw [List.flatMap_cons, List.length_append, henc, flat_length henc l, List.length_cons, Nat.add_one_mul]; omega
/-- As far as it is cut. -/
theorem RowsAt.take {a : Option Addr} {n cap j : Nat} (h : RowsAt k enc w (.slice a n cap) l) (hj : j ≤ n) : RowsAt k enc w (.slice a j cap) (l.take j) := by
  obtain ⟨a', cap', e, hm, hx⟩ := h
  cases e
  have hlen : (l.take j).length = j := by rw [List.length_take]; omega
  refine ⟨a, cap, by rw [hlen], by omega, fun hne => ?_⟩
  obtain ⟨b, off, rfl, hc⟩ := hx (by intro e; rw [e] at hne; simp at hne)
  refine ⟨b, off, rfl, fun i x hi r u hu => ?_⟩
  rw [List.getElem?_take] at hi
  split at hi
  · exact hc i x hi r u hu
  · cases hi

theorem OwnAt.lit (w : World) (b : Nat) (hb : b = w.heap.size) (hbase : base ≤ b) : OwnAt (α := α) base e k enc (w.alloc (.cells #[] e)) (.slice (some ⟨b, 0, none⟩) 0 0) [] := by
  subst hb
  exact World.ownsRow_lit w #[] 0 hbase (Nat.zero_le _) (by simp)
end
end Go
