import Derived.Test.YtmdmbimfdpngaaaGreatDoorRegion
import Derived.Test.YtmdmbimfdpngaaaGreatDoorRows
import Derived.Test.YtmdmbimfdpngaaaGreatDoorMp0
import Derived.WalkKit
import Derived.WalkSpells
import Derived.StillTactics
import Derived.Laws.Pointers
import Derived.Laws.ComplexArith
import Derived.Deep.RegionHeld3
import Derived.Deep.QuietTactic
import Derived.BigQuiet
import Derived.Below
import Derived.Lib.Hide
import Derived.Outline
import Derived.LoopTactic
/-! Slices that are read: a list whose elements lie row by row. -/
namespace Go
set_option linter.unusedSimpArgs false
set_option linter.unusedVariables false
open Go.RowKit

/-- v is a slice of the elements l, each of k cells. -/
def RowsAt {α : Type} (k : Nat) (enc : α → List Value) (w : World) (v : Value) (l : List α) : Prop :=
  ∃ a cap, v = .slice a l.length cap ∧ l.length ≤ maxLen ∧ (l ≠ [] → ∃ b off, a = some ⟨b, off, none⟩ ∧ ∀ (i : Nat) (x : α), l[i]? = some x → ∀ (j : Nat) (u : Value), (enc x)[j]? = some u → w.cell? ⟨b, off + i * k + j, none⟩ = some u)

section
variable {α : Type} {k : Nat} {enc : α → List Value} {w w' : World} {v : Value} {l : List α}

theorem RowsAt.of_cells (h : RowsAt k enc w v l) (hc : ∀ a u, w.cell? a = some u → w'.cell? a = some u) : RowsAt k enc w' v l := by
  obtain ⟨a, cap, rfl, hm, hl⟩ := h
  refine ⟨a, cap, rfl, hm, fun hne => ?_⟩
  obtain ⟨b, off, rfl, hx⟩ := hl hne
  exact ⟨b, off, rfl, fun i x hi j u hu => hc _ _ (hx i x hi j u hu)⟩

theorem below_keeps (h : Below w.heap.size w w') (a : Addr) (u : Value) (hc : w.cell? a = some u) : w'.cell? a = some u :=
  (h.cell (World.block_lt_of_cell? w a hc)).trans hc

theorem RowsAt.grew (h : RowsAt k enc w v l) (g : Grew w w') : RowsAt k enc w' v l := h.of_cells (below_keeps g.below)
theorem RowsAt.nil : RowsAt k enc w (.slice none 0 0) [] := ⟨none, 0, rfl, Nat.zero_le _, fun h => absurd rfl h⟩

/-- a slice that was just made. -/
theorem RowsAt.made (c : Array Value) (t : TypeId) (cap : Nat) (hl : l.length ≤ maxLen) (hc : ∀ (i : Nat) (x : α), l[i]? = some x → ∀ (j : Nat) (u : Value), (enc x)[j]? = some u → c[i * k + j]? = some u) :
    RowsAt k enc (w.alloc (.cells c t)) (.slice (some ⟨w.heap.size, 0, none⟩) l.length cap) l := by
  refine ⟨_, cap, rfl, hl, fun _ => ⟨_, _, rfl, fun i x hi j u hu => ?_⟩⟩
  rw [World.cell?_alloc_new, Nat.zero_add]
  exact hc i x hi j u hu

theorem flat_get (henc : ∀ x, (enc x).length = k) : ∀ (l : List α) (i : Nat) (x : α), l[i]? = some x → ∀ (j : Nat) (u : Value), (enc x)[j]? = some u → (l.flatMap enc)[i * k + j]? = some u
  | [], i, x, hi, _, _, _ => by simp at hi
  | y :: l, 0, x, hi, j, u, hu => by
    simp at hi; subst hi
    rw [List.flatMap_cons, Nat.zero_mul, Nat.zero_add, List.getElem?_append_left (List.getElem?_eq_some_iff.1 hu).1]
    exact hu
  | y :: l, i + 1, x, hi, j, u, hu => by
    rw [List.flatMap_cons, Nat.add_one_mul, List.getElem?_append_right (by rw [henc]; omega), henc, show i * k + k + j - k = i * k + j by omega]
    exact flat_get henc l i x (by simpa using hi) j u hu

/-- a slice that was just made, its cells written out. -/
theorem RowsAt.fresh {n : Nat} {t : TypeId} {cap : Nat} {ls : Nat} {c : List Value} (hls : ls = l.length) (hl : l.length ≤ maxLen) (henc : ∀ x, (enc x).length = k) (hn : n = w.heap.size) (hc : c = l.flatMap enc) :
    RowsAt k enc (w.alloc (.cells c.toArray t)) (.slice (some ⟨n, 0, none⟩) ls cap) l := by
  subst hls hn hc
  exact RowsAt.made _ t cap hl fun i x hi j u hu => by
    rw [List.getElem?_toArray]; exact flat_get henc l i x hi j u hu

/-- As far as a slice is cut. -/
theorem RowsAt.len (h : RowsAt k enc w v l) : ∃ a cap, v = .slice a l.length cap := let ⟨a, cap, e, _⟩ := h; ⟨a, cap, e⟩
end

/-- two cells an element -/
theorem RowsAt.open2 {α : Type} {f g : α → Value} {w : World} {v : Value} {l : List α} (h : RowsAt 2 (fun x => [f x, g x]) w v l) :
    ∃ a cap, v = .slice a l.length cap ∧ l.length ≤ 9223372036854775807 ∧ ∀ i (hi : i < l.length), ∃ b off, a = some ⟨b, off, none⟩ ∧ Pre b w ∧ w.cell? ⟨b, off + i * 2, none⟩ = some (f l[i]) ∧ w.cell? ⟨b, off + i * 2 + 1, none⟩ = some (g l[i]) := by
  obtain ⟨a, cap, rfl, hm, hl⟩ := h
  refine ⟨a, cap, rfl, by unfold maxLen at hm; omega, fun i hi => ?_⟩
  obtain ⟨b, off, rfl, hx⟩ := hl (by intro e; subst e; simp at hi)
  have h0 := hx i l[i] (List.getElem?_eq_getElem hi) 0 (f l[i]) rfl
  have h1 := hx i l[i] (List.getElem?_eq_getElem hi) 1 (g l[i]) rfl
  exact ⟨b, off, rfl, Pre.ofCell h0, h0, h1⟩
theorem RowsAt.open1 {α : Type} {f : α → Value} {w : World} {v : Value} {l : List α} (h : RowsAt 1 (fun x => [f x]) w v l) :
    ∃ a cap, v = .slice a l.length cap ∧ l.length ≤ 9223372036854775807 ∧ ∀ i (hi : i < l.length), ∃ b off, a = some ⟨b, off, none⟩ ∧ Pre b w ∧ w.cell? ⟨b, off + i, none⟩ = some (f l[i]) := by
  obtain ⟨a, cap, rfl, hm, hl⟩ := h
  refine ⟨a, cap, rfl, by unfold maxLen at hm; omega, fun i hi => ?_⟩
  obtain ⟨b, off, rfl, hx⟩ := hl (by intro e; subst e; simp at hi)
  have h0 := hx i l[i] (List.getElem?_eq_getElem hi) 0 (f l[i]) rfl
  rw [Nat.mul_one, Nat.add_zero] at h0
  exact ⟨b, off, rfl, Pre.ofCell h0, h0⟩
end Go

/-! The contracts of package gauss, and of the other text of it. -/
namespace Go.Proofs.YtmdmbimfdpngaaaGreatDoor
set_option linter.unusedSimpArgs false
set_option linter.unusedVariables false
open Go.RowKit Ga

/-- The call returns v; there are new blocks, nothing else has turned. -/
def Gives (v : Value) (w : World) (e : Ending) (w' : World) : Prop := e = .returned v ∧ Grew w w'
abbrev vv (a : Ga.Val) : Value := .agg #[.int .i64 a.1, .int .i64 a.2]
abbrev ValsAt (w : World) (v : Value) (l : List Ga.Val) : Prop := RowsAt 2 (fun a : Ga.Val => [.int .i64 a.1, .int .i64 a.2]) w v l

theorem Tryz.mixed : Tryz.prog.follows .mixedOrders = true := by kernel_rfl

theorem into_any (n : Int) (w : World) : Calls Tryz.prog 129 #[.int .i64 n] w fun e w' => e = .returned (.int .i64 (into n)) ∧ w = w' := by
  have h1 := tmod_lt n
  have h2 := lt_tmod n
  unfold into
  by_cases c1 : n.tmod 1048576 < 0
  · by_cases c2 : n.tmod 1048576 + 1048576 ≥ 524288
    all_goals
      go_enter Tryz.func129, Tryz.ntmps129
      go_wp2
      go_ret
      refine ⟨?_, rfl⟩
      simp [c1, c2]
  · by_cases c2 : n.tmod 1048576 ≥ 524288
    all_goals
      go_enter Tryz.func129, Tryz.ntmps129
      go_wp2
      go_ret
      refine ⟨?_, rfl⟩
      simp [c1, c2]

theorem refInto_any (n : Int) (w : World) : Calls Tryz.prog 111 #[.int .i64 n] w fun e w' => e = .returned (.int .i64 (into n)) ∧ w = w' := by
  have h1 := tmod_lt n
  have h2 := lt_tmod n
  have h3 := into_ref n
  by_cases c1 : n.tmod 1048576 < -524288
  · rw [if_pos c1] at h3
    by_cases c2 : n.tmod 1048576 + 1048576 ≥ 524288
    · omega
    · rw [if_neg c2] at h3
      rw [← h3]
      go_enter Tryz.func111, Tryz.ntmps111
      clear h3
      go_wp2
      go_ret
      exact ⟨rfl, rfl⟩
  · rw [if_neg c1] at h3
    by_cases c2 : n.tmod 1048576 ≥ 524288
    · rw [if_pos c2] at h3
      rw [← h3]
      go_enter Tryz.func111, Tryz.ntmps111
      clear h3
      go_wp2
      go_ret
      exact ⟨rfl, rfl⟩
    · rw [if_neg c2] at h3
      rw [← h3]
      go_enter Tryz.func111, Tryz.ntmps111
      clear h3
      go_wp2
      go_ret
      exact ⟨rfl, rfl⟩

theorem of_any (x y : Int) (w : World) : Calls Tryz.prog 82 #[.int .i64 x, .int .i64 y] w (Gives (.agg #[.int .i64 (into x), .int .i64 (into y)]) w) := by
  go_enter Tryz.func82, Tryz.ntmps82
  go_wp2_with (go_at_call 129; refine (into_any _ _).mono ?_; rintro e w' ⟨rfl, rfl⟩)
  refine bodyPost_ret (v := .agg #[.int .i64 (into x), .int .i64 (into y)]) (by simp [results, Tryz.results82, go_sem]) rfl ⟨rfl, ?_⟩
  exact (Grew.refl _).alloc _

theorem refOf_any (x y : Int) (w : World) : Calls Tryz.prog 70 #[.int .i64 x, .int .i64 y] w (Gives (.agg #[.int .i64 (into x), .int .i64 (into y)]) w) := by
  go_enter Tryz.func70, Tryz.ntmps70
  go_wp2_with (go_at_call 111; refine (refInto_any _ _).mono ?_; rintro e w' ⟨rfl, rfl⟩)
  refine bodyPost_ret (v := .agg #[.int .i64 (into x), .int .i64 (into y)]) (by simp [results, Tryz.results70, go_sem]) rfl ⟨rfl, ?_⟩
  exact (Grew.refl _).alloc _

def fl (z : Int) : Nat := floatOfInt .f64 z
theorem fl_rep (z : Int) (h : z.natAbs < 2 ^ 53) : Fl.Rep (fl z) z := Fl.Rep.ofInt z h

theorem number_any (x y : Int) (w : World) : Calls Tryz.prog 220 #[.agg #[.int .i64 x, .int .i64 y]] w (Gives (.complex .f64 (fl (into x)) (fl (into y))) w) := by
  go_enter Tryz.func220, Tryz.ntmps220
  go_wp2_with (go_at_call 82; refine (of_any _ _ _).mono ?_; rintro e w1 ⟨rfl, R, n, rfl⟩)
  go_ret
  refine ⟨rfl, ?_⟩
  repeat (first | exact Grew.refl _ | apply Grew.more | apply Grew.alloc | apply Grew.drew)

theorem conv_int {x : Int} {p : Nat} (hp : Fl.Rep p x) (bx : x.natAbs < 2 ^ 53) : ∀ w : World, (convert 320 3 (.float .f64 p)).run Tryz.prog w = .ok (.int .i64 x) w :=
  fun w => run_convert_float_int w 320 3 .f64 .i64 p x (by kernel_rfl) Tryz.underlying3 (by
    unfold floatToIntVal
    rw [show FloatKind.f64.decode p = Ieee.double.read p from rfl, hp.toInt]
    have h1 : IntKind.i64.min = -9223372036854775808 := rfl
    have h2 : IntKind.i64.max = 9223372036854775807 := rfl
    simp only [h1, h2]
    rw [if_pos (by omega)])

theorem value_any (p q : Nat) (x y : Int) (hp : Fl.Rep p x) (hq : Fl.Rep q y) (w : World) (bx : x.natAbs < 2 ^ 53) (by' : y.natAbs < 2 ^ 53) :
    Calls Tryz.prog 248 #[.complex .f64 p q] w (Gives (.agg #[.int .i64 (into x), .int .i64 (into y)]) w) := by
  have h1 := conv_int hp bx
  have h2 := conv_int hq by'
  clear hp hq bx by'
  go_enter Tryz.func248, Tryz.ntmps248
  go_wp2_with (go_at_call 82; refine (of_any _ _ _).mono ?_; rintro e w1 ⟨rfl, R, n, rfl⟩)
  refine bodyPost_ret (v := .agg #[.int .i64 (into x), .int .i64 (into y)]) (by simp [results, Tryz.results248, go_sem]) rfl ⟨rfl, ?_⟩
  repeat (first | exact Grew.refl _ | apply Grew.more | apply Grew.alloc | apply Grew.drew)

/-- Between -2^19 and 2^19. -/
abbrev In (x : Int) : Prop := -524288 ≤ x ∧ x < 524288
theorem mul_bound (x y : Int) (hx : In x) (hy : In y) : -274877906944 ≤ x * y ∧ x * y ≤ 274877906944 := by
  have h := Int.natAbs_mul x y
  have h3 : x.natAbs * y.natAbs ≤ 524288 * 524288 := Nat.mul_le_mul (by omega) (by omega)
  omega

theorem cmul (a b c d : Int) (ha : In a) (hb : In b) (hc : In c) (hd : In d) :
    ∃ re im, (∀ w : World, (binOp .mul 284 (.complex .f64 (fl a) (fl b)) (.complex .f64 (fl c) (fl d))).run Tryz.prog w = .ok (.complex .f64 re im) w) ∧ Fl.Rep re (a * c - b * d) ∧ Fl.Rep im (a * d + b * c) ∧ (a * c - b * d).natAbs < 2 ^ 53 ∧ (a * d + b * c).natAbs < 2 ^ 53 := by
  have b1 := mul_bound a c ha hc
  have b2 := mul_bound b d hb hd
  have b3 := mul_bound a d ha hd
  have b4 := mul_bound b c hb hc
  have r1 := fl_rep a (by omega)
  have r2 := fl_rep b (by omega)
  have r3 := fl_rep c (by omega)
  have r4 := fl_rep d (by omega)
  obtain ⟨p1, e1, q1⟩ := Fl.Rep.mul r1 r3 (by omega)
  obtain ⟨p2, e2, q2⟩ := Fl.Rep.mul r2 r4 (by omega)
  obtain ⟨p3, e3, q3⟩ := Fl.Rep.sub q1 q2 (by omega)
  obtain ⟨p4, e4, q4⟩ := Fl.Rep.mul r1 r4 (by omega)
  obtain ⟨p5, e5, q5⟩ := Fl.Rep.mul r2 r3 (by omega)
  obtain ⟨p6, e6, q6⟩ := Fl.Rep.add q4 q5 (by omega)
  refine ⟨p3, p6, fun w => run_complex_mul w 284 _ _ _ _ _ _ ?_, q3, q6, by omega, by omega⟩
  simp [cMulBits, floatBits, FloatKind.format, e1, e2, e3, e4, e5, e6]

theorem cadd (a b c d : Int) (ha : In a) (hb : In b) (hc : In c) (hd : In d) :
    ∃ re im, (∀ w : World, (binOp .add 284 (.complex .f64 (fl a) (fl b)) (.complex .f64 (fl c) (fl d))).run Tryz.prog w = .ok (.complex .f64 re im) w) ∧ Fl.Rep re (a + c) ∧ Fl.Rep im (b + d) ∧ (a + c).natAbs < 2 ^ 53 ∧ (b + d).natAbs < 2 ^ 53 := by
  obtain ⟨p1, e1, q1⟩ := Fl.Rep.add (fl_rep a (by omega)) (fl_rep c (by omega)) (by omega)
  obtain ⟨p2, e2, q2⟩ := Fl.Rep.add (fl_rep b (by omega)) (fl_rep d (by omega)) (by omega)
  refine ⟨p1, p2, fun w => run_complex_sum w .add (.inl rfl) 284 .f64 _ _ _ _ _ _ ?_, q1, q2, by omega, by omega⟩
  simp [cSumBits, floatBits, FloatKind.format, e1, e2]

theorem csub (a b c d : Int) (ha : In a) (hb : In b) (hc : In c) (hd : In d) :
    ∃ re im, (∀ w : World, (binOp .sub 284 (.complex .f64 (fl a) (fl b)) (.complex .f64 (fl c) (fl d))).run Tryz.prog w = .ok (.complex .f64 re im) w) ∧ Fl.Rep re (a - c) ∧ Fl.Rep im (b - d) ∧ (a - c).natAbs < 2 ^ 53 ∧ (b - d).natAbs < 2 ^ 53 := by
  obtain ⟨p1, e1, q1⟩ := Fl.Rep.sub (fl_rep a (by omega)) (fl_rep c (by omega)) (by omega)
  obtain ⟨p2, e2, q2⟩ := Fl.Rep.sub (fl_rep b (by omega)) (fl_rep d (by omega)) (by omega)
  refine ⟨p1, p2, fun w => run_complex_sum w .sub (.inr rfl) 284 .f64 _ _ _ _ _ _ ?_, q1, q2, by omega, by omega⟩
  simp [cSumBits, floatBits, FloatKind.format, e1, e2]

theorem foldTo_succ {f : Val → Val → Val} {z : Val} (l : List Val) (k : Nat) (h : k < l.length) : (l.take (k + 1)).foldl f z = f ((l.take k).foldl f z) l[k] := by
  rw [List.take_succ_eq_append_getElem h, List.foldl_append]; rfl

set_option maxHeartbeats 1000000 in
theorem mul_any (v : Value) (l : List Val) (w : World) (hv : ValsAt w v l) :
    Calls Tryz.prog 223 #[v] w (Gives (vv (prodL l)) w) := by
  obtain ⟨a, cap, rfl, hm, hl⟩ := hv.open2
  go_enter Tryz.func223, Tryz.ntmps223
  go_wp2
  go_loopw [9] (fun i wr => ∃ (k : Nat), k ≤ l.length ∧ i = .int .i64 k ∧ Grew ((w.alloc (.cells #[.int .i64 0, .int .i64 0] 47)).alloc (.cells #[.int .i64 ((l.take k).foldl mulV (1, 0)).1, .int .i64 ((l.take k).foldl mulV (1, 0)).2] 47)) wr)
    (fun i _ => l.length - (intOf i).toNat)
  case atStart => exact ⟨0, Nat.zero_le _, rfl, Grew.refl _⟩
  case round =>
    obtain ⟨k, hk, rfl, R, n, rfl⟩ := hrel
    by_cases hlt : k < l.length
    · obtain ⟨b, off, rfl, hb, hx, hy⟩ := hl k hlt
      have hs := foldTo_succ (f := mulV) (z := (1, 0)) l k hlt
      generalize l[k] = xy at *
      obtain ⟨x, y⟩ := xy
      generalize (l.take k).foldl mulV (1, 0) = pk at *
      obtain ⟨pr, pi⟩ := pk
      have HS := Lib.hid hs
      clear hs hl
      obtain ⟨re, im, hm1, q1, q2, q3, q4⟩ := cmul (into pr) (into pi) (into x) (into y) (into_range _) (into_range _) (into_range _) (into_range _)
      go_wp2
      refine wp_region_facts 6 [.val (.agg #[.int .i64 pr, .int .i64 pi]), .val (.complex .f64 (fl (into pr)) (fl (into pi))), .val (.agg #[.int .i64 x, .int .i64 y]), .val (.complex .f64 (fl (into x)) (fl (into y))), .val (.complex .f64 re im), .val (vv (mulV (pr, pi) (x, y)))] Tryz.mixed (by kernel_rfl) rfl (by kernel_rfl) ?_ ?_
      · refine ⟨?_, ?_, ?_, ?_, ?_, ?_, trivial⟩
        all_goals (rintro w1 u ⟨R1, n1, rfl⟩ -)
        all_goals simp [putFacts, Oper.deps, Region.binds, List.filter_cons, Region.dstOf, Fact.at, Act.put, World.more_drew]
        all_goals go_wp2_with (first
        | (go_at_call 220; refine (number_any _ _ _).mono ?_; rintro e w1 ⟨rfl, R1, n1, rfl⟩)
        | (go_at_call 248; refine (value_any re im _ _ q1 q2 _ q3 q4).mono ?_; rintro e w1 ⟨rfl, R1, n1, rfl⟩))
        all_goals exact ⟨by repeat (first | exact Grew.refl _ | apply Grew.more | apply Grew.alloc | apply Grew.drew), rfl, _, _, rfl, rfl, rfl⟩
      · rintro u w1 ⟨R1, n1, rfl⟩ -
        simp [putFacts, Region.dstOf, Fact.at, Act.put, List.range_succ, World.more_drew]
        go_wp2
        go_roundw
        case rel => exact ⟨k + 1, by omega, by go_num, by rw [HS.out]; repeat (first | exact Grew.refl _ | apply Grew.more | apply Grew.alloc | apply Grew.drew)⟩
        case measure => simp [intOf]; omega
    · obtain rfl : k = l.length := by omega
      go_wp2
      refine bodyPost_ret (v := vv (prodL l)) (by simp [results, Tryz.results223, go_sem, List.take_length, prodL]) rfl ⟨rfl, ?_⟩
      repeat (first | exact Grew.refl _ | apply Grew.more | apply Grew.alloc | apply Grew.drew)

set_option maxHeartbeats 1000000 in
theorem add_any (v : Value) (l : List Val) (w : World) (hv : ValsAt w v l) :
    Calls Tryz.prog 221 #[v] w (Gives (vv (sumL l)) w) := by
  obtain ⟨a, cap, rfl, hm, hl⟩ := hv.open2
  go_enter Tryz.func221, Tryz.ntmps221
  go_wp2
  go_loopw [8] (fun i wr => ∃ (k : Nat), k ≤ l.length ∧ i = .int .i64 k ∧ Grew ((w.alloc (.cells #[.int .i64 0, .int .i64 0] 47)).alloc (.cells #[.int .i64 ((l.take k).foldl addV (0, 0)).1, .int .i64 ((l.take k).foldl addV (0, 0)).2] 47)) wr)
    (fun i _ => l.length - (intOf i).toNat)
  case atStart => exact ⟨0, Nat.zero_le _, rfl, Grew.refl _⟩
  case round =>
    obtain ⟨k, hk, rfl, R, n, rfl⟩ := hrel
    by_cases hlt : k < l.length
    · obtain ⟨b, off, rfl, hb, hx, hy⟩ := hl k hlt
      have hs := foldTo_succ (f := addV) (z := (0, 0)) l k hlt
      generalize l[k] = xy at *
      obtain ⟨x, y⟩ := xy
      generalize (l.take k).foldl addV (0, 0) = pk at *
      obtain ⟨pr, pi⟩ := pk
      have HS := Lib.hid hs
      clear hs hl
      obtain ⟨re, im, hm1, q1, q2, q3, q4⟩ := cadd (into pr) (into pi) (into x) (into y) (into_range _) (into_range _) (into_range _) (into_range _)
      go_wp2
      refine wp_region_facts 6 [.val (.agg #[.int .i64 pr, .int .i64 pi]), .val (.complex .f64 (fl (into pr)) (fl (into pi))), .val (.agg #[.int .i64 x, .int .i64 y]), .val (.complex .f64 (fl (into x)) (fl (into y))), .val (.complex .f64 re im), .val (vv (addV (pr, pi) (x, y)))] Tryz.mixed (by kernel_rfl) rfl (by kernel_rfl) ?_ ?_
      · refine ⟨?_, ?_, ?_, ?_, ?_, ?_, trivial⟩
        all_goals (rintro w1 u ⟨R1, n1, rfl⟩ -)
        all_goals simp [putFacts, Oper.deps, Region.binds, List.filter_cons, Region.dstOf, Fact.at, Act.put, World.more_drew]
        all_goals go_wp2_with (first
        | (go_at_call 220; refine (number_any _ _ _).mono ?_; rintro e w1 ⟨rfl, R1, n1, rfl⟩)
        | (go_at_call 248; refine (value_any re im _ _ q1 q2 _ q3 q4).mono ?_; rintro e w1 ⟨rfl, R1, n1, rfl⟩))
        all_goals exact ⟨by repeat (first | exact Grew.refl _ | apply Grew.more | apply Grew.alloc | apply Grew.drew), rfl, _, _, rfl, rfl, rfl⟩
      · rintro u w1 ⟨R1, n1, rfl⟩ -
        simp [putFacts, Region.dstOf, Fact.at, Act.put, List.range_succ, World.more_drew]
        go_wp2
        go_roundw
        case rel => exact ⟨k + 1, by omega, by go_num, by rw [HS.out]; repeat (first | exact Grew.refl _ | apply Grew.more | apply Grew.alloc | apply Grew.drew)⟩
        case measure => simp [intOf]; omega
    · obtain rfl : k = l.length := by omega
      go_wp2
      refine bodyPost_ret (v := vv (sumL l)) (by simp [results, Tryz.results221, go_sem, List.take_length, sumL]) rfl ⟨rfl, ?_⟩
      repeat (first | exact Grew.refl _ | apply Grew.more | apply Grew.alloc | apply Grew.drew)

end Go.Proofs.YtmdmbimfdpngaaaGreatDoor
