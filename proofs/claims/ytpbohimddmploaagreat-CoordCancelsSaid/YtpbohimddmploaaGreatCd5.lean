import Derived.Test.YtpbohimddmploaaGreatRows
import Derived.Test.YtpbohimddmploaaGreatCd1
import Derived.Test.YtpbohimddmploaaGreatCd2
import Derived.Test.YtpbohimddmploaaGreatCd0
import Derived.WalkKit
import Derived.WalkSpells
import Derived.StillTactics
import Derived.Laws.Pointers
import Derived.Laws.ComplexArith
import Derived.Deep.RegionHeld3
import Derived.Deep.QuietTactic
import Derived.BigQuiet
import Derived.Below
import Derived.Lib.Hide
import Derived.Outline
import Derived.LoopTactic
import Derived.Test.YtpbohimddmploaaGreatCd3
import Derived.Test.YtpbohimddmploaaGreatCd4
import Derived.Lib.LaidTab
import Derived.Lib.ConvBytes
import Derived.WalkSmall
set_option linter.unusedSimpArgs false
set_option linter.unusedVariables false
set_option maxRecDepth 100000
set_option maxHeartbeats 64000000
namespace Go.Proofs.YtpbohimddmploaaGreat
open Go.RowKit Ga

def Gives (v : Value) (w : World) (e : Ending) (w' : World) : Prop := e = .returned v ∧ Grew w w'
abbrev vv (a : Ga.Val) : Value := .agg #[.int .i64 a.1, .int .i64 a.2]
abbrev ValsAt (w : World) (v : Value) (l : List Ga.Val) : Prop := RowsAt 2 (fun a : Ga.Val => [.int .i64 a.1, .int .i64 a.2]) w v l

theorem Tryz.mixed : Tryz.prog.follows .mixedOrders = true := by kernel_rfl

theorem into_any (n : Int) (w : World) : Calls Tryz.prog 232 #[.int .i64 n] w fun e w' => e = .returned (.int .i64 (into n)) ∧ w = w' := by
  have h1 := tmod_lt n
  have h2 := lt_tmod n
  unfold into
  by_cases c1 : n.tmod 1048576 < 0
  · by_cases c2 : n.tmod 1048576 + 1048576 ≥ 524288
    all_goals
      go_enter Tryz.func232, Tryz.ntmps232
      go_wp2
      go_ret
      refine ⟨?_, rfl⟩
      simp [c1, c2]
  · by_cases c2 : n.tmod 1048576 ≥ 524288
    all_goals
      go_enter Tryz.func232, Tryz.ntmps232
      go_wp2
      go_ret
      refine ⟨?_, rfl⟩
      simp [c1, c2]

theorem of_any (x y : Int) (w : World) : Calls Tryz.prog 214 #[.int .i64 x, .int .i64 y] w (Gives (.agg #[.int .i64 (into x), .int .i64 (into y)]) w) := by
  go_enter Tryz.func214, Tryz.ntmps214
  go_wp2_with (go_at_call 232; refine (into_any _ _).mono ?_; rintro e w' ⟨rfl, rfl⟩)
  refine bodyPost_ret (v := .agg #[.int .i64 (into x), .int .i64 (into y)]) (by simp [results, Tryz.results214, go_sem]) rfl ⟨rfl, ?_⟩
  exact (Grew.refl _).alloc _

def fl (z : Int) : Nat := floatOfInt .f64 z

theorem right_any (a : Val) (w : World) : Calls Tryz.prog 187 #[vv a] w (Gives (.bool (rightV a)) w) := by
  obtain ⟨x, y⟩ := a
  have H : rightV (x, y) = (decide (into x = x) && decide (into y = y)) := by
    unfold rightV; simp only [eq_comm]
  by_cases h1 : into x = x <;> by_cases h2 : into y = y
  all_goals
    rw [H]
    simp only [h1, h2, decide_true, decide_false, Bool.and_true, Bool.and_false, Bool.and_self]
    clear H
    try (have h1' : ¬ x = into x := fun e => h1 e.symm)
    try (have h2' : ¬ y = into y := fun e => h2 e.symm)
    go_enter Tryz.func187, Tryz.ntmps187
    go_wp2
    refine wp_region_seq 8 Tryz.mixed (by kernel_rfl) (by kernel_rfl) ?_
    iterate 8
      apply Seq.val
      focus
        rintro w1 u ⟨R1, n1, rfl⟩ -
        simp [putFacts, Oper.deps, Region.binds, List.filter_cons, Region.dstOf, Fact.at, Act.put, World.more_drew]
        go_wp2_with (first
        | (go_at_call 214; refine (of_any _ _ _).mono ?_; rintro e w1 ⟨rfl, R1, n1, rfl⟩))
        exact ⟨by repeat (first | exact Grew.refl _ | apply Grew.more | apply Grew.alloc | apply Grew.drew), rfl, _, _, rfl, rfl, rfl⟩
    rintro u w1 ⟨R1, n1, rfl⟩ -
    simp [putFacts, Region.dstOf, Fact.at, Act.put, List.range_succ, World.more_drew]
    go_wp2
    go_ret
    exact ⟨rfl, by repeat (first | exact Grew.refl _ | apply Grew.more | apply Grew.alloc | apply Grew.drew)⟩


theorem grew_bytes (w : World) (t : TypeId) (x : ByteArray) : Grew w (Lib.bytesWorld w t x) := by
  apply Grew.ofBelow
  unfold Lib.bytesWorld
  exact below_freeze (((Below.refl _ _).drew).alloc (Nat.le_refl _) _) (p := ⟨w.heap.size, _, none⟩) (Nat.le_refl w.heap.size) _

def Pow (w : World) : Prop := Lib.TabIs Tryz.prog w "internal/strconv.uint64pow10" .u64 Lib.pow10Tab

theorem var_grew {n : String} {cs : Array Value} {w w' : World} (h : w.var? Tryz.prog n = some cs) (g : Grew w w') : w'.var? Tryz.prog n = some cs := by
  cases hg : Tryz.prog.globalNamed n with
  | none => unfold World.var? at h; simp [hg] at h
  | some i =>
    by_cases hi : i < w.heap.size
    · exact var?_below g.below hg hi h
    · unfold World.var? at h
      have : w.heap[i]? = none := Array.getElem?_eq_none (by omega)
      simp [hg, this] at h
theorem Pow.grew {w w' : World} (h : Pow w) (g : Grew w w') : Pow w' := var_grew h g


def encI (a : Val) : List Value := [.int .i64 a.1, .int .i64 a.2]
theorem infoIns : (Tryz.prog.info? 190).map (fun i => (i.zero, i.size, i.bytes)) = some (some (.agg #[.int .i64 0, .int .i64 0]), 2, 16) := by kernel_rfl

theorem encI_len (l : Val) : (encI l).length = 2 := rfl
theorem encI_one (l : Val) : ∀ u ∈ encI l, u.oneCell' = true := by
  intro u hu; simp [encI] at hu; rcases hu with rfl | rfl <;> rfl
theorem encI_at (W : World) (a : Val) (t : TypeId) (b : Nat) {c : Array Value} (hc : c = #[.int .i64 a.1, .int .i64 a.2]) (hb : b = W.heap.size) : ∀ j u, (encI a)[j]? = some u → (W.alloc (.cells c t)).cell? ⟨b, j, none⟩ = some u := by
  subst hc
  intro j u hu
  rw [new_cells W _ t b hb j]
  simpa [encI] using hu
end Go.Proofs.YtpbohimddmploaaGreat
namespace Go.Proofs.YtpbohimddmploaaGreat
open Go.RowKit

def encB (x : UInt8) : List Value := [.int .u8 x.toNat]
def encN (n : Int) : List Value := [.int .i64 n]
theorem infoU8 : (Tryz.prog.info? 5).map (fun i => (i.zero, i.size, i.bytes)) = some (some (.int .u8 0), 1, 1) := by kernel_rfl
theorem encB_len (x : UInt8) : (encB x).length = 1 := rfl
theorem encN_len (x : Int) : (encN x).length = 1 := rfl
theorem encB_one (x : UInt8) : ∀ u ∈ encB x, u.oneCell' = true := by intro u hu; simp [encB] at hu; subst hu; rfl

def WriterAt (base B : Nat) (W : World) (vb : Value) (bs : List UInt8) : Prop :=
  base ≤ B ∧ W.heap[B]? = some (.cells #[vb] 151) ∧ OwnAt base 5 1 encB W vb bs

theorem octFits_any (n : Int) (w : World) : Calls Tryz.prog 148 #[.int .i64 n] w fun e w' => e = .returned (.bool (Oc.fitsN n)) ∧ w = w' := by
  go_enter Tryz.func148, Tryz.ntmps148
  go_wp2
  all_goals
    go_ret
    refine ⟨?_, rfl⟩
    exact congrArg (fun b => Ending.returned (Value.bool b)) (by unfold Oc.fitsN; grind)

theorem cell_of_heap {W : World} {b o : Nat} {c : Array Value} {t : TypeId} {f : Nat × Nat} (h : W.heap[b]? = some (.cells c t f)) : W.cell? ⟨b, o, none⟩ = c[o]? := by
  unfold World.cell?; rw [h]; simp
theorem frozen_of_heap {W : World} {b o : Nat} {c : Array Value} {t : TypeId} (h : W.heap[b]? = some (.cells c t)) : W.frozen? ⟨b, o, none⟩ = false := by
  unfold World.frozen?; rw [h]; simp

theorem wpList_ownG {α : Type} {e : TypeId} {k : Nat} {enc : α → List Value} {w0 : World} {v : Value} {l : List α} {P : Program} {ops : Array Oper} {rest : List Oper} {o : Oper} {a : Act} {Q : Exit → Act → World → Prop} {W : World}
    (hgd : o.guard = none) (s x : Operand) (t : TypeId) (z : Value) (bytes c0 b : Nat) (l2 : List α)
    (ho : o.op = .call { callee := .builtin .append, args := #[s, x], argTypes := #[t, t] })
    (ht : P.underlying t = some (.slice e)) (hinfo : (P.info? e).map (fun i => (i.zero, i.size, i.bytes)) = some (some z, k, bytes)) (hz : z.cells.size = k) (hk : 0 < k)
    (henc : ∀ x, (enc x).length = k) (hone : ∀ x, ∀ u ∈ enc x, u.oneCell' = true)
    (hs : a.eval s = v) (hown : OwnAt w0.heap.size e k enc W v l) (hg : Grew w0 W)
    (hx : a.eval x = .slice (some ⟨b, 0, none⟩) l2.length c0) (hb : ∀ j u, (l2.flatMap enc)[j]? = some u → W.cell? ⟨b, j, none⟩ = some u)
    (hlen : l.length + l2.length ≤ 1000000) (hby : bytes ≤ 1000)
    (h : ∀ v' R N, OwnAt w0.heap.size e k enc (w0.more R N) v' (l ++ l2) → (∀ q, q < W.heap.size → v.ownBlock ≠ some q → (w0.more R N).heap[q]? = W.heap[q]?) → wpList P ops Q rest (a.put o.dst v') (w0.more R N)) : wpList P ops Q (o :: rest) a W := by
  obtain ⟨i, hi, hz0, hz1, hz2⟩ := info_parts hinfo
  have hmul : (l.length + l2.length) * bytes ≤ 1000000 * 1000 := Nat.mul_le_mul hlen hby
  refine wpList_append_own W hgd s x t ho w0.heap.size e i z k bytes ht hi hz0 hz1 hz2 hz hk v l.length (l.flatMap enc) hs hown ⟨b, 0, none⟩ l2.length c0 (l2.flatMap enc) hx (flat_length henc l2) ?_ ?_ (by unfold maxLen; omega) (by omega) hg.below.size ?_
  · intro j u hj
    rw [addr_add_zero]; exact hb j u hj
  · intro u hu
    obtain ⟨y, _, hy⟩ := List.mem_flatMap.1 hu
    exact hone y u hy
  · intro v' w' h1 h2 _
    have hblk := h2.block
    obtain ⟨R, N, rfl⟩ := hg.grown h2 (fun q hq => OwnAt.lt hown q hq)
    refine h v' R N ?_ (fun q hq hne => hblk q hq (fun e => hne e.symm))
    unfold OwnAt
    rw [List.length_append, List.flatMap_append]
    exact h1

def Safe (base b : Nat) (W : World) : Prop := b < base ∨ ∃ c t f, W.heap[b]? = some (.cells c t f) ∧ t ≠ 5
theorem Safe.own {base b : Nat} {W : World} {vb : Value} {bs : List UInt8} (h : Safe base b W) (ho : OwnAt base 5 1 encB W vb bs) : vb.ownBlock ≠ some b := by
  intro e
  obtain ⟨h1, h2⟩ := ho
  rcases h2 with ⟨rfl, _⟩ | ⟨g, cap, cur, rfl, hb, hh, _⟩
  · cases e
  · cases e
    rcases h with h | ⟨c, t, f, hc, ht⟩
    · exact absurd h (by show ¬ (g < base); omega)
    · rw [show (Addr.block ⟨g, 0, none⟩) = g from rfl] at hc
      rw [hh] at hc
      cases hc
      exact ht rfl

theorem RowsAt.sameBlock {α : Type} {k : Nat} {enc : α → List Value} {W W' : World} {v : Value} {l : List α} (h : RowsAt k enc W v l) (hb : ∀ b off, (∃ n c, v = .slice (some ⟨b, off, none⟩) n c) → W'.heap[b]? = W.heap[b]?) : RowsAt k enc W' v l := by
  obtain ⟨a, cap, rfl, hm, hl⟩ := h
  refine ⟨a, cap, rfl, hm, fun hne => ?_⟩
  obtain ⟨b, off, rfl, hx⟩ := hl hne
  refine ⟨b, off, rfl, fun i x hi j u hu => ?_⟩
  rw [← hx i x hi j u hu]
  unfold World.cell?
  rw [hb b off ⟨_, _, rfl⟩]
theorem Safe.sameBlock {base b : Nat} {W W' : World} (h : Safe base b W) (hb : W'.heap[b]? = W.heap[b]?) : Safe base b W' := by
  rcases h with h | ⟨c, t, f, hc, ht⟩
  · exact .inl h
  · exact .inr ⟨c, t, f, by rw [hb]; exact hc, ht⟩

theorem heap_set_self {W : World} {B : Nat} {vb v' : Value} {t : TypeId} (h : W.heap[B]? = some (.cells #[vb] t)) : (W.setCell ⟨B, 0, none⟩ v').heap[B]? = some (.cells #[v'] t) := by
  unfold World.setCell
  simp only [Array.getElem?_modify, if_true, h]
  rfl
theorem heap_set_other {W : World} {B b : Nat} {v' : Value} (h : B ≠ b) : (W.setCell ⟨B, 0, none⟩ v').heap[b]? = W.heap[b]? := by
  unfold World.setCell
  simp only [Array.getElem?_modify, h, if_false]
theorem Grew.setBehind {w0 W : World} (g : Grew w0 W) {B : Nat} (hB : w0.heap.size ≤ B) (v' : Value) : Grew w0 (W.setCell ⟨B, 0, none⟩ v') :=
  Grew.ofBelow (g.below.setCell hB _)
theorem OwnAt.sameBlock {α : Type} {base : Nat} {e : TypeId} {k : Nat} {enc : α → List Value} {W W' : World} {v : Value} {l : List α} (h : OwnAt base e k enc W v l) (hb : ∀ b, v.ownBlock = some b → W'.heap[b]? = W.heap[b]?) : OwnAt base e k enc W' v l := by
  obtain ⟨h1, h2⟩ := h
  refine ⟨h1, ?_⟩
  rcases h2 with h | ⟨g, cap, cur, rfl, hg, hh, r⟩
  · exact .inl h
  · exact .inr ⟨g, cap, cur, rfl, hg, by rw [hb g rfl]; exact hh, r⟩
theorem WriterAt.safe {base B : Nat} {W : World} {vb : Value} {bs : List UInt8} (h : WriterAt base B W vb bs) : Safe base B W := .inr ⟨_, _, _, h.2.1, by decide⟩

theorem own_some {α : Type} {base : Nat} {e : TypeId} {k : Nat} {enc : α → List Value} {w : World} {v : Value} {l : List α} (h : OwnAt base e k enc w v l) (hne : l ≠ []) : ∃ b n cap, v = .slice (some ⟨b, 0, none⟩) n cap := by
  rcases h.form with ⟨_, h⟩ | ⟨b, cap, h, _⟩
  · exact absurd h hne
  · exact ⟨b, _, cap, h⟩
theorem heap_alloc_old {W : World} {b : Nat} {x : Obj} (h : W.heap[b]? = some x) (o : Obj) : (W.alloc o).heap[b]? = some x := by
  have hb := (Array.getElem?_eq_some_iff.1 h).1
  show (W.heap.push o)[b]? = some x
  rw [Array.getElem?_push_lt hb]
  rw [← h, Array.getElem?_eq_getElem hb]
theorem be_cells (x : Int) : (Oc.be x).flatMap encB = [.int .u8 (x % 4294967296 / 16777216), .int .u8 (x % 4294967296 / 65536 % 256), .int .u8 (x % 4294967296 / 256 % 256), .int .u8 (x % 256)] := by
  have h0 : 0 ≤ x % 4294967296 := Int.emod_nonneg _ (by decide)
  have h1 : x % 4294967296 < 4294967296 := Int.emod_lt_of_pos _ (by decide)
  have e : ∀ z : Int, 0 ≤ z → z < 256 → ((UInt8.ofNat z.toNat).toNat : Int) = z := by
    intro z hz hz2
    rw [UInt8.toNat_ofNat']
    omega
  unfold Oc.be
  simp only [List.flatMap_cons, List.flatMap_nil, encB, List.append_nil, List.cons_append, List.nil_append]
  rw [e _ (by omega) (by omega), e _ (by omega) (by omega), e _ (by omega) (by omega), e _ (by omega) (by omega)]
  have h2 : x % 4294967296 % 256 = x % 256 := by omega
  rw [h2]
theorem be_new (W : World) (x : Int) (t : TypeId) (b : Nat) (c : Array Value) (hb : b = W.heap.size) (hc : c = #[.int .u8 (x % 4294967296 / 16777216), .int .u8 (x % 4294967296 / 65536 % 256), .int .u8 (x % 4294967296 / 256 % 256), .int .u8 (x % 256)]) : ∀ j u, ((Oc.be x).flatMap encB)[j]? = some u → (W.alloc (.cells c t)).cell? ⟨b, j, none⟩ = some u := by
  subst hc
  intro j u hu
  rw [be_cells] at hu
  rw [new_cells W _ t b hb j]
  simpa using hu

end Go.Proofs.YtpbohimddmploaaGreat
namespace Go.Proofs.YtpbohimddmploaaGreat
open Go.RowKit Ga

theorem ret_bool {a b : Bool} (h : a = b) : Ending.returned (.bool a) = Ending.returned (.bool b) := by rw [h]
theorem lo_else {op : Int} (h1 : op ≠ 1) (h2 : op ≠ 2) (h15 : op ≠ 15) (h16 : op ≠ 16) : Co.lo op = 0 := by
  unfold Co.lo; rw [if_neg (by omega), if_neg (by omega)]
theorem hi_else {op : Int} (h1 : op ≠ 1) (h2 : op ≠ 2) (h4 : op ≠ 4) (h5 : op ≠ 5) (h15 : op ≠ 15) (h16 : op ≠ 16) : Co.hi op = 0 := by
  unfold Co.hi; rw [if_neg (by omega), if_neg (by omega), if_neg (by omega)]
theorem has_else {op : Int} (h1 : op ≠ 1) (h2 : op ≠ 2) (h4 : op ≠ 4) (h5 : op ≠ 5) (h15 : op ≠ 15) (h16 : op ≠ 16) : Co.hasA op = false := by
  unfold Co.hasA; simp [h1, h2, h4, h5, h15, h16]

theorem bounds_any (op : Int) (w : World) : Calls Tryz.prog 235 #[.int .i64 op] w fun e w' => e = .returned (.tuple #[.int .i64 (Co.lo op), .int .i64 (Co.hi op), .bool (Co.hasA op)]) ∧ w' = w := by
  by_cases h1 : op = 1
  · subst h1
    go_enter Tryz.func235, Tryz.ntmps235
    go_wp2
    exact bodyPost_ret (v := .tuple #[.int .i64 (-524288), .int .i64 524287, .bool true]) (by simp [results, Tryz.results235, go_sem]) rfl ⟨by simp [Co.lo, Co.hi, Co.hasA], rfl⟩
  by_cases h2 : op = 2
  · subst h2
    go_enter Tryz.func235, Tryz.ntmps235
    go_wp2
    exact bodyPost_ret (v := .tuple #[.int .i64 (-524288), .int .i64 524287, .bool true]) (by simp [results, Tryz.results235, go_sem]) rfl ⟨by simp [Co.lo, Co.hi, Co.hasA], rfl⟩
  by_cases h4 : op = 4
  · subst h4
    go_enter Tryz.func235, Tryz.ntmps235
    go_wp2
    exact bodyPost_ret (v := .tuple #[.int .i64 0, .int .i64 1, .bool true]) (by simp [results, Tryz.results235, go_sem]) rfl ⟨by simp [Co.lo, Co.hi, Co.hasA], rfl⟩
  by_cases h5 : op = 5
  · subst h5
    go_enter Tryz.func235, Tryz.ntmps235
    go_wp2
    exact bodyPost_ret (v := .tuple #[.int .i64 0, .int .i64 1, .bool true]) (by simp [results, Tryz.results235, go_sem]) rfl ⟨by simp [Co.lo, Co.hi, Co.hasA], rfl⟩
  by_cases h15 : op = 15
  · subst h15
    go_enter Tryz.func235, Tryz.ntmps235
    go_wp2
    exact bodyPost_ret (v := .tuple #[.int .i64 1, .int .i64 24, .bool true]) (by simp [results, Tryz.results235, go_sem]) rfl ⟨by simp [Co.lo, Co.hi, Co.hasA], rfl⟩
  by_cases h16 : op = 16
  · subst h16
    go_enter Tryz.func235, Tryz.ntmps235
    go_wp2
    exact bodyPost_ret (v := .tuple #[.int .i64 1, .int .i64 24, .bool true]) (by simp [results, Tryz.results235, go_sem]) rfl ⟨by simp [Co.lo, Co.hi, Co.hasA], rfl⟩
  have e1 : (op == 1) = false := by simpa using h1
  have e2 : (op == 2) = false := by simpa using h2
  have e4 : (op == 4) = false := by simpa using h4
  have e5 : (op == 5) = false := by simpa using h5
  have e15 : (op == 15) = false := by simpa using h15
  have e16 : (op == 16) = false := by simpa using h16
  rw [lo_else h1 h2 h15 h16, hi_else h1 h2 h4 h5 h15 h16, has_else h1 h2 h4 h5 h15 h16]
  clear h1 h2 h4 h5 h15 h16
  go_enter Tryz.func235, Tryz.ntmps235
  go_wp2
  exact bodyPost_ret (v := .tuple #[.int .i64 0, .int .i64 0, .bool false]) (by simp [results, Tryz.results235, go_sem]) rfl ⟨rfl, rfl⟩

theorem codeRight_any (x y : Int) (w : World) : Calls Tryz.prog 219 #[.agg #[.int .i64 x, .int .i64 y]] w (Gives (.bool (Co.rightI (x, y))) w) := by
  have H : Co.rightI (x, y) = (decide (0 ≤ x) && decide (x < 18) && decide (Co.lo x ≤ y) && decide (y ≤ Co.hi x)) := rfl
  rw [H]
  clear H
  go_enter Tryz.func219, Tryz.ntmps219
  go_wp2_with (go_at_call 235; refine (bounds_any _ _).mono ?_; rintro e w1 ⟨rfl, rfl⟩)
  all_goals
    go_ret
    refine ⟨ret_bool (by grind), ?_⟩
    repeat (first | with_reducible exact Grew.refl _ | apply Grew.more | apply Grew.alloc | apply Grew.drew | apply Grew.drewN)


theorem fits1_any (x y : Int) (w : World) : Calls Tryz.prog 218 #[.agg #[.int .i64 x, .int .i64 y]] w (Gives (.bool (!Co.rightI (x, y))) w) := by
  go_enter Tryz.func218, Tryz.ntmps218
  go_wp2_with (first
    | (go_at_call 219; refine (codeRight_any _ _ _).mono ?_; rintro e w1 ⟨rfl, R3, n3, rfl⟩)
    )
  go_ret
  refine ⟨rfl, ?_⟩
  repeat (first | with_reducible exact Grew.refl _ | apply Grew.more | apply Grew.alloc | apply Grew.drew | apply Grew.drewN)

theorem take_all_succ {α : Type} {p : α → Bool} {l : List α} {k : Nat} (h : k < l.length) (h1 : (l.take k).all p = true) (h2 : p l[k] = true) : (l.take (k + 1)).all p = true := by
  rw [List.take_succ_eq_append_getElem h, List.all_append, h1]; simp [h2]
theorem all_false_at {α : Type} {p : α → Bool} {l : List α} {k : Nat} (h : k < l.length) (h2 : p l[k] = false) : l.all p = false := by
  rw [List.all_eq_false]; exact ⟨l[k], List.getElem_mem h, by simp [h2]⟩

theorem indexWrong_any (v : Value) (l : List Val) (w : World) (hv : ValsAt w v l) :
    Calls Tryz.prog 236 #[v, .func (.func 218) #[] #[]] w fun e w' => ∃ k : Int, e = .returned (.int .i64 k) ∧ decide (0 ≤ k) = !l.all Co.rightI ∧ Grew w w' := by
  obtain ⟨a, cap, rfl, hm, hl⟩ := hv.open2
  go_enter Tryz.func236, Tryz.ntmps236
  go_wp2
  go_loopw [8] (fun i wr => ∃ (k : Nat), k ≤ l.length ∧ i = .int .i64 k ∧ (l.take k).all Co.rightI = true ∧ Grew w wr) (fun i _ => l.length - (intOf i).toNat)
  case atStart => exact ⟨0, Nat.zero_le _, rfl, rfl, Grew.refl _⟩
  case round =>
    obtain ⟨k, hk, rfl, hall, R, n, rfl⟩ := hrel
    have HA := Lib.hid hall
    clear hall
    by_cases hlt : k < l.length
    · obtain ⟨b, off, rfl, hb, hx, hy⟩ := hl k hlt
      have hs := take_all_succ (p := Co.rightI) hlt HA.out
      have hf := all_false_at (p := Co.rightI) hlt
      generalize l[k] = xy at *
      obtain ⟨x, y⟩ := xy
      cases hr : Co.rightI (x, y)
      all_goals
        have HS := Lib.hid hs
        have HF := Lib.hid hf
        have HR := Lib.hid hr
        clear hs hl hf hr
        simp only at hx hy
        go_wp2_with (go_at_call 218; refine (fits1_any _ _ _).mono ?_; rintro e w1 ⟨rfl, R3, n3, rfl⟩; rw [HR.out])
      · go_ret
        refine ⟨k, rfl, ?_, ?_⟩
        · rw [HF.out HR.out]; simp
        · repeat (first | with_reducible exact Grew.refl _ | apply Grew.more | apply Grew.alloc | apply Grew.drew | apply Grew.drewN)
      · go_roundw
        case rel => exact ⟨k + 1, by omega, by go_num, HS.out HR.out, by repeat (first | with_reducible exact Grew.refl _ | apply Grew.more | apply Grew.alloc | apply Grew.drew | apply Grew.drewN)⟩
        case measure => first | (simp [intOf]; done) | (simp [intOf]; omega)
    · obtain rfl : k = l.length := by omega
      have hz := HA.out
      rw [List.take_length] at hz
      have HZ := Lib.hid hz
      clear hz hl HA
      go_wp2
      go_ret
      refine ⟨-1, rfl, ?_, ?_⟩
      · rw [HZ.out]; rfl
      · repeat (first | with_reducible exact Grew.refl _ | apply Grew.more | apply Grew.alloc | apply Grew.drew | apply Grew.drewN)

theorem containsWrong_any (v : Value) (l : List Val) (w : World) (hv : ValsAt w v l) :
    Calls Tryz.prog 220 #[v, .func (.func 218) #[] #[]] w (Gives (.bool (!l.all Co.rightI)) w) := by
  have HV := Lib.hid hv
  clear hv
  go_enter Tryz.func220, Tryz.ntmps220
  go_wp2_with (go_at_call 236; refine (indexWrong_any _ l _ HV.out).mono ?_; rintro e w1 ⟨k, rfl, hk, R3, n3, rfl⟩; (have HK := Lib.hid hk); clear hk)
  go_ret
  refine ⟨ret_bool HK.out, ?_⟩
  repeat (first | with_reducible exact Grew.refl _ | apply Grew.more | apply Grew.alloc | apply Grew.drew | apply Grew.drewN)

theorem codeFits_any (v : Value) (l : List Val) (w : World) (hv : ValsAt w v l) : Calls Tryz.prog 193 #[v] w (Gives (.bool (Co.fitsI l)) w) := by
  obtain ⟨a, cap, rfl, hm, -⟩ := hv.open2
  have HV := Lib.hid hv
  clear hv
  have hF : Co.fitsI l = (decide (l.length ≤ 24) && l.all Co.rightI) := rfl
  have HF := Lib.hid hF
  clear hF
  go_enter Tryz.func193, Tryz.ntmps193
  go_wp2_with (go_at_call 220; refine (containsWrong_any _ l _ HV.out).mono ?_; rintro e w1 ⟨rfl, R3, n3, rfl⟩)
  all_goals
    go_ret
    refine ⟨ret_bool (by rw [HF.out]; grind), ?_⟩
    repeat (first | with_reducible exact Grew.refl _ | apply Grew.more | apply Grew.alloc | apply Grew.drew | apply Grew.drewN)

theorem run_neq_ins (x y p q : Int) (b : Bool) (hb : b = !(decide (x = p) && decide (y = q))) (w : World) : (binOp .neq 190 (.agg #[.int .i64 x, .int .i64 y]) (.agg #[.int .i64 p, .int .i64 q])).run Tryz.prog w = .ok (.bool b) w := by
  subst hb
  by_cases h1 : x = p <;> by_cases h2 : y = q <;> simp [go_sem, h1, h2, Tryz.underlying190, Tryz.underlying3]
theorem take_eq_succ {α : Type} {l m : List α} {k : Nat} (h : k < l.length) (hm : k < m.length) (h1 : l.take k = m.take k) (h2 : l[k] = m[k]) : l.take (k + 1) = m.take (k + 1) := by
  rw [List.take_succ_eq_append_getElem h, List.take_succ_eq_append_getElem hm, h1, h2]
theorem neq_at {α : Type} {l m : List α} {k : Nat} (h : k < l.length) (hm : k < m.length) (h2 : l[k] ≠ m[k]) : l ≠ m := by
  rintro rfl; exact h2 rfl



def PtsTo (x v : Value) (w : World) : Prop := ∃ b o, v = .pointer (some ⟨b, o, none⟩) ∧ w.cell? ⟨b, o, none⟩ = some x
theorem cell_grew {w w' : World} {b o : Nat} {x : Value} (h : w.cell? ⟨b, o, none⟩ = some x) (g : Grew w w') : w'.cell? ⟨b, o, none⟩ = some x := by
  obtain ⟨R, n, rfl⟩ := g
  rw [World.cell?_more_past R n _ _ (Pre.ofCell h)]; exact h
theorem PtsTo.st (x : Value) : ∀ v w w', PtsTo x v w → Grew w w' → PtsTo x v w' := fun _ _ _ ⟨b, o, h1, h2⟩ g => ⟨b, o, h1, cell_grew h2 g⟩

def NamesAt (v : Value) (w : World) : Prop := ∃ b, v = .slice (some ⟨b, 0, none⟩) 18 18 ∧ ∀ j, j < 18 → w.cell? ⟨b, j, none⟩ = some (.string ⟨(Co.namesL.getD j []).toArray⟩)
theorem NamesAt.st : ∀ v w w', NamesAt v w → Grew w w' → NamesAt v w' := fun _ _ _ ⟨b, h1, h2⟩ g => ⟨b, h1, fun j hj => cell_grew (h2 j hj) g⟩
theorem namesVals_at : ∀ j, j < 18 → ((Co.namesL.map fun l => Value.string ⟨l.toArray⟩).toArray)[j]? = some (.string ⟨(Co.namesL.getD j []).toArray⟩) := by
  intro j hj
  have h : j < Co.namesL.length := hj
  rw [List.getD_eq_getElem?_getD, List.getElem?_eq_getElem h]
  simp [List.getElem?_eq_getElem h]
theorem NamesAt.fresh (w : World) (t : TypeId) : NamesAt (.slice (some ⟨w.heap.size, 0, none⟩) 18 18) (w.alloc (.cells (Co.namesL.map fun l => Value.string ⟨l.toArray⟩).toArray t)) :=
  ⟨_, rfl, fun j hj => by rw [World.cell?_alloc_at _ _ _ _ (by simp)]; exact namesVals_at j hj⟩

def Asc (w : World) : Prop := Lib.TabIs Tryz.prog w "strings.asciiSpace" .u8 Lib.asciiSpaceTab
theorem Asc.grew {w w' : World} (h : Asc w) (g : Grew w w') : Asc w' := var_grew h g

def encS (l : List UInt8) : List Value := [.string ⟨l.toArray⟩]
theorem infoStr : (Tryz.prog.info? 9).map (fun i => (i.zero, i.size, i.bytes)) = some (some (.string ByteArray.empty), 1, 16) := by kernel_rfl
theorem encS_len (l : List UInt8) : (encS l).length = 1 := rfl
theorem encS_one (l : List UInt8) : ∀ u ∈ encS l, u.oneCell' = true := by intro u hu; simp [encS] at hu; subst hu; rfl
theorem flatMap_encS (l : List (List UInt8)) : l.flatMap encS = l.map fun x => Value.string ⟨x.toArray⟩ := by
  induction l with
  | nil => rfl
  | cons x l ih => rw [List.flatMap_cons, ih]; rfl

theorem join_any (v : Value) (xs : List (List UInt8)) (sep : List UInt8) (base : Nat) (w : World) (h : OwnAt base 9 1 encS w v xs) (hn : xs.length ≤ 1000) (hlen : (Lib.join xs sep).length ≤ 1000000) :
    Calls Tryz.prog 183 #[v, .string ⟨sep.toArray⟩] w (Gives (str (Lib.join xs sep)) w) := by
  rcases h.form with ⟨rfl, rfl⟩ | ⟨b, cap, rfl, hb, hc, hm⟩
  · refine (Tryz.strings_Join_none none 0 _ w).mono ?_
    rintro e w' ⟨rfl, rfl⟩
    exact ⟨rfl, Grew.refl _⟩
  · have hr := h.rows encS_len
    have e1 : (xs.map fun l => (⟨l.toArray⟩ : ByteArray)).map (·.data.toList) = xs := by
      rw [List.map_map]; simp [Function.comp_def]
    by_cases hnil : xs = []
    · subst hnil
      refine (Tryz.strings_Join_none (some ⟨b, 0, none⟩) cap _ w).mono ?_
      rintro e w' ⟨rfl, rfl⟩
      exact ⟨rfl, Grew.refl _⟩
    · obtain ⟨a, cap', hv, _, hx⟩ := hr
      obtain ⟨b', off, hab, hx⟩ := hx hnil
      cases hv
      cases hab
      have hcell : ∀ (j : Nat) x, (xs.map fun l => (⟨l.toArray⟩ : ByteArray))[j]? = some x → w.cell? ⟨b, 0 + j, none⟩ = some (.string x) := by
        intro j x hj
        rw [List.getElem?_map] at hj
        cases hq : xs[j]? with
        | none => rw [hq] at hj; cases hj
        | some y =>
          rw [hq] at hj; cases hj
          have := hx j y hq 0 (.string ⟨y.toArray⟩) rfl
          simpa using this
      have hlt : b < w.heap.size := by
        cases xs with
        | nil => exact absurd rfl hnil
        | cons x xs => exact World.block_lt_of_cell? w _ (hcell 0 ⟨x.toArray⟩ rfl)
      have hJ := Tryz.strings_Join b 0 cap (xs.map fun l => (⟨l.toArray⟩ : ByteArray)) ⟨sep.toArray⟩ w hcell hlt (by simp; omega) (by simpa using hc) (by rw [e1]; show (Lib.join xs sep).length ≤ _; omega)
      rw [List.length_map, e1] at hJ
      refine hJ.mono ?_
      rintro e w' ⟨rfl, hb⟩
      exact ⟨rfl, Grew.ofBelow hb⟩

end Go.Proofs.YtpbohimddmploaaGreat
