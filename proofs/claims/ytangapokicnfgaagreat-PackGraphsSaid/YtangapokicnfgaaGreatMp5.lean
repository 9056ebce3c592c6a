import Derived.Test.YtangapokicnfgaaGreatMp0
import Derived.Test.YtangapokicnfgaaGreatMp3
import Derived.Test.YtangapokicnfgaaGreatShelf
import Derived.Test.YtangapokicnfgaaGreatRows
import Derived.Test.YtangapokicnfgaaGreatMp1
import Derived.Lib.ItoaNum
import Derived.WalkKit
import Derived.WalkSpells
import Derived.Lib.Hide
import Derived.Outline
import Derived.LoopTactic
/-! octet.Writer and octet.Reader. -/
namespace Go.Proofs.YtangapokicnfgaaGreat
set_option linter.unusedSimpArgs false
set_option linter.unusedVariables false
open Go.RowKit
set_option maxRecDepth 100000

def encB (x : UInt8) : List Value := [.int .u8 x.toNat]
def encN (n : Int) : List Value := [.int .i64 n]
theorem infoU8 : (Tryz.prog.info? 5).map (fun i => (i.zero, i.size, i.bytes)) = some (some (.int .u8 0), 1, 1) := by kernel_rfl
theorem encB_len (x : UInt8) : (encB x).length = 1 := rfl
theorem encN_len (x : Int) : (encN x).length = 1 := rfl
theorem encB_one (x : UInt8) : ∀ u ∈ encB x, u.oneCell' = true := by intro u hu; simp [encB] at hu; subst hu; rfl

/-- The writer at block B: behind 'base'; its bytes. -/
def WriterAt (base B : Nat) (W : World) (vb : Value) (bs : List UInt8) : Prop :=
  base ≤ B ∧ W.heap[B]? = some (.cells #[vb] 67) ∧ OwnAt base 5 1 encB W vb bs

theorem octFits_any (n : Int) (w : World) : Calls Tryz.prog 93 #[.int .i64 n] w fun e w' => e = .returned (.bool (Oc.fitsN n)) ∧ w = w' := by
  go_enter Tryz.func93, Tryz.ntmps93
  go_wp2
  all_goals
    go_ret
    refine ⟨?_, rfl⟩
    exact congrArg (fun b => Ending.returned (Value.bool b)) (by unfold Oc.fitsN; grind)

theorem cell_of_heap {W : World} {b o : Nat} {c : Array Value} {t : TypeId} {f : Nat × Nat} (h : W.heap[b]? = some (.cells c t f)) : W.cell? ⟨b, o, none⟩ = c[o]? := by
  unfold World.cell?; rw [h]; simp
theorem frozen_of_heap {W : World} {b o : Nat} {c : Array Value} {t : TypeId} (h : W.heap[b]? = some (.cells c t)) : W.frozen? ⟨b, o, none⟩ = false := by
  unfold World.frozen?; rw [h]; simp

/-- append, with what else it leaves as it was. -/
theorem wpList_ownG {α : Type} {e : TypeId} {k : Nat} {enc : α → List Value} {w0 : World} {v : Value} {l : List α} {P : Program} {ops : Array Oper} {rest : List Oper} {o : Oper} {a : Act} {Q : Exit → Act → World → Prop} {W : World}
    (hgd : o.guard = none) (s x : Operand) (t : TypeId) (z : Value) (bytes c0 b : Nat) (l2 : List α)
    (ho : o.op = .call { callee := .builtin .append, args := #[s, x], argTypes := #[t, t] })
    (ht : P.underlying t = some (.slice e)) (hinfo : (P.info? e).map (fun i => (i.zero, i.size, i.bytes)) = some (some z, k, bytes)) (hz : z.cells.size = k) (hk : 0 < k)
    (henc : ∀ x, (enc x).length = k) (hone : ∀ x, ∀ u ∈ enc x, u.oneCell' = true)
    (hs : a.eval s = v) (hown : OwnAt w0.heap.size e k enc W v l) (hg : Grew w0 W)
    (hx : a.eval x = .slice (some ⟨b, 0, none⟩) l2.length c0) (hb : ∀ j u, (l2.flatMap enc)[j]? = some u → W.cell? ⟨b, j, none⟩ = some u)
    (hlen : l.length + l2.length ≤ 1000000) (hby : bytes ≤ 1000)
    (h : ∀ v' R N, OwnAt w0.heap.size e k enc (w0.more R N) v' (l ++ l2) → (∀ q, q < W.heap.size → v.ownBlock ≠ some q → (w0.more R N).heap[q]? = W.heap[q]?) → wpList P ops Q rest (a.put o.dst v') (w0.more R N)) : wpList P ops Q (o :: rest) a W := by
  obtain ⟨i, hi, hz0, hz1, hz2⟩ := info_parts hinfo
  have hmul : (l.length + l2.length) * bytes ≤ 1000000 * 1000 := Nat.mul_le_mul hlen hby
  refine wpList_append_own W hgd s x t ho w0.heap.size e i z k bytes ht hi hz0 hz1 hz2 hz hk v l.length (l.flatMap enc) hs hown ⟨b, 0, none⟩ l2.length c0 (l2.flatMap enc) hx (flat_length henc l2) ?_ ?_ (by unfold maxLen; omega) (by omega) hg.below.size ?_
  · intro j u hj
    rw [addr_add_zero]; exact hb j u hj
  · intro u hu
    obtain ⟨y, _, hy⟩ := List.mem_flatMap.1 hu
    exact hone y u hy
  · intro v' w' h1 h2 _
    have hblk := h2.block
    obtain ⟨R, N, rfl⟩ := hg.grown h2 (fun q hq => OwnAt.lt hown q hq)
    refine h v' R N ?_ (fun q hq hne => hblk q hq (fun e => hne e.symm))
    unfold OwnAt
    rw [List.length_append, List.flatMap_append]
    exact h1

/-- b is no block of bytes of the call's own. -/
def Safe (base b : Nat) (W : World) : Prop := b < base ∨ ∃ c t f, W.heap[b]? = some (.cells c t f) ∧ t ≠ 5
theorem Safe.own {base b : Nat} {W : World} {vb : Value} {bs : List UInt8} (h : Safe base b W) (ho : OwnAt base 5 1 encB W vb bs) : vb.ownBlock ≠ some b := by
  intro e
  obtain ⟨h1, h2⟩ := ho
  rcases h2 with ⟨rfl, _⟩ | ⟨g, cap, cur, rfl, hb, hh, _⟩
  · cases e
  · cases e
    rcases h with h | ⟨c, t, f, hc, ht⟩
    · exact absurd h (by show ¬ (g < base); omega)
    · rw [show (Addr.block ⟨g, 0, none⟩) = g from rfl] at hc
      rw [hh] at hc
      cases hc
      exact ht rfl

theorem RowsAt.sameBlock {α : Type} {k : Nat} {enc : α → List Value} {W W' : World} {v : Value} {l : List α} (h : RowsAt k enc W v l) (hb : ∀ b off, (∃ n c, v = .slice (some ⟨b, off, none⟩) n c) → W'.heap[b]? = W.heap[b]?) : RowsAt k enc W' v l := by
  obtain ⟨a, cap, rfl, hm, hl⟩ := h
  refine ⟨a, cap, rfl, hm, fun hne => ?_⟩
  obtain ⟨b, off, rfl, hx⟩ := hl hne
  refine ⟨b, off, rfl, fun i x hi j u hu => ?_⟩
  rw [← hx i x hi j u hu]
  unfold World.cell?
  rw [hb b off ⟨_, _, rfl⟩]
theorem Safe.sameBlock {base b : Nat} {W W' : World} (h : Safe base b W) (hb : W'.heap[b]? = W.heap[b]?) : Safe base b W' := by
  rcases h with h | ⟨c, t, f, hc, ht⟩
  · exact .inl h
  · exact .inr ⟨c, t, f, by rw [hb]; exact hc, ht⟩

/-- What lies behind a write of the buffer. -/
theorem heap_set_self {W : World} {B : Nat} {vb v' : Value} {t : TypeId} (h : W.heap[B]? = some (.cells #[vb] t)) : (W.setCell ⟨B, 0, none⟩ v').heap[B]? = some (.cells #[v'] t) := by
  unfold World.setCell
  simp only [Array.getElem?_modify, if_true, h]
  rfl
theorem heap_set_other {W : World} {B b : Nat} {v' : Value} (h : B ≠ b) : (W.setCell ⟨B, 0, none⟩ v').heap[b]? = W.heap[b]? := by
  unfold World.setCell
  simp only [Array.getElem?_modify, h, if_false]
theorem Grew.setBehind {w0 W : World} (g : Grew w0 W) {B : Nat} (hB : w0.heap.size ≤ B) (v' : Value) : Grew w0 (W.setCell ⟨B, 0, none⟩ v') :=
  Grew.ofBelow (g.below.setCell hB _)
theorem OwnAt.sameBlock {α : Type} {base : Nat} {e : TypeId} {k : Nat} {enc : α → List Value} {W W' : World} {v : Value} {l : List α} (h : OwnAt base e k enc W v l) (hb : ∀ b, v.ownBlock = some b → W'.heap[b]? = W.heap[b]?) : OwnAt base e k enc W' v l := by
  obtain ⟨h1, h2⟩ := h
  refine ⟨h1, ?_⟩
  rcases h2 with h | ⟨g, cap, cur, rfl, hg, hh, r⟩
  · exact .inl h
  · exact .inr ⟨g, cap, cur, rfl, hg, by rw [hb g rfl]; exact hh, r⟩
theorem WriterAt.safe {base B : Nat} {W : World} {vb : Value} {bs : List UInt8} (h : WriterAt base B W vb bs) : Safe base B W := .inr ⟨_, _, _, h.2.1, by decide⟩

theorem own_some {α : Type} {base : Nat} {e : TypeId} {k : Nat} {enc : α → List Value} {w : World} {v : Value} {l : List α} (h : OwnAt base e k enc w v l) (hne : l ≠ []) : ∃ b n cap, v = .slice (some ⟨b, 0, none⟩) n cap := by
  rcases h.form with ⟨_, h⟩ | ⟨b, cap, h, _⟩
  · exact absurd h hne
  · exact ⟨b, _, cap, h⟩
theorem heap_alloc_old {W : World} {b : Nat} {x : Obj} (h : W.heap[b]? = some x) (o : Obj) : (W.alloc o).heap[b]? = some x := by
  have hb := (Array.getElem?_eq_some_iff.1 h).1
  show (W.heap.push o)[b]? = some x
  rw [Array.getElem?_push_lt hb]
  rw [← h, Array.getElem?_eq_getElem hb]
theorem be_cells (x : Int) : (Oc.be x).flatMap encB = [.int .u8 (x % 4294967296 / 16777216), .int .u8 (x % 4294967296 / 65536 % 256), .int .u8 (x % 4294967296 / 256 % 256), .int .u8 (x % 256)] := by
  have h0 : 0 ≤ x % 4294967296 := Int.emod_nonneg _ (by decide)
  have h1 : x % 4294967296 < 4294967296 := Int.emod_lt_of_pos _ (by decide)
  have e : ∀ z : Int, 0 ≤ z → z < 256 → ((UInt8.ofNat z.toNat).toNat : Int) = z := by
    intro z hz hz2
    rw [UInt8.toNat_ofNat']
    omega
  unfold Oc.be
  simp only [List.flatMap_cons, List.flatMap_nil, encB, List.append_nil, List.cons_append, List.nil_append]
  rw [e _ (by omega) (by omega), e _ (by omega) (by omega), e _ (by omega) (by omega), e _ (by omega) (by omega)]
  have h2 : x % 4294967296 % 256 = x % 256 := by omega
  rw [h2]
theorem be_new (W : World) (x : Int) (t : TypeId) (b : Nat) (c : Array Value) (hb : b = W.heap.size) (hc : c = #[.int .u8 (x % 4294967296 / 16777216), .int .u8 (x % 4294967296 / 65536 % 256), .int .u8 (x % 4294967296 / 256 % 256), .int .u8 (x % 256)]) : ∀ j u, ((Oc.be x).flatMap encB)[j]? = some u → (W.alloc (.cells c t)).cell? ⟨b, j, none⟩ = some u := by
  subst hc
  intro j u hu
  rw [be_cells] at hu
  rw [new_cells W _ t b hb j]
  simpa using hu

set_option maxHeartbeats 4000000 in
theorem writerNum_any (w0 W : World) (B : Nat) (vb : Value) (bs : List UInt8) (v : Value) (l : List Int) (hw : WriterAt w0.heap.size B W vb bs) (hg : Grew w0 W) (hv : RowsAt 1 encN W v l)
    (hs : ∀ b off, (∃ n c, v = .slice (some ⟨b, off, none⟩) n c) → Safe w0.heap.size b W ∧ b ≠ B) (hok : l.all Oc.fitsN = true) (hlen : bs.length + l.length * 4 ≤ 100000) :
    Calls Tryz.prog 53 #[.pointer (some ⟨B, 0, none⟩), v] W fun e W' => e = .returned (.int .i64 0) ∧ Grew w0 W' ∧ ∃ vb', WriterAt w0.heap.size B W' vb' (bs ++ Oc.bes l) := by
  obtain ⟨a, cap, rfl, hm, hl⟩ := hv.open1
  have HV := Lib.hid hv
  have HS := Lib.hid hs
  have HW := Lib.hid hw
  have HOK := Lib.hid hok
  clear hv hs hw hok
  go_enter Tryz.func53, Tryz.ntmps53
  go_wp2
  go_loop [14] (fun i => ∃ (k : Nat), k ≤ l.length ∧ i = .int .i64 k) (fun i => l.length - (intOf i).toNat)
  case atStart => exact ⟨0, Nat.zero_le _, rfl⟩
  case round =>
    obtain ⟨k, hk, rfl⟩ := hrel
    by_cases hlt : k < l.length
    · obtain ⟨b, off, rfl, hb, hx⟩ := hl k hlt
      have hf : Oc.fitsN l[k] = true := List.all_eq_true.1 HOK.out _ (List.getElem_mem hlt)
      generalize l[k] = x at *
      have HF := Lib.hid hf
      clear hl hf
      go_wp2_with (go_at_call 93; refine (octFits_any _ _).mono ?_; rintro e w1 ⟨rfl, rfl⟩; rw [HF.out])
      go_round
      case rel => exact ⟨k + 1, by omega, by go_num⟩
      case measure => first | (simp [intOf]; done) | (simp [intOf]; omega)
    · obtain rfl : k = l.length := by omega
      clear hl
      go_wp2
      go_loopw [24] (fun i wr => ∃ (k : Nat) (vk : Value), k ≤ l.length ∧ i = .int .i64 k ∧ WriterAt w0.heap.size B wr vk (bs ++ Oc.bes (l.take k)) ∧ Grew w0 wr ∧ RowsAt 1 encN wr (.slice a l.length cap) l ∧ (∀ b off, (∃ n c, (.slice a l.length cap : Value) = .slice (some ⟨b, off, none⟩) n c) → Safe w0.heap.size b wr ∧ b ≠ B))
        (fun i _ => l.length - (intOf i).toNat)
      case atStart => exact ⟨0, vb, Nat.zero_le _, rfl, by simpa [Oc.bes] using HW.out, hg, HV.out, HS.out⟩
      case round =>
        obtain ⟨k, vk, hk, rfl, hwk, hgk, hrk, hsk⟩ := hrel
        by_cases hlt : k < l.length
        · obtain ⟨a', cap', hveq, -, hl⟩ := hrk.open1
          cases hveq
          obtain ⟨b, off, rfl, hb, hx⟩ := hl k hlt
          have hfx : Oc.fitsN l[k] = true := List.all_eq_true.1 HOK.out _ (List.getElem_mem hlt)
          have hbs := Oc.bes_succ l k hlt
          have hbl := Oc.bes_len (l.take k)
          rw [List.length_take_of_le hk] at hbl
          generalize l[k] = x at *
          unfold Oc.fitsN at hfx
          simp only [Bool.and_eq_true, decide_eq_true_eq] at hfx
          obtain ⟨x0, x1⟩ := hfx
          have HBS := Lib.hid hbs
          have HBL := Lib.hid hbl
          clear hbs hbl
          have hb' := hb
          have HWK := Lib.hid hwk
          have HRK := Lib.hid hrk
          have HSK := Lib.hid hsk
          have hcB := cell_of_heap (o := 0) hwk.2.1
          have hfB := frozen_of_heap (o := 0) hwk.2.1
          simp at hcB
          have HG := Lib.hid hgk
          clear hl hwk hrk hsk hgk hg
          go_wp2_with (at_builtin; refine wpList_ownG (w0 := w0) rfl (.tmp 35) (.tmp 47) 65 _ _ _ _ (Oc.be x) rfl Tryz.underlying65 infoU8 rfl (by decide) encB_len encB_one rfl (HWK.out.2.2.grew (by repeat (first | with_reducible exact Grew.refl _ | apply Grew.more | apply Grew.alloc | apply Grew.drew | apply Grew.drewN))) (HG.out.alloc _) rfl (be_new _ _ _ _ _ rfl rfl) (by rw [List.length_append, HBL.out, Oc.be_len]; omega) (by decide) ?_; intro v9 R9 n9 hown9 hkeep9; (have hB9 : (w0.more R9 n9).heap[B]? = some (.cells #[vk] 67) := by rw [hkeep9 B (by have := (Array.getElem?_eq_some_iff.1 HWK.out.2.1).1; simp [go_sem]; omega) (HWK.out.safe.own HWK.out.2.2)]; exact heap_alloc_old HWK.out.2.1 _); (have hcB9 := cell_of_heap (o := 0) hB9); (have hfB9 := frozen_of_heap (o := 0) hB9); simp at hcB9; obtain ⟨b9, N9, c9, rfl⟩ := own_some hown9 (fun h => by have h2 := congrArg List.length h; rw [List.length_append, Oc.be_len] at h2; simp at h2); (have HO9 := Lib.hid hown9); (have HK9 := Lib.hid hkeep9); (have HB9 := Lib.hid hB9); clear hown9 hkeep9 hB9)
          have hBb : B ≠ b := fun e => (HSK.out b off ⟨_, _, rfl⟩).2 e.symm
          have hsb := (HSK.out b off ⟨_, _, rfl⟩).1
          have hkb : (w0.more R9 n9).heap[b]? = wr.heap[b]? := by
            have hlt : b < wr.heap.size := hb'
            rw [HK9.out b (by simp [go_sem]; omega) (hsb.own HWK.out.2.2)]
            have : wr.heap[b]? = some wr.heap[b] := Array.getElem?_eq_getElem hlt
            rw [this]
            exact heap_alloc_old this _
          have hfin : ∀ v9, ((w0.more R9 n9).setCell ⟨B, 0, none⟩ v9).heap[b]? = wr.heap[b]? := fun v9 => by rw [heap_set_other hBb, hkb]
          have hsB : Safe w0.heap.size B (w0.more R9 n9) := .inr ⟨_, _, _, HB9.out, by decide⟩
          have HFIN := Lib.hid hfin
          clear hfin hkb
          go_roundw
          case rel =>
            refine ⟨k + 1, _, by omega, by go_num, ⟨HWK.out.1, heap_set_self HB9.out, ?_⟩, Grew.setBehind ⟨R9, n9, rfl⟩ HWK.out.1 _, RowsAt.sameBlock HRK.out ?_, ?_⟩
            · rw [HBS.out, ← List.append_assoc]
              exact OwnAt.sameBlock HO9.out fun q hq => heap_set_other (fun e => by subst e; exact hsB.own HO9.out hq)
            · rintro b2 off2 ⟨n2, c2, e⟩
              cases e; exact HFIN.out _
            · rintro b2 off2 ⟨n2, c2, e⟩
              cases e
              exact ⟨hsb.sameBlock (HFIN.out _), fun e => hBb e.symm⟩
          case measure => first | (simp [intOf]; done) | (simp [intOf]; omega)
        · obtain rfl : k = l.length := by omega
          rw [List.take_length] at hwk
          have HWK := Lib.hid hwk
          clear hwk hrk hsk
          go_wp2
          go_ret
          exact ⟨rfl, hgk, vk, HWK.out⟩
end Go.Proofs.YtangapokicnfgaaGreat

/-! The contracts of package gauss, part two. -/
namespace Go.Proofs.YtangapokicnfgaaGreat
set_option linter.unusedSimpArgs false
set_option linter.unusedVariables false
open Go.RowKit Ga


theorem run_neg_float {P : Program} (k : FloatKind) (b : Nat) (w : World) : (Op.unary .neg (.float k b)).run P w = .ok (.float k (Op.negFloat k b)) w := rfl

theorem fl_zero : fl 0 = 0 := by decide +kernel
theorem fl_one : fl 1 = 4607182418800017408 := by decide +kernel



theorem order_eq (a b : Int) (ha : In a) (hb : In b) : (FloatKind.f64.format.order (fl a) (fl b) == some .eq) = decide (a = b) := by
  rw [show FloatKind.f64.format.order (fl a) (fl b) = some (compare a b) from Fl.Rep.order (fl_rep a (by omega)) (fl_rep b (by omega))]
  by_cases h : a = b
  · rw [decide_eq_true h, Int.compare_eq_eq.2 h]; rfl
  · rw [decide_eq_false h, beq_eq_false_iff_ne]
    intro hc
    exact h (Int.compare_eq_eq.1 (Option.some.inj hc))
theorem order_lt (a b : Int) (ha : In a) (hb : In b) : (FloatKind.f64.format.order (fl a) (fl b) == some .lt) = decide (a < b) := by
  rw [show FloatKind.f64.format.order (fl a) (fl b) = some (compare a b) from Fl.Rep.order (fl_rep a (by omega)) (fl_rep b (by omega))]
  by_cases h : a < b
  · rw [decide_eq_true h, Int.compare_eq_lt.2 h]; rfl
  · rw [decide_eq_false h, beq_eq_false_iff_ne]
    intro hc
    exact h (Int.compare_eq_lt.1 (Option.some.inj hc))


set_option maxHeartbeats 1000000 in
theorem right_any (a : Val) (w : World) : Calls Tryz.prog 97 #[vv a] w (Gives (.bool (rightV a)) w) := by
  obtain ⟨x, y⟩ := a
  have H : rightV (x, y) = (decide (into x = x) && decide (into y = y)) := by
    unfold rightV; simp only [eq_comm]
  by_cases h1 : into x = x <;> by_cases h2 : into y = y
  all_goals
    rw [H]
    simp only [h1, h2, decide_true, decide_false, Bool.and_true, Bool.and_false, Bool.and_self]
    clear H
    try (have h1' : ¬ x = into x := fun e => h1 e.symm)
    try (have h2' : ¬ y = into y := fun e => h2 e.symm)
    go_enter Tryz.func97, Tryz.ntmps97
    go_wp2
    refine wp_region_seq 8 Tryz.mixed (by kernel_rfl) (by kernel_rfl) ?_
    iterate 8
      apply Seq.val
      focus
        rintro w1 u ⟨R1, n1, rfl⟩ -
        simp [putFacts, Oper.deps, Region.binds, List.filter_cons, Region.dstOf, Fact.at, Act.put, World.more_drew]
        go_wp2_with (first
        | (go_at_call 120; refine (of_any _ _ _).mono ?_; rintro e w1 ⟨rfl, R1, n1, rfl⟩))
        exact ⟨by repeat (first | exact Grew.refl _ | apply Grew.more | apply Grew.alloc | apply Grew.drew), rfl, _, _, rfl, rfl, rfl⟩
    rintro u w1 ⟨R1, n1, rfl⟩ -
    simp [putFacts, Region.dstOf, Fact.at, Act.put, List.range_succ, World.more_drew]
    go_wp2
    go_ret
    exact ⟨rfl, by repeat (first | exact Grew.refl _ | apply Grew.more | apply Grew.alloc | apply Grew.drew)⟩


/-- Two numbers that an int may hold. -/
def okVal (a : Ga.Val) : Prop := (-9223372036854775808 ≤ a.1 ∧ a.1 ≤ 9223372036854775807) ∧ (-9223372036854775808 ≤ a.2 ∧ a.2 ≤ 9223372036854775807)
end Go.Proofs.YtangapokicnfgaaGreat

/-! Digits of a number, by the other text. -/
namespace Go.Proofs.YtangapokicnfgaaGreat
set_option linter.unusedSimpArgs false
set_option linter.unusedVariables false
open Go.RowKit

abbrev str (l : List UInt8) : Value := .string ⟨l.toArray⟩
def digs : ByteArray := ⟨#[48, 49, 50, 51, 52, 53, 54, 55, 56, 57]⟩
theorem digs_at (k : Nat) (h : k < 10) : digs.extract k (k + 1) = ⟨[UInt8.ofNat (48 + k)].toArray⟩ := by
  match k, h with
  | 0, _ | 1, _ | 2, _ | 3, _ | 4, _ | 5, _ | 6, _ | 7, _ | 8, _ | 9, _ => decide +kernel

/-- the digits ahead of the last one -/
def hiD (m : Nat) : List UInt8 := if m < 10 then [] else Lib.decDigits (m / 10)
theorem dec_hi (m : Nat) : Lib.decDigits m = hiD m ++ [UInt8.ofNat (48 + m % 10)] := by
  unfold hiD
  rw [Lib.decDigits]
  by_cases h : m < 10
  · rw [dif_pos h, if_pos h, Nat.mod_eq_of_lt h]; rfl
  · rw [dif_neg h, if_neg h]
theorem dec_len (m : Nat) (h : m < 18446744073709551616) : (Lib.decDigits m).length ≤ 20 := by
  have key : ∀ (k m : Nat), m < 10 ^ (k + 1) → (Lib.decDigits m).length ≤ k + 1 := by
    intro k
    induction k with
    | zero => intro m hm; rw [Lib.decDigits, dif_pos (by omega)]; simp
    | succ k ih =>
      intro m hm
      rw [Lib.decDigits]
      split
      · simp
      · have := ih (m / 10) (by rw [Nat.pow_succ] at hm; omega)
        simp; omega
  exact key 19 m (by omega)
theorem itoa_len (n : Int) (h : -9223372036854775808 ≤ n ∧ n ≤ 9223372036854775807) : (Lib.itoa n).length ≤ 21 := by
  unfold Lib.itoa
  split
  · have := dec_len n.natAbs (by omega); simp; omega
  · have := dec_len n.toNat (by omega); omega

theorem str_cat (a b : List UInt8) : (⟨a.toArray⟩ ++ ⟨b.toArray⟩ : ByteArray) = ⟨(a ++ b).toArray⟩ := ByteArray.mk_append_mk a b


theorem tdiv_neg10 (m : Nat) : (-(m : Int)).tdiv 10 = -((m / 10 : Nat) : Int) := by rw [Int.neg_tdiv]; rfl
theorem tmod_neg10 (m : Nat) : (-(m : Int)).tmod 10 = -((m % 10 : Nat) : Int) := by rw [Int.neg_tmod]; rfl
theorem itoa_neg (m : Nat) (h : 0 < m) : Lib.itoa (-(m : Int)) = 45 :: Lib.decDigits m := by
  unfold Lib.itoa
  rw [if_pos (by omega)]
  simp

theorem digs_at' (k : Nat) (h : k < 10) : digs.extract k (1 + k) = ⟨[UInt8.ofNat (48 + k)].toArray⟩ := by rw [Nat.add_comm]; exact digs_at k h


end Go.Proofs.YtangapokicnfgaaGreat
