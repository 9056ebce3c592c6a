import Derived.Test.YtangapokicnfgaaGreatMr3
import Derived.Test.YtangapokicnfgaaGreatMr2
import Derived.Test.YtangapokicnfgaaGreatShelf
import Derived.Test.YtangapokicnfgaaGreatRows
import Derived.Test.YtangapokicnfgaaGreatMr0
import Derived.Lib.ItoaNum
import Derived.WalkKit
import Derived.WalkSpells
import Derived.Lib.Hide
import Derived.Outline
import Derived.LoopTactic
import Derived.Lib.LaidTab
import Derived.Lib.ConvBytes
import Derived.WalkSmall
import Derived.Laws.BitsAllLaws
/-! octet.Writer and octet.Reader. -/
namespace Go.Proofs.YtangapokicnfgaaGreat
set_option linter.unusedSimpArgs false
set_option linter.unusedVariables false
open Go.RowKit
set_option maxRecDepth 100000

def encB (x : UInt8) : List Value := [.int .u8 x.toNat]
def encN (n : Int) : List Value := [.int .i64 n]
theorem infoU8 : (Tryz.prog.info? 5).map (fun i => (i.zero, i.size, i.bytes)) = some (some (.int .u8 0), 1, 1) := by kernel_rfl
theorem encB_len (x : UInt8) : (encB x).length = 1 := rfl
theorem encN_len (x : Int) : (encN x).length = 1 := rfl
theorem encB_one (x : UInt8) : ∀ u ∈ encB x, u.oneCell' = true := by intro u hu; simp [encB] at hu; subst hu; rfl

/-- The writer at block B: behind 'base'; its bytes. -/
def WriterAt (base B : Nat) (W : World) (vb : Value) (bs : List UInt8) : Prop :=
  base ≤ B ∧ W.heap[B]? = some (.cells #[vb] 67) ∧ OwnAt base 5 1 encB W vb bs

theorem octFits_any (n : Int) (w : World) : Calls Tryz.prog 93 #[.int .i64 n] w fun e w' => e = .returned (.bool (Oc.fitsN n)) ∧ w = w' := by
  go_enter Tryz.func93, Tryz.ntmps93
  go_wp2
  all_goals
    go_ret
    refine ⟨?_, rfl⟩
    exact congrArg (fun b => Ending.returned (Value.bool b)) (by unfold Oc.fitsN; grind)

theorem cell_of_heap {W : World} {b o : Nat} {c : Array Value} {t : TypeId} {f : Nat × Nat} (h : W.heap[b]? = some (.cells c t f)) : W.cell? ⟨b, o, none⟩ = c[o]? := by
  unfold World.cell?; rw [h]; simp
theorem frozen_of_heap {W : World} {b o : Nat} {c : Array Value} {t : TypeId} (h : W.heap[b]? = some (.cells c t)) : W.frozen? ⟨b, o, none⟩ = false := by
  unfold World.frozen?; rw [h]; simp

/-- append, with what else it leaves as it was. -/
theorem wpList_ownG {α : Type} {e : TypeId} {k : Nat} {enc : α → List Value} {w0 : World} {v : Value} {l : List α} {P : Program} {ops : Array Oper} {rest : List Oper} {o : Oper} {a : Act} {Q : Exit → Act → World → Prop} {W : World}
    (hgd : o.guard = none) (s x : Operand) (t : TypeId) (z : Value) (bytes c0 b : Nat) (l2 : List α)
    (ho : o.op = .call { callee := .builtin .append, args := #[s, x], argTypes := #[t, t] })
    (ht : P.underlying t = some (.slice e)) (hinfo : (P.info? e).map (fun i => (i.zero, i.size, i.bytes)) = some (some z, k, bytes)) (hz : z.cells.size = k) (hk : 0 < k)
    (henc : ∀ x, (enc x).length = k) (hone : ∀ x, ∀ u ∈ enc x, u.oneCell' = true)
    (hs : a.eval s = v) (hown : OwnAt w0.heap.size e k enc W v l) (hg : Grew w0 W)
    (hx : a.eval x = .slice (some ⟨b, 0, none⟩) l2.length c0) (hb : ∀ j u, (l2.flatMap enc)[j]? = some u → W.cell? ⟨b, j, none⟩ = some u)
    (hlen : l.length + l2.length ≤ 1000000) (hby : bytes ≤ 1000)
    (h : ∀ v' R N, OwnAt w0.heap.size e k enc (w0.more R N) v' (l ++ l2) → (∀ q, q < W.heap.size → v.ownBlock ≠ some q → (w0.more R N).heap[q]? = W.heap[q]?) → wpList P ops Q rest (a.put o.dst v') (w0.more R N)) : wpList P ops Q (o :: rest) a W := by
  obtain ⟨i, hi, hz0, hz1, hz2⟩ := info_parts hinfo
  have hmul : (l.length + l2.length) * bytes ≤ 1000000 * 1000 := Nat.mul_le_mul hlen hby
  refine wpList_append_own W hgd s x t ho w0.heap.size e i z k bytes ht hi hz0 hz1 hz2 hz hk v l.length (l.flatMap enc) hs hown ⟨b, 0, none⟩ l2.length c0 (l2.flatMap enc) hx (flat_length henc l2) ?_ ?_ (by unfold maxLen; omega) (by omega) hg.below.size ?_
  · intro j u hj
    rw [addr_add_zero]; exact hb j u hj
  · intro u hu
    obtain ⟨y, _, hy⟩ := List.mem_flatMap.1 hu
    exact hone y u hy
  · intro v' w' h1 h2 _
    have hblk := h2.block
    obtain ⟨R, N, rfl⟩ := hg.grown h2 (fun q hq => OwnAt.lt hown q hq)
    refine h v' R N ?_ (fun q hq hne => hblk q hq (fun e => hne e.symm))
    unfold OwnAt
    rw [List.length_append, List.flatMap_append]
    exact h1

/-- b is no block of bytes of the call's own. -/
def Safe (base b : Nat) (W : World) : Prop := b < base ∨ ∃ c t f, W.heap[b]? = some (.cells c t f) ∧ t ≠ 5
theorem Safe.own {base b : Nat} {W : World} {vb : Value} {bs : List UInt8} (h : Safe base b W) (ho : OwnAt base 5 1 encB W vb bs) : vb.ownBlock ≠ some b := by
  intro e
  obtain ⟨h1, h2⟩ := ho
  rcases h2 with ⟨rfl, _⟩ | ⟨g, cap, cur, rfl, hb, hh, _⟩
  · cases e
  · cases e
    rcases h with h | ⟨c, t, f, hc, ht⟩
    · exact absurd h (by show ¬ (g < base); omega)
    · rw [show (Addr.block ⟨g, 0, none⟩) = g from rfl] at hc
      rw [hh] at hc
      cases hc
      exact ht rfl

theorem RowsAt.sameBlock {α : Type} {k : Nat} {enc : α → List Value} {W W' : World} {v : Value} {l : List α} (h : RowsAt k enc W v l) (hb : ∀ b off, (∃ n c, v = .slice (some ⟨b, off, none⟩) n c) → W'.heap[b]? = W.heap[b]?) : RowsAt k enc W' v l := by
  obtain ⟨a, cap, rfl, hm, hl⟩ := h
  refine ⟨a, cap, rfl, hm, fun hne => ?_⟩
  obtain ⟨b, off, rfl, hx⟩ := hl hne
  refine ⟨b, off, rfl, fun i x hi j u hu => ?_⟩
  rw [← hx i x hi j u hu]
  unfold World.cell?
  rw [hb b off ⟨_, _, rfl⟩]
theorem Safe.sameBlock {base b : Nat} {W W' : World} (h : Safe base b W) (hb : W'.heap[b]? = W.heap[b]?) : Safe base b W' := by
  rcases h with h | ⟨c, t, f, hc, ht⟩
  · exact .inl h
  · exact .inr ⟨c, t, f, by rw [hb]; exact hc, ht⟩

/-- What lies behind a write of the buffer. -/
theorem heap_set_self {W : World} {B : Nat} {vb v' : Value} {t : TypeId} (h : W.heap[B]? = some (.cells #[vb] t)) : (W.setCell ⟨B, 0, none⟩ v').heap[B]? = some (.cells #[v'] t) := by
  unfold World.setCell
  simp only [Array.getElem?_modify, if_true, h]
  rfl
theorem heap_set_other {W : World} {B b : Nat} {v' : Value} (h : B ≠ b) : (W.setCell ⟨B, 0, none⟩ v').heap[b]? = W.heap[b]? := by
  unfold World.setCell
  simp only [Array.getElem?_modify, h, if_false]
theorem Grew.setBehind {w0 W : World} (g : Grew w0 W) {B : Nat} (hB : w0.heap.size ≤ B) (v' : Value) : Grew w0 (W.setCell ⟨B, 0, none⟩ v') :=
  Grew.ofBelow (g.below.setCell hB _)
theorem OwnAt.sameBlock {α : Type} {base : Nat} {e : TypeId} {k : Nat} {enc : α → List Value} {W W' : World} {v : Value} {l : List α} (h : OwnAt base e k enc W v l) (hb : ∀ b, v.ownBlock = some b → W'.heap[b]? = W.heap[b]?) : OwnAt base e k enc W' v l := by
  obtain ⟨h1, h2⟩ := h
  refine ⟨h1, ?_⟩
  rcases h2 with h | ⟨g, cap, cur, rfl, hg, hh, r⟩
  · exact .inl h
  · exact .inr ⟨g, cap, cur, rfl, hg, by rw [hb g rfl]; exact hh, r⟩
theorem WriterAt.safe {base B : Nat} {W : World} {vb : Value} {bs : List UInt8} (h : WriterAt base B W vb bs) : Safe base B W := .inr ⟨_, _, _, h.2.1, by decide⟩

theorem own_some {α : Type} {base : Nat} {e : TypeId} {k : Nat} {enc : α → List Value} {w : World} {v : Value} {l : List α} (h : OwnAt base e k enc w v l) (hne : l ≠ []) : ∃ b n cap, v = .slice (some ⟨b, 0, none⟩) n cap := by
  rcases h.form with ⟨_, h⟩ | ⟨b, cap, h, _⟩
  · exact absurd h hne
  · exact ⟨b, _, cap, h⟩
theorem heap_alloc_old {W : World} {b : Nat} {x : Obj} (h : W.heap[b]? = some x) (o : Obj) : (W.alloc o).heap[b]? = some x := by
  have hb := (Array.getElem?_eq_some_iff.1 h).1
  show (W.heap.push o)[b]? = some x
  rw [Array.getElem?_push_lt hb]
  rw [← h, Array.getElem?_eq_getElem hb]
theorem be_cells (x : Int) : (Oc.be x).flatMap encB = [.int .u8 (x % 4294967296 / 16777216), .int .u8 (x % 4294967296 / 65536 % 256), .int .u8 (x % 4294967296 / 256 % 256), .int .u8 (x % 256)] := by
  have h0 : 0 ≤ x % 4294967296 := Int.emod_nonneg _ (by decide)
  have h1 : x % 4294967296 < 4294967296 := Int.emod_lt_of_pos _ (by decide)
  have e : ∀ z : Int, 0 ≤ z → z < 256 → ((UInt8.ofNat z.toNat).toNat : Int) = z := by
    intro z hz hz2
    rw [UInt8.toNat_ofNat']
    omega
  unfold Oc.be
  simp only [List.flatMap_cons, List.flatMap_nil, encB, List.append_nil, List.cons_append, List.nil_append]
  rw [e _ (by omega) (by omega), e _ (by omega) (by omega), e _ (by omega) (by omega), e _ (by omega) (by omega)]
  have h2 : x % 4294967296 % 256 = x % 256 := by omega
  rw [h2]
theorem be_new (W : World) (x : Int) (t : TypeId) (b : Nat) (c : Array Value) (hb : b = W.heap.size) (hc : c = #[.int .u8 (x % 4294967296 / 16777216), .int .u8 (x % 4294967296 / 65536 % 256), .int .u8 (x % 4294967296 / 256 % 256), .int .u8 (x % 256)]) : ∀ j u, ((Oc.be x).flatMap encB)[j]? = some u → (W.alloc (.cells c t)).cell? ⟨b, j, none⟩ = some u := by
  subst hc
  intro j u hu
  rw [be_cells] at hu
  rw [new_cells W _ t b hb j]
  simpa using hu

end Go.Proofs.YtangapokicnfgaaGreat

/-! Digits of a number, by the other text. -/
namespace Go.Proofs.YtangapokicnfgaaGreat
set_option linter.unusedSimpArgs false
set_option linter.unusedVariables false
open Go.RowKit

abbrev str (l : List UInt8) : Value := .string ⟨l.toArray⟩
theorem str_cat (a b : List UInt8) : (⟨a.toArray⟩ ++ ⟨b.toArray⟩ : ByteArray) = ⟨(a ++ b).toArray⟩ := ByteArray.mk_append_mk a b

end Go.Proofs.YtangapokicnfgaaGreat

/-! Texts of values. -/
namespace Go.Proofs.YtangapokicnfgaaGreat
set_option linter.unusedSimpArgs false
set_option linter.unusedVariables false
open Go.RowKit Ga

theorem grew_bytes (w : World) (t : TypeId) (x : ByteArray) : Grew w (Lib.bytesWorld w t x) := by
  apply Grew.ofBelow
  unfold Lib.bytesWorld
  exact below_freeze (((Below.refl _ _).drew).alloc (Nat.le_refl _) _) (p := ⟨w.heap.size, _, none⟩) (Nat.le_refl w.heap.size) _

/-- The table that strconv.Itoa reads. -/
def Pow (w : World) : Prop := Lib.TabIs Tryz.prog w "internal/strconv.uint64pow10" .u64 Lib.pow10Tab

theorem var_grew {n : String} {cs : Array Value} {w w' : World} (h : w.var? Tryz.prog n = some cs) (g : Grew w w') : w'.var? Tryz.prog n = some cs := by
  cases hg : Tryz.prog.globalNamed n with
  | none => unfold World.var? at h; simp [hg] at h
  | some i =>
    by_cases hi : i < w.heap.size
    · exact var?_below g.below hg hi h
    · unfold World.var? at h
      have : w.heap[i]? = none := Array.getElem?_eq_none (by omega)
      simp [hg, this] at h
theorem Pow.grew {w w' : World} (h : Pow w) (g : Grew w w') : Pow w' := var_grew h g

end Go.Proofs.YtangapokicnfgaaGreat

/-! octet.Reader. -/
namespace Go.Proofs.YtangapokicnfgaaGreat
set_option linter.unusedSimpArgs false
set_option linter.unusedVariables false
open Go.RowKit
set_option maxRecDepth 100000

/-- The reader at block B: what is left. -/
def ReaderAt (base B : Nat) (W : World) (s : List UInt8) : Prop :=
  base ≤ B ∧ W.heap[B]? = some (.cells #[.string ⟨s.toArray⟩] 135)
theorem ReaderAt.grew {base B : Nat} {W W' : World} {s : List UInt8} (h : ReaderAt base B W s) (g : Grew W W') : ReaderAt base B W' s :=
  ⟨h.1, by rw [g.below.block B (Array.getElem?_eq_some_iff.1 h.2).1]; exact h.2⟩

theorem octNew_any (s : List UInt8) (w : World) : Calls Tryz.prog 37 #[.string ⟨s.toArray⟩] w fun e w' => e = .returned (.pointer (some ⟨w.heap.size, 0, none⟩)) ∧ w' = w.alloc (.cells #[.string ⟨s.toArray⟩] 135) := by
  go_enter Tryz.func37, Tryz.ntmps37
  go_wp2
  go_ret
  exact ⟨rfl, rfl⟩
theorem octLeft_any (base B : Nat) (s : List UInt8) (w : World) (h : ReaderAt base B w s) : Calls Tryz.prog 81 #[.pointer (some ⟨B, 0, none⟩)] w fun e w' => e = .returned (.int .i64 s.length) ∧ w = w' := by
  have hc := cell_of_heap (o := 0) h.2
  simp at hc
  clear h
  go_enter Tryz.func81, Tryz.ntmps81
  go_wp2
  go_ret
  exact ⟨rfl, rfl⟩

theorem or_byte (u : Int) (x : UInt8) (h0 : 0 ≤ u) (h1 : u < 16777216) : bits .or .u32 (u * 256) (x.toNat : Int) = u * 256 + x.toNat := by
  have hx := x.toNat_lt
  obtain ⟨n, rfl⟩ : ∃ n : Nat, u = n := ⟨u.toNat, by omega⟩
  have e : (n : Int) * 256 = ((n * 256 : Nat) : Int) := by omega
  rw [e, u32_or_nat _ _ (by omega) (by omega)]
  have := Nat.shiftLeft_add_eq_or_of_lt (show x.toNat < 2 ^ 8 by omega) n
  rw [Nat.shiftLeft_eq] at this
  have h2 : n * 256 ||| x.toNat = n * 256 + x.toNat := this.symm
  rw [h2]; omega
theorem wrap_num (s : List UInt8) : wrap32 (Oc.raw s) = Oc.num s := by
  have := Oc.raw_range s
  unfold Oc.num
  simp only [wrap32]
  split <;> omega

/-- The next number, not read. -/
def peekV (s : List UInt8) : Int := if s.length < 4 then 0 else Oc.num s
def peekE (s : List UInt8) : Int := if s.length < 4 then 3 else 0

set_option maxHeartbeats 4000000 in
theorem octPeek_any (base B : Nat) (s : List UInt8) (w : World) (h : ReaderAt base B w s) (hs : s.length ≤ 1000000) : Calls Tryz.prog 117 #[.pointer (some ⟨B, 0, none⟩)] w (Gives (.tuple #[.int .i64 (peekV s), .int .i64 (peekE s)]) w) := by
  have hc := cell_of_heap (o := 0) h.2
  simp at hc
  have hB := Pre.ofCell hc
  clear h
  by_cases h4 : s.length < 4
  · have e1 : peekV s = 0 := by unfold peekV; rw [if_pos h4]
    have e2 : peekE s = 3 := by unfold peekE; rw [if_pos h4]
    rw [e1, e2]
    clear e1 e2
    go_enter Tryz.func117, Tryz.ntmps117
    go_wp2
    exact bodyPost_ret (v := .tuple #[.int .i64 0, .int .i64 3]) (by simp [results, Tryz.results117, go_sem]) rfl ⟨rfl, by repeat (first | with_reducible exact Grew.refl _ | apply Grew.more | apply Grew.alloc | apply Grew.drew | apply Grew.drewN)⟩
  · have e1 : peekV s = Oc.num s := by unfold peekV; rw [if_neg h4]
    have e2 : peekE s = 0 := by unfold peekE; rw [if_neg h4]
    rw [e1, e2]
    clear e1 e2
    have hsz : ((⟨s.toArray⟩ : ByteArray).extract 0 4).size = 4 := by rw [Lib.size_eq, Lib.extract_data]; simp; omega
    have hat : ∀ j x, j < 4 → s[j]? = some x → ((⟨s.toArray⟩ : ByteArray).extract 0 4).data.toList.getD j 0 = x := by
      intro j x hj hx
      rw [Lib.extract_data, List.drop_zero, List.getD_eq_getElem?_getD, List.getElem?_take_of_lt hj]
      show (s[j]?).getD 0 = x
      rw [hx]; rfl
    have hcv := Lib.run_convert_string_bytes (P := Tryz.prog) w 9 65 5 ((⟨s.toArray⟩ : ByteArray).extract 0 4) Tryz.underlying9 Tryz.underlying65 Tryz.underlying5
    rw [hsz] at hcv
    generalize grownCap w 4 0 5 = cap at hcv
    have hcell : ∀ j x, j < 4 → s[j]? = some x → (Lib.bytesWorld w 5 ((⟨s.toArray⟩ : ByteArray).extract 0 4)).cell? ⟨w.heap.size, j, none⟩ = some (.int .u8 x.toNat) := by
      intro j x hj hx
      rw [Lib.bytesWorld_cell w _ _ j (by omega), hat j x hj hx]
    have hgb := grew_bytes w 5 ((⟨s.toArray⟩ : ByteArray).extract 0 4)
    generalize Lib.bytesWorld w 5 ((⟨s.toArray⟩ : ByteArray).extract 0 4) = W2 at hcv hcell hgb
    have HC := Lib.hid hcell
    have HGB := Lib.hid hgb
    clear hsz hat hcell hgb
    go_enter Tryz.func117, Tryz.ntmps117
    go_wp2
    go_loop [4, 24] (fun u i => ∃ (k : Nat), k ≤ 4 ∧ i = .int .i64 k ∧ u = .int .u32 (Oc.part s k)) (fun _ i => 4 - (intOf i).toNat)
    case atStart => exact ⟨0, by omega, rfl, rfl⟩
    case round =>
      obtain ⟨k, hk, rfl, rfl⟩ := hrel
      by_cases hlt : k < 4
      · obtain ⟨x, hx⟩ : ∃ x, s[k]? = some x := ⟨s[k]'(by omega), List.getElem?_eq_getElem _⟩
        have hcx := HC.out k x hlt hx
        have hps := Oc.part_succ s k x hx
        have hpr := Oc.part_range s k hk
        have hpp : Oc.part s k < 16777216 := by
          have h3 : (256 : Int) ^ k ≤ 16777216 := by
            rcases (show k = 0 ∨ k = 1 ∨ k = 2 ∨ k = 3 by omega) with rfl | rfl | rfl | rfl <;> decide
          omega
        obtain ⟨hp0, -⟩ := hpr
        have hx8 := x.toNat_lt
        generalize Oc.part s k = u at *
        have HPS := Lib.hid hps
        clear hps hx hcv
        go_wp2
        go_round
        case rel => exact ⟨k + 1, by omega, by go_num, by rw [or_byte u x hp0 hpp, HPS.out]⟩
        case measure => first | (simp [intOf]; done) | (simp [intOf]; omega)
      · obtain rfl : k = 4 := by omega
        have hpr := Oc.part_raw s (by omega)
        have hrr := Oc.raw_range s
        have hw := wrap_num s
        rw [hpr]
        have hnr := Oc.num_range s
        generalize Oc.raw s = u at *
        generalize Oc.num s = z at *
        clear hpr hcv
        obtain ⟨hr0, hr1⟩ := hrr
        obtain ⟨hz0, hz1⟩ := hnr
        go_wp2
        exact bodyPost_ret (v := .tuple #[.int .i64 z, .int .i64 0]) (by simp [results, Tryz.results117, go_sem]) rfl ⟨rfl, HGB.out⟩

/-- What Within does. -/
def within (s : List UInt8) (a b : Int) : Int × Int × List UInt8 := if s.length < 4 then (0, 3, s) else if Oc.num s < a ∨ b < Oc.num s then (0, 2, s) else (Oc.num s, 0, s.drop 4)

theorem drop4 (s : List UInt8) (n : Nat) (hn : s.length = n) : (⟨s.toArray⟩ : ByteArray).extract 4 n = ⟨(s.drop 4).toArray⟩ := by
  have h : ((⟨s.toArray⟩ : ByteArray).extract 4 n).data.toList = s.drop 4 := by
    rw [Lib.extract_data]
    show (s.drop 4).take (n - 4) = s.drop 4
    exact List.take_of_length_le (by rw [List.length_drop]; omega)
  generalize (⟨s.toArray⟩ : ByteArray).extract 4 n = t at h
  obtain ⟨⟨l⟩⟩ := t
  simp only at h
  rw [h]

/-- No block but B is another. -/
def Keep (B : Nat) (w w' : World) : Prop := w.heap.size ≤ w'.heap.size ∧ ∀ q, q < w.heap.size → q ≠ B → w'.heap[q]? = w.heap[q]?
theorem Keep.ofGrew {B : Nat} {w w' : World} (g : Grew w w') : Keep B w w' := ⟨g.below.size, fun q hq _ => g.below.block q hq⟩
theorem Keep.trans {B : Nat} {a b c : World} (h : Keep B a b) (k : Keep B b c) : Keep B a c :=
  ⟨Nat.le_trans h.1 k.1, fun q hq hn => (k.2 q (Nat.lt_of_lt_of_le hq h.1) hn).trans (h.2 q hq hn)⟩
theorem Keep.set {w : World} {B : Nat} (v : Value) : Keep B w (w.setCell ⟨B, 0, none⟩ v) :=
  ⟨by simp [World.size_setCell], fun q _ hn => heap_set_other (fun e => hn e.symm)⟩
theorem Keep.own {α : Type} {base B : Nat} {e : TypeId} {k : Nat} {enc : α → List Value} {w w' : World} {v : Value} {l : List α} (h : Keep B w w') (ho : OwnAt base e k enc w v l) (hne : v.ownBlock ≠ some B) : OwnAt base e k enc w' v l :=
  OwnAt.sameBlock ho fun b hb => h.2 b (by have := (World.ownsRow.lt ho b hb).2; exact this) (fun e => hne (by rw [hb, e]))
theorem own_ne {α : Type} {base B : Nat} {e t : TypeId} {k : Nat} {enc : α → List Value} {w : World} {v : Value} {l : List α} {c : Array Value} {f : Nat × Nat} (ho : OwnAt base e k enc w v l) (h : w.heap[B]? = some (.cells c t f)) (ht : t ≠ e) : v.ownBlock ≠ some B := by
  intro q
  obtain ⟨h1, h2⟩ := ho
  rcases h2 with ⟨rfl, _⟩ | ⟨g, cap, cur, rfl, hb, hh, _⟩
  · cases q
  · cases q
    rw [show (Addr.block ⟨g, 0, none⟩) = g from rfl] at h
    rw [hh] at h
    cases h
    exact ht rfl

set_option maxHeartbeats 4000000 in
theorem octWithin_any (w0 : World) (B : Nat) (s : List UInt8) (a b : Int) (w : World) (h : ReaderAt w0.heap.size B w s) (hg : Grew w0 w) (hs : s.length ≤ 1000000) :
    Calls Tryz.prog 88 #[.pointer (some ⟨B, 0, none⟩), .int .i64 a, .int .i64 b] w fun e w' => e = .returned (.tuple #[.int .i64 (within s a b).1, .int .i64 (within s a b).2.1]) ∧ ReaderAt w0.heap.size B w' (within s a b).2.2 ∧ Grew w0 w' ∧ Keep B w w' := by
  have hc := cell_of_heap (o := 0) h.2
  have hf := frozen_of_heap (o := 0) h.2
  simp at hc
  have hB := Pre.ofCell hc
  have H := Lib.hid h
  have HG := Lib.hid hg
  have hd := drop4 s s.length rfl
  clear h hg
  by_cases h4 : s.length < 4
  · have e0 : within s a b = (0, 3, s) := by unfold within; rw [if_pos h4]
    have e1 : peekV s = 0 := by unfold peekV; rw [if_pos h4]
    have e2 : peekE s = 3 := by unfold peekE; rw [if_pos h4]
    have E1 := Lib.hid e1
    have E2 := Lib.hid e2
    rw [e0]
    clear e0 e1 e2
    go_enter Tryz.func88, Tryz.ntmps88
    go_wp2_with (go_at_call 117; refine (octPeek_any _ B s _ H.out hs).mono ?_; rintro e w1 ⟨rfl, R3, n3, rfl⟩; rw [E1.out, E2.out])
    exact bodyPost_ret (v := .tuple #[.int .i64 0, .int .i64 3]) (by simp [results, Tryz.results88, go_sem]) rfl ⟨rfl, H.out.grew (by repeat (first | with_reducible exact Grew.refl _ | apply Grew.more | apply Grew.alloc | apply Grew.drew | apply Grew.drewN)), HG.out.trans (by repeat (first | with_reducible exact Grew.refl _ | apply Grew.more | apply Grew.alloc | apply Grew.drew | apply Grew.drewN)), Keep.ofGrew (by repeat (first | with_reducible exact Grew.refl _ | apply Grew.more | apply Grew.alloc | apply Grew.drew | apply Grew.drewN))⟩
  · have e1 : peekV s = Oc.num s := by unfold peekV; rw [if_neg h4]
    have e2 : peekE s = 0 := by unfold peekE; rw [if_neg h4]
    have E1 := Lib.hid e1
    have E2 := Lib.hid e2
    clear e1 e2
    by_cases hr : Oc.num s < a ∨ b < Oc.num s
    · have e0 : within s a b = (0, 2, s) := by unfold within; rw [if_neg h4, if_pos hr]
      rw [e0]
      clear e0
      generalize Oc.num s = z at *
      go_enter Tryz.func88, Tryz.ntmps88
      by_cases hra : z < a
      · go_wp2_with (go_at_call 117; refine (octPeek_any _ B s _ H.out hs).mono ?_; rintro e w1 ⟨rfl, R3, n3, rfl⟩; rw [E1.out, E2.out])
        all_goals
          exact bodyPost_ret (v := .tuple #[.int .i64 0, .int .i64 2]) (by simp [results, Tryz.results88, go_sem]) rfl ⟨rfl, H.out.grew (by repeat (first | with_reducible exact Grew.refl _ | apply Grew.more | apply Grew.alloc | apply Grew.drew | apply Grew.drewN)), HG.out.trans (by repeat (first | with_reducible exact Grew.refl _ | apply Grew.more | apply Grew.alloc | apply Grew.drew | apply Grew.drewN)), Keep.ofGrew (by repeat (first | with_reducible exact Grew.refl _ | apply Grew.more | apply Grew.alloc | apply Grew.drew | apply Grew.drewN))⟩
      · have hrb : b < z := by omega
        clear hr
        go_wp2_with (go_at_call 117; refine (octPeek_any _ B s _ H.out hs).mono ?_; rintro e w1 ⟨rfl, R3, n3, rfl⟩; rw [E1.out, E2.out])
        all_goals
          exact bodyPost_ret (v := .tuple #[.int .i64 0, .int .i64 2]) (by simp [results, Tryz.results88, go_sem]) rfl ⟨rfl, H.out.grew (by repeat (first | with_reducible exact Grew.refl _ | apply Grew.more | apply Grew.alloc | apply Grew.drew | apply Grew.drewN)), HG.out.trans (by repeat (first | with_reducible exact Grew.refl _ | apply Grew.more | apply Grew.alloc | apply Grew.drew | apply Grew.drewN)), Keep.ofGrew (by repeat (first | with_reducible exact Grew.refl _ | apply Grew.more | apply Grew.alloc | apply Grew.drew | apply Grew.drewN))⟩
    · have e0 : within s a b = (Oc.num s, 0, s.drop 4) := by unfold within; rw [if_neg h4, if_neg hr]
      rw [e0]
      clear e0
      generalize Oc.num s = z at *
      have hra : ¬ z < a := fun h => hr (.inl h)
      have hrb : ¬ b < z := fun h => hr (.inr h)
      clear hr
      have h4' : 4 ≤ s.length := by omega
      go_enter Tryz.func88, Tryz.ntmps88
      go_wp2_with (go_at_call 117; refine (octPeek_any _ B s _ H.out hs).mono ?_; rintro e w1 ⟨rfl, R3, n3, rfl⟩; rw [E1.out, E2.out])
      exact bodyPost_ret (v := .tuple #[.int .i64 z, .int .i64 0]) (by simp [results, Tryz.results88, go_sem]) rfl
        ⟨rfl, ReaderAt.grew (W := w.setCell ⟨B, 0, none⟩ (.string ⟨(s.drop 4).toArray⟩)) ⟨H.out.1, heap_set_self H.out.2⟩ (by repeat (first | with_reducible exact Grew.refl _ | apply Grew.more | apply Grew.alloc | apply Grew.drew | apply Grew.drewN)), (Grew.setBehind HG.out H.out.1 _).more _ _, (Keep.set _).trans (Keep.ofGrew (by repeat (first | with_reducible exact Grew.refl _ | apply Grew.more | apply Grew.alloc | apply Grew.drew | apply Grew.drewN)))⟩

theorem octNum_any (w0 : World) (B : Nat) (s : List UInt8) (w : World) (h : ReaderAt w0.heap.size B w s) (hg : Grew w0 w) (hs : s.length ≤ 1000000) :
    Calls Tryz.prog 133 #[.pointer (some ⟨B, 0, none⟩)] w fun e w' => e = .returned (.tuple #[.int .i64 (within s (-2147483648) 2147483647).1, .int .i64 (within s (-2147483648) 2147483647).2.1]) ∧ ReaderAt w0.heap.size B w' (within s (-2147483648) 2147483647).2.2 ∧ Grew w0 w' ∧ Keep B w w' := by
  have hW := octWithin_any w0 B s (-2147483648) 2147483647 w h hg hs
  generalize within s (-2147483648) 2147483647 = r at *
  go_enter Tryz.func133, Tryz.ntmps133
  go_wp2_with (go_at_call 88; refine hW.mono ?_; rintro e w1 ⟨rfl, hr, hg1, hk1⟩; (have HR := Lib.hid hr); (have HG1 := Lib.hid hg1); (have HK1 := Lib.hid hk1); clear hr hg1 hk1)
  exact bodyPost_ret (v := .tuple #[.int .i64 r.1, .int .i64 r.2.1]) (by simp [results, Tryz.results133, go_sem]) rfl ⟨rfl, HR.out, HG1.out, HK1.out⟩

/-- The writer's bytes as a text. -/
theorem octOut_any (base B : Nat) (vb : Value) (bs : List UInt8) (w : World) (h : WriterAt base B w vb bs) (hl : bs.length ≤ 1000000) : Calls Tryz.prog 32 #[.pointer (some ⟨B, 0, none⟩)] w (Gives (.string ⟨bs.toArray⟩) w) := by
  have hc := cell_of_heap (o := 0) h.2.1
  simp at hc
  have H := Lib.hid h
  clear h
  rcases H.out.2.2.form with ⟨rfl, hb⟩ | ⟨b, cap, hvb, hb1, hb2, hb3⟩
  · subst hb
    have hcv : (convert 65 9 (.slice none 0 0)).run Tryz.prog w = .ok (.string ⟨#[]⟩) w := by
      rw [run_convert_bytes_string w _ _ 5 none 0 0 Tryz.underlying65 Tryz.underlying5 Tryz.underlying9]
      rfl
    go_enter Tryz.func32, Tryz.ntmps32
    go_wp2
    go_ret
    refine ⟨rfl, ?_⟩
    repeat (first | with_reducible exact Grew.refl _ | apply Grew.more | apply Grew.alloc | apply Grew.drew | apply Grew.drewN)
  · subst hvb
    have hr := H.out.2.2.rows encB_len
    have hcv : (convert 65 9 (.slice (some ⟨b, 0, none⟩) bs.length cap)).run Tryz.prog w = .ok (.string ⟨bs.toArray⟩) w :=
      run_convert_bytes_back w _ _ 5 ⟨b, 0, none⟩ cap bs Tryz.underlying65 Tryz.underlying5 Tryz.underlying9 (by
        intro j hj
        obtain ⟨a', cap', hv, _, hx⟩ := hr
        obtain ⟨b', off', hab, hx⟩ := hx (by intro e; subst e; simp at hj)
        cases hv
        cases hab
        rw [addr_add_zero]
        have := hx j bs[j] (List.getElem?_eq_getElem hj) 0 (.int .u8 bs[j].toNat) rfl
        simpa using this)
    clear hr
    go_enter Tryz.func32, Tryz.ntmps32
    go_wp2
    go_ret
    refine ⟨rfl, ?_⟩
    repeat (first | with_reducible exact Grew.refl _ | apply Grew.more | apply Grew.alloc | apply Grew.drew | apply Grew.drewN)

theorem WriterAt.grew {base B : Nat} {W W' : World} {vb : Value} {bs : List UInt8} (h : WriterAt base B W vb bs) (g : Grew W W') : WriterAt base B W' vb bs :=
  ⟨h.1, by rw [g.below.block B (Array.getElem?_eq_some_iff.1 h.2.1).1]; exact h.2.1, h.2.2.grew g⟩

end Go.Proofs.YtangapokicnfgaaGreat
