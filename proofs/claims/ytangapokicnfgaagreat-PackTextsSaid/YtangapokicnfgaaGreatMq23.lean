import Derived.Test.YtangapokicnfgaaGreatMq7
import Derived.Test.YtangapokicnfgaaGreatMq15
import Derived.Test.YtangapokicnfgaaGreatMq9
import Derived.Deep.LoopGhost
import Derived.Deep.DeepCutAuto
import Derived.Deep.QuietTactic
import Derived.BigQuiet
import Derived.Test.YtangapokicnfgaaGreatMq11
import Derived.Test.YtangapokicnfgaaGreatMq18
import Derived.Lib.ConvBytes
import Derived.Laws.BitsAllLaws
/-! slices.Equal at numbers and at instructions. -/
namespace Go.Proofs.YtangapokicnfgaaGreat
set_option linter.unusedSimpArgs false
set_option linter.unusedVariables false
open Go.RowKit Ga
set_option maxRecDepth 100000

set_option maxHeartbeats 4000000 in
theorem eqInts_any (v u : Value) (l m : List Int) (w : World) (hv : IntsAt w v l) (hu : IntsAt w u m) : Calls Tryz.prog 68 #[v, u] w (Gives (.bool (decide (l = m))) w) := by
  have HV := Lib.hid hv
  have HU := Lib.hid hu
  obtain ⟨a, cap, rfl, hm, -⟩ := ints_open hv
  obtain ⟨a2, cap2, rfl, hm2, -⟩ := ints_open hu
  clear hv hu
  by_cases hlen : l.length = m.length
  · have hD2 : ((l.length : Int) != (m.length : Int)) = false := by rw [hlen]; simp
    have HLEN := Lib.hid hlen
    clear hlen
    go_enter Tryz.func68, Tryz.ntmps68
    go_wp2
    go_loopg [13] l.length (fun gg s13 wr => ∃ g : Nat, g ≤ l.length ∧ l.length - g ≤ gg ∧ s13 = .int .i64 g ∧ Hid (Grew w wr) ∧ Hid (l.take g = m.take g))
    case atStart => exact ⟨0, by omega, by omega, rfl, Lib.hid (by repeat (first | with_reducible exact Grew.refl _ | apply Grew.more | apply Grew.alloc | apply Grew.drew | apply Grew.drewN)), Lib.hid rfl⟩
    case round =>
      obtain ⟨g, hg8, hgg, rfl, HGR, HNO⟩ := hrel
      by_cases hlt : g < l.length
      · have hlt2 : g < m.length := by have := HLEN.out; omega
        obtain ⟨av, cv, e, -, hx⟩ := ints_open (HV.out.grew HGR.out)
        cases e
        obtain ⟨av2, cv2, e, -, hx2⟩ := ints_open (HU.out.grew HGR.out)
        cases e
        obtain ⟨b, off, rfl, hb, cx⟩ := hx g hlt
        obtain ⟨b2, off2, rfl, hb2, dx⟩ := hx2 g hlt2
        have hs := take_eq_succ hlt hlt2 HNO.out
        have hf := neq_at hlt hlt2
        have HS := Lib.hid hs
        have HF := Lib.hid hf
        clear hx hx2 hs hf
        generalize l[g] = x at *
        generalize m[g] = y at *
        by_cases hr : x = y
        · cases hr
          go_upto_region 6 with fail
          go_quiet (fail)
          go_wp2
          go_roundg (l.length - (g + 1))
          case measure => omega
          case rel => exact ⟨g + 1, by omega, by omega, by go_num, Lib.hid (HGR.out.trans (by repeat (first | with_reducible exact Grew.refl _ | apply Grew.more | apply Grew.alloc | apply Grew.drew | apply Grew.drewN))), Lib.hid (HS.out (by first | exact rfl | trivial))⟩
        · have HR := Lib.hid hr
          have hfin : decide (l = m) = false := decide_eq_false (HF.out hr)
          have HFIN := Lib.hid hfin
          have hne : (x != y) = true := by rw [bne_iff_ne]; exact hr
          clear hr hfin
          go_upto_region 6 with fail
          go_quiet (fail)
          go_wp2
          go_ret
          exact ⟨by rw [HFIN.out]; rfl, HGR.out.trans (by repeat (first | with_reducible exact Grew.refl _ | apply Grew.more | apply Grew.alloc | apply Grew.drew | apply Grew.drewN))⟩
      · obtain rfl : g = l.length := by omega
        have hz := HNO.out
        rw [List.take_length, List.take_of_length_le (by have := HLEN.out; omega)] at hz
        have hfin : decide (l = m) = true := decide_eq_true hz
        have HFIN := Lib.hid hfin
        clear hz hfin
        go_wp2
        go_ret
        exact ⟨by rw [HFIN.out]; rfl, HGR.out⟩
  · have hD2 : ((l.length : Int) != (m.length : Int)) = true := by rw [bne_iff_ne]; omega
    have hfin : decide (l = m) = false := decide_eq_false fun h => hlen (by rw [h])
    have HFIN := Lib.hid hfin
    clear hfin hlen
    go_enter Tryz.func68, Tryz.ntmps68
    go_wp2
    go_ret
    exact ⟨by rw [HFIN.out]; rfl, by repeat (first | with_reducible exact Grew.refl _ | apply Grew.more | apply Grew.alloc | apply Grew.drew | apply Grew.drewN)⟩
set_option maxHeartbeats 4000000 in
theorem eqVals_any (v u : Value) (l m : List Val) (w : World) (hv : ValsAt w v l) (hu : ValsAt w u m) : Calls Tryz.prog 126 #[v, u] w (Gives (.bool (decide (l = m))) w) := by
  have HV := Lib.hid hv
  have HU := Lib.hid hu
  obtain ⟨a, cap, rfl, hm, -⟩ := hv.open2
  obtain ⟨a2, cap2, rfl, hm2, -⟩ := hu.open2
  clear hv hu
  by_cases hlen : l.length = m.length
  · have hD2 : ((l.length : Int) != (m.length : Int)) = false := by rw [hlen]; simp
    have HLEN := Lib.hid hlen
    clear hlen
    go_enter Tryz.func126, Tryz.ntmps126
    go_wp2
    go_loopg [13] l.length (fun gg s13 wr => ∃ g : Nat, g ≤ l.length ∧ l.length - g ≤ gg ∧ s13 = .int .i64 g ∧ Hid (Grew w wr) ∧ Hid (l.take g = m.take g))
    case atStart => exact ⟨0, by omega, by omega, rfl, Lib.hid (by repeat (first | with_reducible exact Grew.refl _ | apply Grew.more | apply Grew.alloc | apply Grew.drew | apply Grew.drewN)), Lib.hid rfl⟩
    case round =>
      obtain ⟨g, hg8, hgg, rfl, HGR, HNO⟩ := hrel
      by_cases hlt : g < l.length
      · have hlt2 : g < m.length := by have := HLEN.out; omega
        obtain ⟨av, cv, e, -, hx⟩ := (HV.out.grew HGR.out).open2
        cases e
        obtain ⟨av2, cv2, e, -, hx2⟩ := (HU.out.grew HGR.out).open2
        cases e
        obtain ⟨b, off, rfl, hb, cx, cy⟩ := hx g hlt
        obtain ⟨b2, off2, rfl, hb2, dx, dy⟩ := hx2 g hlt2
        have hs := take_eq_succ hlt hlt2 HNO.out
        have hf := neq_at hlt hlt2
        have HS := Lib.hid hs
        have HF := Lib.hid hf
        clear hx hx2 hs hf
        generalize l[g] = x at *
        generalize m[g] = y at *
        obtain ⟨x, x'⟩ := x
        obtain ⟨y, y'⟩ := y
        simp only at cx cy dx dy
        by_cases hr : ((x, x') : Val) = (y, y')
        · cases hr
          go_upto_region 6 with fail
          go_quiet (fail)
          go_wp2
          go_roundg (l.length - (g + 1))
          case measure => omega
          case rel => exact ⟨g + 1, by omega, by omega, by go_num, Lib.hid (HGR.out.trans (by repeat (first | with_reducible exact Grew.refl _ | apply Grew.more | apply Grew.alloc | apply Grew.drew | apply Grew.drewN))), Lib.hid (HS.out (by first | exact rfl | trivial))⟩
        · have HR := Lib.hid hr
          have hfin : decide (l = m) = false := decide_eq_false (HF.out hr)
          have HFIN := Lib.hid hfin
          have hq := run_neq_ins x x' y y' true (by
            have := HR.out
            by_cases e1 : x = y <;> by_cases e2 : x' = y' <;> simp [e1, e2]
            exact this (by rw [e1, e2]))
          clear hr hfin
          go_upto_region 6 with fail
          go_quiet (fail)
          go_wp2
          go_ret
          exact ⟨by rw [HFIN.out]; rfl, HGR.out.trans (by repeat (first | with_reducible exact Grew.refl _ | apply Grew.more | apply Grew.alloc | apply Grew.drew | apply Grew.drewN))⟩
      · obtain rfl : g = l.length := by omega
        have hz := HNO.out
        rw [List.take_length, List.take_of_length_le (by have := HLEN.out; omega)] at hz
        have hfin : decide (l = m) = true := decide_eq_true hz
        have HFIN := Lib.hid hfin
        clear hz hfin
        go_wp2
        go_ret
        exact ⟨by rw [HFIN.out]; rfl, HGR.out⟩
  · have hD2 : ((l.length : Int) != (m.length : Int)) = true := by rw [bne_iff_ne]; omega
    have hfin : decide (l = m) = false := decide_eq_false fun h => hlen (by rw [h])
    have HFIN := Lib.hid hfin
    clear hfin hlen
    go_enter Tryz.func126, Tryz.ntmps126
    go_wp2
    go_ret
    exact ⟨by rw [HFIN.out]; rfl, by repeat (first | with_reducible exact Grew.refl _ | apply Grew.more | apply Grew.alloc | apply Grew.drew | apply Grew.drewN)⟩
end Go.Proofs.YtangapokicnfgaaGreat

/-! octet.Reader. -/
namespace Go.Proofs.YtangapokicnfgaaGreat
set_option linter.unusedSimpArgs false
set_option linter.unusedVariables false
open Go.RowKit
set_option maxRecDepth 100000

/-- The reader at block B: what is left. -/
def ReaderAt (base B : Nat) (W : World) (s : List UInt8) : Prop :=
  base ≤ B ∧ W.heap[B]? = some (.cells #[.string ⟨s.toArray⟩] 135)
theorem ReaderAt.grew {base B : Nat} {W W' : World} {s : List UInt8} (h : ReaderAt base B W s) (g : Grew W W') : ReaderAt base B W' s :=
  ⟨h.1, by rw [g.below.block B (Array.getElem?_eq_some_iff.1 h.2).1]; exact h.2⟩

theorem octNew_any (s : List UInt8) (w : World) : Calls Tryz.prog 37 #[.string ⟨s.toArray⟩] w fun e w' => e = .returned (.pointer (some ⟨w.heap.size, 0, none⟩)) ∧ w' = w.alloc (.cells #[.string ⟨s.toArray⟩] 135) := by
  go_enter Tryz.func37, Tryz.ntmps37
  go_wp2
  go_ret
  exact ⟨rfl, rfl⟩
theorem octLeft_any (base B : Nat) (s : List UInt8) (w : World) (h : ReaderAt base B w s) : Calls Tryz.prog 81 #[.pointer (some ⟨B, 0, none⟩)] w fun e w' => e = .returned (.int .i64 s.length) ∧ w = w' := by
  have hc := cell_of_heap (o := 0) h.2
  simp at hc
  clear h
  go_enter Tryz.func81, Tryz.ntmps81
  go_wp2
  go_ret
  exact ⟨rfl, rfl⟩

theorem or_byte (u : Int) (x : UInt8) (h0 : 0 ≤ u) (h1 : u < 16777216) : bits .or .u32 (u * 256) (x.toNat : Int) = u * 256 + x.toNat := by
  have hx := x.toNat_lt
  obtain ⟨n, rfl⟩ : ∃ n : Nat, u = n := ⟨u.toNat, by omega⟩
  have e : (n : Int) * 256 = ((n * 256 : Nat) : Int) := by omega
  rw [e, u32_or_nat _ _ (by omega) (by omega)]
  have := Nat.shiftLeft_add_eq_or_of_lt (show x.toNat < 2 ^ 8 by omega) n
  rw [Nat.shiftLeft_eq] at this
  have h2 : n * 256 ||| x.toNat = n * 256 + x.toNat := this.symm
  rw [h2]; omega
theorem wrap_num (s : List UInt8) : wrap32 (Oc.raw s) = Oc.num s := by
  have := Oc.raw_range s
  unfold Oc.num
  simp only [wrap32]
  split <;> omega

/-- The next number, not read. -/
def peekV (s : List UInt8) : Int := if s.length < 4 then 0 else Oc.num s
def peekE (s : List UInt8) : Int := if s.length < 4 then 3 else 0

set_option maxHeartbeats 4000000 in
theorem octPeek_any (base B : Nat) (s : List UInt8) (w : World) (h : ReaderAt base B w s) (hs : s.length ≤ 1000000) : Calls Tryz.prog 117 #[.pointer (some ⟨B, 0, none⟩)] w (Gives (.tuple #[.int .i64 (peekV s), .int .i64 (peekE s)]) w) := by
  have hc := cell_of_heap (o := 0) h.2
  simp at hc
  have hB := Pre.ofCell hc
  clear h
  by_cases h4 : s.length < 4
  · have e1 : peekV s = 0 := by unfold peekV; rw [if_pos h4]
    have e2 : peekE s = 3 := by unfold peekE; rw [if_pos h4]
    rw [e1, e2]
    clear e1 e2
    go_enter Tryz.func117, Tryz.ntmps117
    go_wp2
    exact bodyPost_ret (v := .tuple #[.int .i64 0, .int .i64 3]) (by simp [results, Tryz.results117, go_sem]) rfl ⟨rfl, by repeat (first | with_reducible exact Grew.refl _ | apply Grew.more | apply Grew.alloc | apply Grew.drew | apply Grew.drewN)⟩
  · have e1 : peekV s = Oc.num s := by unfold peekV; rw [if_neg h4]
    have e2 : peekE s = 0 := by unfold peekE; rw [if_neg h4]
    rw [e1, e2]
    clear e1 e2
    have hsz : ((⟨s.toArray⟩ : ByteArray).extract 0 4).size = 4 := by rw [Lib.size_eq, Lib.extract_data]; simp; omega
    have hat : ∀ j x, j < 4 → s[j]? = some x → ((⟨s.toArray⟩ : ByteArray).extract 0 4).data.toList.getD j 0 = x := by
      intro j x hj hx
      rw [Lib.extract_data, List.drop_zero, List.getD_eq_getElem?_getD, List.getElem?_take_of_lt hj]
      show (s[j]?).getD 0 = x
      rw [hx]; rfl
    have hcv := Lib.run_convert_string_bytes (P := Tryz.prog) w 9 65 5 ((⟨s.toArray⟩ : ByteArray).extract 0 4) Tryz.underlying9 Tryz.underlying65 Tryz.underlying5
    rw [hsz] at hcv
    generalize grownCap w 4 0 5 = cap at hcv
    have hcell : ∀ j x, j < 4 → s[j]? = some x → (Lib.bytesWorld w 5 ((⟨s.toArray⟩ : ByteArray).extract 0 4)).cell? ⟨w.heap.size, j, none⟩ = some (.int .u8 x.toNat) := by
      intro j x hj hx
      rw [Lib.bytesWorld_cell w _ _ j (by omega), hat j x hj hx]
    have hgb := grew_bytes w 5 ((⟨s.toArray⟩ : ByteArray).extract 0 4)
    generalize Lib.bytesWorld w 5 ((⟨s.toArray⟩ : ByteArray).extract 0 4) = W2 at hcv hcell hgb
    have HC := Lib.hid hcell
    have HGB := Lib.hid hgb
    clear hsz hat hcell hgb
    go_enter Tryz.func117, Tryz.ntmps117
    go_wp2
    go_loop [4, 24] (fun u i => ∃ (k : Nat), k ≤ 4 ∧ i = .int .i64 k ∧ u = .int .u32 (Oc.part s k)) (fun _ i => 4 - (intOf i).toNat)
    case atStart => exact ⟨0, by omega, rfl, rfl⟩
    case round =>
      obtain ⟨k, hk, rfl, rfl⟩ := hrel
      by_cases hlt : k < 4
      · obtain ⟨x, hx⟩ : ∃ x, s[k]? = some x := ⟨s[k]'(by omega), List.getElem?_eq_getElem _⟩
        have hcx := HC.out k x hlt hx
        have hps := Oc.part_succ s k x hx
        have hpr := Oc.part_range s k hk
        have hpp : Oc.part s k < 16777216 := by
          have h3 : (256 : Int) ^ k ≤ 16777216 := by
            rcases (show k = 0 ∨ k = 1 ∨ k = 2 ∨ k = 3 by omega) with rfl | rfl | rfl | rfl <;> decide
          omega
        obtain ⟨hp0, -⟩ := hpr
        have hx8 := x.toNat_lt
        generalize Oc.part s k = u at *
        have HPS := Lib.hid hps
        clear hps hx hcv
        go_wp2
        go_round
        case rel => exact ⟨k + 1, by omega, by go_num, by rw [or_byte u x hp0 hpp, HPS.out]⟩
        case measure => first | (simp [intOf]; done) | (simp [intOf]; omega)
      · obtain rfl : k = 4 := by omega
        have hpr := Oc.part_raw s (by omega)
        have hrr := Oc.raw_range s
        have hw := wrap_num s
        rw [hpr]
        have hnr := Oc.num_range s
        generalize Oc.raw s = u at *
        generalize Oc.num s = z at *
        clear hpr hcv
        obtain ⟨hr0, hr1⟩ := hrr
        obtain ⟨hz0, hz1⟩ := hnr
        go_wp2
        exact bodyPost_ret (v := .tuple #[.int .i64 z, .int .i64 0]) (by simp [results, Tryz.results117, go_sem]) rfl ⟨rfl, HGB.out⟩

/-- What Within does. -/
def within (s : List UInt8) (a b : Int) : Int × Int × List UInt8 := if s.length < 4 then (0, 3, s) else if Oc.num s < a ∨ b < Oc.num s then (0, 2, s) else (Oc.num s, 0, s.drop 4)

theorem drop4 (s : List UInt8) (n : Nat) (hn : s.length = n) : (⟨s.toArray⟩ : ByteArray).extract 4 n = ⟨(s.drop 4).toArray⟩ := by
  have h : ((⟨s.toArray⟩ : ByteArray).extract 4 n).data.toList = s.drop 4 := by
    rw [Lib.extract_data]
    show (s.drop 4).take (n - 4) = s.drop 4
    exact List.take_of_length_le (by rw [List.length_drop]; omega)
  generalize (⟨s.toArray⟩ : ByteArray).extract 4 n = t at h
  obtain ⟨⟨l⟩⟩ := t
  simp only at h
  rw [h]

/-- No block but B is another. -/
def Keep (B : Nat) (w w' : World) : Prop := w.heap.size ≤ w'.heap.size ∧ ∀ q, q < w.heap.size → q ≠ B → w'.heap[q]? = w.heap[q]?
theorem Keep.ofGrew {B : Nat} {w w' : World} (g : Grew w w') : Keep B w w' := ⟨g.below.size, fun q hq _ => g.below.block q hq⟩
theorem Keep.trans {B : Nat} {a b c : World} (h : Keep B a b) (k : Keep B b c) : Keep B a c :=
  ⟨Nat.le_trans h.1 k.1, fun q hq hn => (k.2 q (Nat.lt_of_lt_of_le hq h.1) hn).trans (h.2 q hq hn)⟩
theorem Keep.set {w : World} {B : Nat} (v : Value) : Keep B w (w.setCell ⟨B, 0, none⟩ v) :=
  ⟨by simp [World.size_setCell], fun q _ hn => heap_set_other (fun e => hn e.symm)⟩
theorem Keep.own {α : Type} {base B : Nat} {e : TypeId} {k : Nat} {enc : α → List Value} {w w' : World} {v : Value} {l : List α} (h : Keep B w w') (ho : OwnAt base e k enc w v l) (hne : v.ownBlock ≠ some B) : OwnAt base e k enc w' v l :=
  OwnAt.sameBlock ho fun b hb => h.2 b (by have := (World.ownsRow.lt ho b hb).2; exact this) (fun e => hne (by rw [hb, e]))
theorem own_ne {α : Type} {base B : Nat} {e t : TypeId} {k : Nat} {enc : α → List Value} {w : World} {v : Value} {l : List α} {c : Array Value} {f : Nat × Nat} (ho : OwnAt base e k enc w v l) (h : w.heap[B]? = some (.cells c t f)) (ht : t ≠ e) : v.ownBlock ≠ some B := by
  intro q
  obtain ⟨h1, h2⟩ := ho
  rcases h2 with ⟨rfl, _⟩ | ⟨g, cap, cur, rfl, hb, hh, _⟩
  · cases q
  · cases q
    rw [show (Addr.block ⟨g, 0, none⟩) = g from rfl] at h
    rw [hh] at h
    cases h
    exact ht rfl

set_option maxHeartbeats 4000000 in
theorem octWithin_any (w0 : World) (B : Nat) (s : List UInt8) (a b : Int) (w : World) (h : ReaderAt w0.heap.size B w s) (hg : Grew w0 w) (hs : s.length ≤ 1000000) :
    Calls Tryz.prog 88 #[.pointer (some ⟨B, 0, none⟩), .int .i64 a, .int .i64 b] w fun e w' => e = .returned (.tuple #[.int .i64 (within s a b).1, .int .i64 (within s a b).2.1]) ∧ ReaderAt w0.heap.size B w' (within s a b).2.2 ∧ Grew w0 w' ∧ Keep B w w' := by
  have hc := cell_of_heap (o := 0) h.2
  have hf := frozen_of_heap (o := 0) h.2
  simp at hc
  have hB := Pre.ofCell hc
  have H := Lib.hid h
  have HG := Lib.hid hg
  have hd := drop4 s s.length rfl
  clear h hg
  by_cases h4 : s.length < 4
  · have e0 : within s a b = (0, 3, s) := by unfold within; rw [if_pos h4]
    have e1 : peekV s = 0 := by unfold peekV; rw [if_pos h4]
    have e2 : peekE s = 3 := by unfold peekE; rw [if_pos h4]
    have E1 := Lib.hid e1
    have E2 := Lib.hid e2
    rw [e0]
    clear e0 e1 e2
    go_enter Tryz.func88, Tryz.ntmps88
    go_wp2_with (go_at_call 117; refine (octPeek_any _ B s _ H.out hs).mono ?_; rintro e w1 ⟨rfl, R3, n3, rfl⟩; rw [E1.out, E2.out])
    exact bodyPost_ret (v := .tuple #[.int .i64 0, .int .i64 3]) (by simp [results, Tryz.results88, go_sem]) rfl ⟨rfl, H.out.grew (by repeat (first | with_reducible exact Grew.refl _ | apply Grew.more | apply Grew.alloc | apply Grew.drew | apply Grew.drewN)), HG.out.trans (by repeat (first | with_reducible exact Grew.refl _ | apply Grew.more | apply Grew.alloc | apply Grew.drew | apply Grew.drewN)), Keep.ofGrew (by repeat (first | with_reducible exact Grew.refl _ | apply Grew.more | apply Grew.alloc | apply Grew.drew | apply Grew.drewN))⟩
  · have e1 : peekV s = Oc.num s := by unfold peekV; rw [if_neg h4]
    have e2 : peekE s = 0 := by unfold peekE; rw [if_neg h4]
    have E1 := Lib.hid e1
    have E2 := Lib.hid e2
    clear e1 e2
    by_cases hr : Oc.num s < a ∨ b < Oc.num s
    · have e0 : within s a b = (0, 2, s) := by unfold within; rw [if_neg h4, if_pos hr]
      rw [e0]
      clear e0
      generalize Oc.num s = z at *
      go_enter Tryz.func88, Tryz.ntmps88
      by_cases hra : z < a
      · go_wp2_with (go_at_call 117; refine (octPeek_any _ B s _ H.out hs).mono ?_; rintro e w1 ⟨rfl, R3, n3, rfl⟩; rw [E1.out, E2.out])
        all_goals
          exact bodyPost_ret (v := .tuple #[.int .i64 0, .int .i64 2]) (by simp [results, Tryz.results88, go_sem]) rfl ⟨rfl, H.out.grew (by repeat (first | with_reducible exact Grew.refl _ | apply Grew.more | apply Grew.alloc | apply Grew.drew | apply Grew.drewN)), HG.out.trans (by repeat (first | with_reducible exact Grew.refl _ | apply Grew.more | apply Grew.alloc | apply Grew.drew | apply Grew.drewN)), Keep.ofGrew (by repeat (first | with_reducible exact Grew.refl _ | apply Grew.more | apply Grew.alloc | apply Grew.drew | apply Grew.drewN))⟩
      · have hrb : b < z := by omega
        clear hr
        go_wp2_with (go_at_call 117; refine (octPeek_any _ B s _ H.out hs).mono ?_; rintro e w1 ⟨rfl, R3, n3, rfl⟩; rw [E1.out, E2.out])
        all_goals
          exact bodyPost_ret (v := .tuple #[.int .i64 0, .int .i64 2]) (by simp [results, Tryz.results88, go_sem]) rfl ⟨rfl, H.out.grew (by repeat (first | with_reducible exact Grew.refl _ | apply Grew.more | apply Grew.alloc | apply Grew.drew | apply Grew.drewN)), HG.out.trans (by repeat (first | with_reducible exact Grew.refl _ | apply Grew.more | apply Grew.alloc | apply Grew.drew | apply Grew.drewN)), Keep.ofGrew (by repeat (first | with_reducible exact Grew.refl _ | apply Grew.more | apply Grew.alloc | apply Grew.drew | apply Grew.drewN))⟩
    · have e0 : within s a b = (Oc.num s, 0, s.drop 4) := by unfold within; rw [if_neg h4, if_neg hr]
      rw [e0]
      clear e0
      generalize Oc.num s = z at *
      have hra : ¬ z < a := fun h => hr (.inl h)
      have hrb : ¬ b < z := fun h => hr (.inr h)
      clear hr
      have h4' : 4 ≤ s.length := by omega
      go_enter Tryz.func88, Tryz.ntmps88
      go_wp2_with (go_at_call 117; refine (octPeek_any _ B s _ H.out hs).mono ?_; rintro e w1 ⟨rfl, R3, n3, rfl⟩; rw [E1.out, E2.out])
      exact bodyPost_ret (v := .tuple #[.int .i64 z, .int .i64 0]) (by simp [results, Tryz.results88, go_sem]) rfl
        ⟨rfl, ReaderAt.grew (W := w.setCell ⟨B, 0, none⟩ (.string ⟨(s.drop 4).toArray⟩)) ⟨H.out.1, heap_set_self H.out.2⟩ (by repeat (first | with_reducible exact Grew.refl _ | apply Grew.more | apply Grew.alloc | apply Grew.drew | apply Grew.drewN)), (Grew.setBehind HG.out H.out.1 _).more _ _, (Keep.set _).trans (Keep.ofGrew (by repeat (first | with_reducible exact Grew.refl _ | apply Grew.more | apply Grew.alloc | apply Grew.drew | apply Grew.drewN)))⟩

theorem octNum_any (w0 : World) (B : Nat) (s : List UInt8) (w : World) (h : ReaderAt w0.heap.size B w s) (hg : Grew w0 w) (hs : s.length ≤ 1000000) :
    Calls Tryz.prog 133 #[.pointer (some ⟨B, 0, none⟩)] w fun e w' => e = .returned (.tuple #[.int .i64 (within s (-2147483648) 2147483647).1, .int .i64 (within s (-2147483648) 2147483647).2.1]) ∧ ReaderAt w0.heap.size B w' (within s (-2147483648) 2147483647).2.2 ∧ Grew w0 w' ∧ Keep B w w' := by
  have hW := octWithin_any w0 B s (-2147483648) 2147483647 w h hg hs
  generalize within s (-2147483648) 2147483647 = r at *
  go_enter Tryz.func133, Tryz.ntmps133
  go_wp2_with (go_at_call 88; refine hW.mono ?_; rintro e w1 ⟨rfl, hr, hg1, hk1⟩; (have HR := Lib.hid hr); (have HG1 := Lib.hid hg1); (have HK1 := Lib.hid hk1); clear hr hg1 hk1)
  exact bodyPost_ret (v := .tuple #[.int .i64 r.1, .int .i64 r.2.1]) (by simp [results, Tryz.results133, go_sem]) rfl ⟨rfl, HR.out, HG1.out, HK1.out⟩

/-- The writer's bytes as a text. -/
theorem octOut_any (base B : Nat) (vb : Value) (bs : List UInt8) (w : World) (h : WriterAt base B w vb bs) (hl : bs.length ≤ 1000000) : Calls Tryz.prog 32 #[.pointer (some ⟨B, 0, none⟩)] w (Gives (.string ⟨bs.toArray⟩) w) := by
  have hc := cell_of_heap (o := 0) h.2.1
  simp at hc
  have H := Lib.hid h
  clear h
  rcases H.out.2.2.form with ⟨rfl, hb⟩ | ⟨b, cap, hvb, hb1, hb2, hb3⟩
  · subst hb
    have hcv : (convert 65 9 (.slice none 0 0)).run Tryz.prog w = .ok (.string ⟨#[]⟩) w := by
      rw [run_convert_bytes_string w _ _ 5 none 0 0 Tryz.underlying65 Tryz.underlying5 Tryz.underlying9]
      rfl
    go_enter Tryz.func32, Tryz.ntmps32
    go_wp2
    go_ret
    refine ⟨rfl, ?_⟩
    repeat (first | with_reducible exact Grew.refl _ | apply Grew.more | apply Grew.alloc | apply Grew.drew | apply Grew.drewN)
  · subst hvb
    have hr := H.out.2.2.rows encB_len
    have hcv : (convert 65 9 (.slice (some ⟨b, 0, none⟩) bs.length cap)).run Tryz.prog w = .ok (.string ⟨bs.toArray⟩) w :=
      run_convert_bytes_back w _ _ 5 ⟨b, 0, none⟩ cap bs Tryz.underlying65 Tryz.underlying5 Tryz.underlying9 (by
        intro j hj
        obtain ⟨a', cap', hv, _, hx⟩ := hr
        obtain ⟨b', off', hab, hx⟩ := hx (by intro e; subst e; simp at hj)
        cases hv
        cases hab
        rw [addr_add_zero]
        have := hx j bs[j] (List.getElem?_eq_getElem hj) 0 (.int .u8 bs[j].toNat) rfl
        simpa using this)
    clear hr
    go_enter Tryz.func32, Tryz.ntmps32
    go_wp2
    go_ret
    refine ⟨rfl, ?_⟩
    repeat (first | with_reducible exact Grew.refl _ | apply Grew.more | apply Grew.alloc | apply Grew.drew | apply Grew.drewN)

theorem WriterAt.grew {base B : Nat} {W W' : World} {vb : Value} {bs : List UInt8} (h : WriterAt base B W vb bs) (g : Grew W W') : WriterAt base B W' vb bs :=
  ⟨h.1, by rw [g.below.block B (Array.getElem?_eq_some_iff.1 h.2.1).1]; exact h.2.1, h.2.2.grew g⟩

/-- Num of numbers that stand in a slice just made. -/
theorem writerNum_fresh (w0 W : World) (B : Nat) (vb : Value) (bs : List UInt8) (l : List Int) (c : List Value) (b n cap : Nat) (hw : WriterAt w0.heap.size B W vb bs) (hg : Grew w0 W) (hc : c = l.map (Value.int .i64)) (hb : b = W.heap.size) (hn : n = l.length)
    (hok : l.all Oc.fitsN = true) (hlen : bs.length + l.length * 4 ≤ 100000) :
    Calls Tryz.prog 53 #[.pointer (some ⟨B, 0, none⟩), .slice (some ⟨b, 0, none⟩) n cap] (W.alloc (.cells c.toArray 3)) fun e W' => e = .returned (.int .i64 0) ∧ Grew w0 W' ∧ ∃ vb', WriterAt w0.heap.size B W' vb' (bs ++ Oc.bes l) := by
  have hB := (Array.getElem?_eq_some_iff.1 hw.2.1).1
  refine writerNum_any w0 _ B vb bs _ l (hw.grew ((Grew.refl W).alloc _)) (hg.alloc _) ?_ ?_ hok hlen
  · refine RowsAt.fresh hn (by unfold maxLen; omega) encN_len hb ?_
    rw [hc]
    clear hc hok hlen hn
    induction l with
    | nil => rfl
    | cons x l ih => rw [List.map_cons, List.flatMap_cons, ih]; rfl
  · rintro b2 off ⟨n2, c2, e⟩
    cases e
    subst hb
    exact ⟨.inr ⟨_, _, _, heap_new_at W _ _ rfl, by decide⟩, by omega⟩
end Go.Proofs.YtangapokicnfgaaGreat
