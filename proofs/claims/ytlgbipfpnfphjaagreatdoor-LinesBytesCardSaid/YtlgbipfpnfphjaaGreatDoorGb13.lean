import Derived.Test.YtlgbipfpnfphjaaGreatDoorGb8
import Derived.Test.YtlgbipfpnfphjaaGreatDoorGb0
import Derived.Test.YtlgbipfpnfphjaaGreatDoorGb9
import Derived.Lib.ConvBytes
import Derived.Laws.BitsAllLaws
import Derived.Deep.DeepCutAuto
import Derived.Deep.QuietTactic
import Derived.RegionTactic
/-! octet.Reader. -/
namespace Go.Proofs.YtlgbipfpnfphjaaGreatDoor
set_option linter.unusedSimpArgs false
set_option linter.unusedVariables false
open Go.RowKit
set_option maxRecDepth 100000

/-- The reader at block B: what is left. -/
def ReaderAt (base B : Nat) (W : World) (s : List UInt8) : Prop :=
  base ≤ B ∧ W.heap[B]? = some (.cells #[.string ⟨s.toArray⟩] 138)

theorem ReaderAt.grew {base B : Nat} {W W' : World} {s : List UInt8} (h : ReaderAt base B W s) (g : Grew W W') : ReaderAt base B W' s :=
  ⟨h.1, by rw [g.below.block B (Array.getElem?_eq_some_iff.1 h.2).1]; exact h.2⟩

theorem octNew_any (s : List UInt8) (w : World) : Calls Tryz.prog 52 #[.string ⟨s.toArray⟩] w fun e w' => e = .returned (.pointer (some ⟨w.heap.size, 0, none⟩)) ∧ w' = w.alloc (.cells #[.string ⟨s.toArray⟩] 138) := by
  go_enter Tryz.func52, Tryz.ntmps52
  go_wp2
  go_ret
  exact ⟨rfl, rfl⟩

theorem octLeft_any (base B : Nat) (s : List UInt8) (w : World) (h : ReaderAt base B w s) : Calls Tryz.prog 107 #[.pointer (some ⟨B, 0, none⟩)] w fun e w' => e = .returned (.int .i64 s.length) ∧ w = w' := by
  have hc := cell_of_heap (o := 0) h.2
  simp at hc
  clear h
  go_enter Tryz.func107, Tryz.ntmps107
  go_wp2
  go_ret
  exact ⟨rfl, rfl⟩

theorem or_byte (u : Int) (x : UInt8) (h0 : 0 ≤ u) (h1 : u < 16777216) : bits .or .u32 (u * 256) (x.toNat : Int) = u * 256 + x.toNat := by
  have hx := x.toNat_lt
  obtain ⟨n, rfl⟩ : ∃ n : Nat, u = n := ⟨u.toNat, by omega⟩
  have e : (n : Int) * 256 = ((n * 256 : Nat) : Int) := by omega
  rw [e, u32_or_nat _ _ (by omega) (by omega)]
  have := Nat.shiftLeft_add_eq_or_of_lt (show x.toNat < 2 ^ 8 by omega) n
  rw [Nat.shiftLeft_eq] at this
  have h2 : n * 256 ||| x.toNat = n * 256 + x.toNat := this.symm
  rw [h2]; omega
theorem wrap_num (s : List UInt8) : wrap32 (Oc.raw s) = Oc.num s := by
  have := Oc.raw_range s
  unfold Oc.num
  simp only [wrap32]
  split <;> omega

/-- The next number, not read. -/
def peekV (s : List UInt8) : Int := if s.length < 4 then 0 else Oc.num s
def peekE (s : List UInt8) : Int := if s.length < 4 then 3 else 0

set_option maxHeartbeats 4000000 in
theorem octPeek_any (base B : Nat) (s : List UInt8) (w : World) (h : ReaderAt base B w s) (hs : s.length ≤ 1000000) : Calls Tryz.prog 134 #[.pointer (some ⟨B, 0, none⟩)] w (Gives (.tuple #[.int .i64 (peekV s), .int .i64 (peekE s)]) w) := by
  have hc := cell_of_heap (o := 0) h.2
  simp at hc
  have hB := Pre.ofCell hc
  clear h
  by_cases h4 : s.length < 4
  · have e1 : peekV s = 0 := by unfold peekV; rw [if_pos h4]
    have e2 : peekE s = 3 := by unfold peekE; rw [if_pos h4]
    rw [e1, e2]
    clear e1 e2
    go_enter Tryz.func134, Tryz.ntmps134
    go_wp2
    exact bodyPost_ret (v := .tuple #[.int .i64 0, .int .i64 3]) (by simp [results, Tryz.results134, go_sem]) rfl ⟨rfl, by repeat (first | with_reducible exact Grew.refl _ | apply Grew.more | apply Grew.alloc | apply Grew.drew | apply Grew.drewN)⟩
  · have e1 : peekV s = Oc.num s := by unfold peekV; rw [if_neg h4]
    have e2 : peekE s = 0 := by unfold peekE; rw [if_neg h4]
    rw [e1, e2]
    clear e1 e2
    have hsz : ((⟨s.toArray⟩ : ByteArray).extract 0 4).size = 4 := by rw [Lib.size_eq, Lib.extract_data]; simp; omega
    have hat : ∀ j x, j < 4 → s[j]? = some x → ((⟨s.toArray⟩ : ByteArray).extract 0 4).data.toList.getD j 0 = x := by
      intro j x hj hx
      rw [Lib.extract_data, List.drop_zero, List.getD_eq_getElem?_getD, List.getElem?_take_of_lt hj]
      show (s[j]?).getD 0 = x
      rw [hx]; rfl
    have hcv := Lib.run_convert_string_bytes (P := Tryz.prog) w 9 86 5 ((⟨s.toArray⟩ : ByteArray).extract 0 4) Tryz.underlying9 Tryz.underlying86 Tryz.underlying5
    rw [hsz] at hcv
    generalize grownCap w 4 0 5 = cap at hcv
    have hcell : ∀ j x, j < 4 → s[j]? = some x → (Lib.bytesWorld w 5 ((⟨s.toArray⟩ : ByteArray).extract 0 4)).cell? ⟨w.heap.size, j, none⟩ = some (.int .u8 x.toNat) := by
      intro j x hj hx
      rw [Lib.bytesWorld_cell w _ _ j (by omega), hat j x hj hx]
    have hgb := grew_bytes w 5 ((⟨s.toArray⟩ : ByteArray).extract 0 4)
    generalize Lib.bytesWorld w 5 ((⟨s.toArray⟩ : ByteArray).extract 0 4) = W2 at hcv hcell hgb
    have HC := Lib.hid hcell
    have HGB := Lib.hid hgb
    clear hsz hat hcell hgb
    go_enter Tryz.func134, Tryz.ntmps134
    go_wp2
    go_loop [4, 24] (fun u i => ∃ (k : Nat), k ≤ 4 ∧ i = .int .i64 k ∧ u = .int .u32 (Oc.part s k)) (fun _ i => 4 - (intOf i).toNat)
    case atStart => exact ⟨0, by omega, rfl, rfl⟩
    case round =>
      obtain ⟨k, hk, rfl, rfl⟩ := hrel
      by_cases hlt : k < 4
      · obtain ⟨x, hx⟩ : ∃ x, s[k]? = some x := ⟨s[k]'(by omega), List.getElem?_eq_getElem _⟩
        have hcx := HC.out k x hlt hx
        have hps := Oc.part_succ s k x hx
        have hpr := Oc.part_range s k hk
        have hpp : Oc.part s k < 16777216 := by
          have h3 : (256 : Int) ^ k ≤ 16777216 := by
            rcases (show k = 0 ∨ k = 1 ∨ k = 2 ∨ k = 3 by omega) with rfl | rfl | rfl | rfl <;> decide
          omega
        obtain ⟨hp0, -⟩ := hpr
        have hx8 := x.toNat_lt
        generalize Oc.part s k = u at *
        have HPS := Lib.hid hps
        clear hps hx hcv
        go_wp2
        go_round
        case rel => exact ⟨k + 1, by omega, by go_num, by rw [or_byte u x hp0 hpp, HPS.out]⟩
        case measure => first | (simp [intOf]; done) | (simp [intOf]; omega)
      · obtain rfl : k = 4 := by omega
        have hpr := Oc.part_raw s (by omega)
        have hrr := Oc.raw_range s
        have hw := wrap_num s
        rw [hpr]
        have hnr := Oc.num_range s
        generalize Oc.raw s = u at *
        generalize Oc.num s = z at *
        clear hpr hcv
        obtain ⟨hr0, hr1⟩ := hrr
        obtain ⟨hz0, hz1⟩ := hnr
        go_wp2
        exact bodyPost_ret (v := .tuple #[.int .i64 z, .int .i64 0]) (by simp [results, Tryz.results134, go_sem]) rfl ⟨rfl, HGB.out⟩

/-- What Within does. -/
def within (s : List UInt8) (a b : Int) : Int × Int × List UInt8 := if s.length < 4 then (0, 3, s) else if Oc.num s < a ∨ b < Oc.num s then (0, 2, s) else (Oc.num s, 0, s.drop 4)

theorem drop4 (s : List UInt8) (n : Nat) (hn : s.length = n) : (⟨s.toArray⟩ : ByteArray).extract 4 n = ⟨(s.drop 4).toArray⟩ := by
  have h : ((⟨s.toArray⟩ : ByteArray).extract 4 n).data.toList = s.drop 4 := by
    rw [Lib.extract_data]
    show (s.drop 4).take (n - 4) = s.drop 4
    exact List.take_of_length_le (by rw [List.length_drop]; omega)
  generalize (⟨s.toArray⟩ : ByteArray).extract 4 n = t at h
  obtain ⟨⟨l⟩⟩ := t
  simp only at h
  rw [h]

theorem own_ne {α : Type} {base B : Nat} {e t : TypeId} {k : Nat} {enc : α → List Value} {w : World} {v : Value} {l : List α} {c : Array Value} {f : Nat × Nat} (ho : OwnAt base e k enc w v l) (h : w.heap[B]? = some (.cells c t f)) (ht : t ≠ e) : v.ownBlock ≠ some B := by
  intro q
  obtain ⟨h1, h2⟩ := ho
  rcases h2 with ⟨rfl, _⟩ | ⟨g, cap, cur, rfl, hb, hh, _⟩
  · cases q
  · cases q
    rw [show (Addr.block ⟨g, 0, none⟩) = g from rfl] at h
    rw [hh] at h
    cases h
    exact ht rfl

set_option maxHeartbeats 4000000 in
theorem octWithin_any (w0 : World) (B : Nat) (s : List UInt8) (a b : Int) (w : World) (h : ReaderAt w0.heap.size B w s) (hg : Grew w0 w) (hs : s.length ≤ 1000000) :
    Calls Tryz.prog 100 #[.pointer (some ⟨B, 0, none⟩), .int .i64 a, .int .i64 b] w fun e w' => e = .returned (.tuple #[.int .i64 (within s a b).1, .int .i64 (within s a b).2.1]) ∧ ReaderAt w0.heap.size B w' (within s a b).2.2 ∧ Grew w0 w' ∧ Keep B w w' := by
  have hc := cell_of_heap (o := 0) h.2
  have hf := frozen_of_heap (o := 0) h.2
  simp at hc
  have hB := Pre.ofCell hc
  have H := Lib.hid h
  have HG := Lib.hid hg
  have hd := drop4 s s.length rfl
  clear h hg
  by_cases h4 : s.length < 4
  · have e0 : within s a b = (0, 3, s) := by unfold within; rw [if_pos h4]
    have e1 : peekV s = 0 := by unfold peekV; rw [if_pos h4]
    have e2 : peekE s = 3 := by unfold peekE; rw [if_pos h4]
    have E1 := Lib.hid e1
    have E2 := Lib.hid e2
    rw [e0]
    clear e0 e1 e2
    go_enter Tryz.func100, Tryz.ntmps100
    go_wp2_with (go_at_call 134; refine (octPeek_any _ B s _ H.out hs).mono ?_; rintro e w1 ⟨rfl, R3, n3, rfl⟩; rw [E1.out, E2.out])
    exact bodyPost_ret (v := .tuple #[.int .i64 0, .int .i64 3]) (by simp [results, Tryz.results100, go_sem]) rfl ⟨rfl, H.out.grew (by repeat (first | with_reducible exact Grew.refl _ | apply Grew.more | apply Grew.alloc | apply Grew.drew | apply Grew.drewN)), HG.out.trans (by repeat (first | with_reducible exact Grew.refl _ | apply Grew.more | apply Grew.alloc | apply Grew.drew | apply Grew.drewN)), Keep.ofGrew (by repeat (first | with_reducible exact Grew.refl _ | apply Grew.more | apply Grew.alloc | apply Grew.drew | apply Grew.drewN))⟩
  · have e1 : peekV s = Oc.num s := by unfold peekV; rw [if_neg h4]
    have e2 : peekE s = 0 := by unfold peekE; rw [if_neg h4]
    have E1 := Lib.hid e1
    have E2 := Lib.hid e2
    clear e1 e2
    by_cases hr : Oc.num s < a ∨ b < Oc.num s
    · have e0 : within s a b = (0, 2, s) := by unfold within; rw [if_neg h4, if_pos hr]
      rw [e0]
      clear e0
      generalize Oc.num s = z at *
      go_enter Tryz.func100, Tryz.ntmps100
      by_cases hra : z < a
      · go_wp2_with (go_at_call 134; refine (octPeek_any _ B s _ H.out hs).mono ?_; rintro e w1 ⟨rfl, R3, n3, rfl⟩; rw [E1.out, E2.out])
        all_goals
          exact bodyPost_ret (v := .tuple #[.int .i64 0, .int .i64 2]) (by simp [results, Tryz.results100, go_sem]) rfl ⟨rfl, H.out.grew (by repeat (first | with_reducible exact Grew.refl _ | apply Grew.more | apply Grew.alloc | apply Grew.drew | apply Grew.drewN)), HG.out.trans (by repeat (first | with_reducible exact Grew.refl _ | apply Grew.more | apply Grew.alloc | apply Grew.drew | apply Grew.drewN)), Keep.ofGrew (by repeat (first | with_reducible exact Grew.refl _ | apply Grew.more | apply Grew.alloc | apply Grew.drew | apply Grew.drewN))⟩
      · have hrb : b < z := by omega
        clear hr
        go_wp2_with (go_at_call 134; refine (octPeek_any _ B s _ H.out hs).mono ?_; rintro e w1 ⟨rfl, R3, n3, rfl⟩; rw [E1.out, E2.out])
        all_goals
          exact bodyPost_ret (v := .tuple #[.int .i64 0, .int .i64 2]) (by simp [results, Tryz.results100, go_sem]) rfl ⟨rfl, H.out.grew (by repeat (first | with_reducible exact Grew.refl _ | apply Grew.more | apply Grew.alloc | apply Grew.drew | apply Grew.drewN)), HG.out.trans (by repeat (first | with_reducible exact Grew.refl _ | apply Grew.more | apply Grew.alloc | apply Grew.drew | apply Grew.drewN)), Keep.ofGrew (by repeat (first | with_reducible exact Grew.refl _ | apply Grew.more | apply Grew.alloc | apply Grew.drew | apply Grew.drewN))⟩
    · have e0 : within s a b = (Oc.num s, 0, s.drop 4) := by unfold within; rw [if_neg h4, if_neg hr]
      rw [e0]
      clear e0
      generalize Oc.num s = z at *
      have hra : ¬ z < a := fun h => hr (.inl h)
      have hrb : ¬ b < z := fun h => hr (.inr h)
      clear hr
      have h4' : 4 ≤ s.length := by omega
      go_enter Tryz.func100, Tryz.ntmps100
      go_wp2_with (go_at_call 134; refine (octPeek_any _ B s _ H.out hs).mono ?_; rintro e w1 ⟨rfl, R3, n3, rfl⟩; rw [E1.out, E2.out])
      exact bodyPost_ret (v := .tuple #[.int .i64 z, .int .i64 0]) (by simp [results, Tryz.results100, go_sem]) rfl
        ⟨rfl, ReaderAt.grew (W := w.setCell ⟨B, 0, none⟩ (.string ⟨(s.drop 4).toArray⟩)) ⟨H.out.1, heap_set_self H.out.2⟩ (by repeat (first | with_reducible exact Grew.refl _ | apply Grew.more | apply Grew.alloc | apply Grew.drew | apply Grew.drewN)), (Grew.setBehind HG.out H.out.1 _).more _ _, (Keep.set _).trans (Keep.ofGrew (by repeat (first | with_reducible exact Grew.refl _ | apply Grew.more | apply Grew.alloc | apply Grew.drew | apply Grew.drewN)))⟩

theorem octNum_any (w0 : World) (B : Nat) (s : List UInt8) (w : World) (h : ReaderAt w0.heap.size B w s) (hg : Grew w0 w) (hs : s.length ≤ 1000000) :
    Calls Tryz.prog 167 #[.pointer (some ⟨B, 0, none⟩)] w fun e w' => e = .returned (.tuple #[.int .i64 (within s (-2147483648) 2147483647).1, .int .i64 (within s (-2147483648) 2147483647).2.1]) ∧ ReaderAt w0.heap.size B w' (within s (-2147483648) 2147483647).2.2 ∧ Grew w0 w' ∧ Keep B w w' := by
  have hW := octWithin_any w0 B s (-2147483648) 2147483647 w h hg hs
  generalize within s (-2147483648) 2147483647 = r at *
  go_enter Tryz.func167, Tryz.ntmps167
  go_wp2_with (go_at_call 100; refine hW.mono ?_; rintro e w1 ⟨rfl, hr, hg1, hk1⟩; (have HR := Lib.hid hr); (have HG1 := Lib.hid hg1); (have HK1 := Lib.hid hk1); clear hr hg1 hk1)
  exact bodyPost_ret (v := .tuple #[.int .i64 r.1, .int .i64 r.2.1]) (by simp [results, Tryz.results167, go_sem]) rfl ⟨rfl, HR.out, HG1.out, HK1.out⟩

/-- The writer's bytes as a text. -/
theorem octOut_any (base B : Nat) (vb : Value) (bs : List UInt8) (w : World) (h : WriterAt base B w vb bs) (hl : bs.length ≤ 1000000) : Calls Tryz.prog 77 #[.pointer (some ⟨B, 0, none⟩)] w (Gives (.string ⟨bs.toArray⟩) w) := by
  have hc := cell_of_heap (o := 0) h.2.1
  simp at hc
  have H := Lib.hid h
  clear h
  rcases H.out.2.2.form with ⟨rfl, hb⟩ | ⟨b, cap, hvb, hb1, hb2, hb3⟩
  · subst hb
    have hcv : (convert 86 9 (.slice none 0 0)).run Tryz.prog w = .ok (.string ⟨#[]⟩) w := by
      rw [run_convert_bytes_string w _ _ 5 none 0 0 Tryz.underlying86 Tryz.underlying5 Tryz.underlying9]
      rfl
    go_enter Tryz.func77, Tryz.ntmps77
    go_wp2
    go_ret
    refine ⟨rfl, ?_⟩
    repeat (first | with_reducible exact Grew.refl _ | apply Grew.more | apply Grew.alloc | apply Grew.drew | apply Grew.drewN)
  · subst hvb
    have hr := H.out.2.2.rows encB_len
    have hcv : (convert 86 9 (.slice (some ⟨b, 0, none⟩) bs.length cap)).run Tryz.prog w = .ok (.string ⟨bs.toArray⟩) w :=
      run_convert_bytes_back w _ _ 5 ⟨b, 0, none⟩ cap bs Tryz.underlying86 Tryz.underlying5 Tryz.underlying9 (by
        intro j hj
        obtain ⟨a', cap', hv, _, hx⟩ := hr
        obtain ⟨b', off', hab, hx⟩ := hx (by intro e; subst e; simp at hj)
        cases hv
        cases hab
        rw [addr_add_zero]
        have := hx j bs[j] (List.getElem?_eq_getElem hj) 0 (.int .u8 bs[j].toNat) rfl
        simpa using this)
    clear hr
    go_enter Tryz.func77, Tryz.ntmps77
    go_wp2
    go_ret
    refine ⟨rfl, ?_⟩
    repeat (first | with_reducible exact Grew.refl _ | apply Grew.more | apply Grew.alloc | apply Grew.drew | apply Grew.drewN)

theorem WriterAt.grew {base B : Nat} {W W' : World} {vb : Value} {bs : List UInt8} (h : WriterAt base B W vb bs) (g : Grew W W') : WriterAt base B W' vb bs :=
  ⟨h.1, by rw [g.below.block B (Array.getElem?_eq_some_iff.1 h.2.1).1]; exact h.2.1, h.2.2.grew g⟩

end Go.Proofs.YtlgbipfpnfphjaaGreatDoor

/-! forebayref13.Clean. -/
namespace Go.Proofs.YtlgbipfpnfphjaaGreatDoor
set_option linter.unusedSimpArgs false
set_option linter.unusedVariables false
open Go.RowKit Ga
set_option maxRecDepth 100000

def zeroNd (id : Int) : NdC := ⟨id, 0, none, 0, 0, none, 0, 0, 0, 0, 0, 0, 0, 0, 0, 0, 0⟩
/-- a step's cells without what doesn't matter -/
def cleanC (c : StC) : StC :=
  if c.kind = 1 then ⟨1, { zeroNd c.c.id with ap := c.c.ap, np := c.c.np, cp := c.c.cp }, c.reset⟩
  else if c.kind = 2 then ⟨2, c.c, false⟩
  else if c.kind = 3 then ⟨3, zeroNd c.c.id, false⟩
  else if c.kind = 4 then ⟨4, ⟨c.c.id, 0, none, 0, 0, none, 0, 0, c.c.par, c.c.r0, c.c.r1, c.c.r2, c.c.r3, c.c.r4, c.c.r5, c.c.r6, c.c.r7⟩, false⟩
  else if c.kind = 5 then ⟨5, { zeroNd c.c.id with af := c.c.af, nf := c.c.nf, cf := c.c.cf }, false⟩
  else ⟨0, zeroNd 0, false⟩
theorem StepIs.clean {w : World} {c : StC} {s : Gr.Stp} (h : StepIs w c s) : StepIs w (cleanC c) (Gr.cleanS s) := by
  obtain ⟨hk, hn, hr⟩ := h
  unfold cleanC Gr.cleanS
  rw [hk]
  by_cases h1 : c.kind = 1
  · rw [if_pos h1, if_pos h1]
    exact ⟨rfl, ⟨hn.id, rfl, RowsAt.nil, hn.p, rfl, rfl, Nat.zero_le _⟩, hr⟩
  rw [if_neg h1, if_neg h1]
  by_cases h2 : c.kind = 2
  · rw [if_pos h2, if_pos h2]
    exact ⟨rfl, hn, rfl⟩
  rw [if_neg h2, if_neg h2]
  by_cases h3 : c.kind = 3
  · rw [if_pos h3, if_pos h3]
    exact ⟨rfl, ⟨hn.id, rfl, RowsAt.nil, RowsAt.nil, rfl, rfl, Nat.zero_le _⟩, rfl⟩
  rw [if_neg h3, if_neg h3]
  by_cases h4 : c.kind = 4
  · rw [if_pos h4, if_pos h4]
    exact ⟨rfl, ⟨hn.id, rfl, RowsAt.nil, RowsAt.nil, hn.par, hn.route, Nat.zero_le _⟩, rfl⟩
  rw [if_neg h4, if_neg h4]
  by_cases h5 : c.kind = 5
  · rw [if_pos h5, if_pos h5]
    exact ⟨rfl, ⟨hn.id, rfl, hn.f, RowsAt.nil, rfl, rfl, hn.fc⟩, rfl⟩
  rw [if_neg h5, if_neg h5]
  exact ⟨rfl, ⟨rfl, rfl, RowsAt.nil, RowsAt.nil, rfl, rfl, Nat.zero_le _⟩, rfl⟩
theorem res_clean13 {W : World} {tmps : Array Value} {q : Nat} {v0 v1 v2 v3 v4 v5 v6 v7 v8 v9 v10 v11 v12 v13 v14 : Value} (ht : tmps[2]? = some (.pointer (some ⟨q, 0, none⟩))) (h : W.heap[q]? = some (.cells #[v0, v1, v2, v3, v4, v5, v6, v7, v8, v9, v10, v11, v12, v13, v14] 51)) :
    (results Tryz.f32 tmps).run Tryz.prog W = .ok (.agg #[v0, v1, v2, v3, v4, v5, v6, v7, v8, v9, v10, v11, v12, v13, v14]) W := by
  have c0 := cell_of (o := 0) h
  have c1 := cell_of (o := 1) h
  have c2 := cell_of (o := 2) h
  have c3 := cell_of (o := 3) h
  have c4 := cell_of (o := 4) h
  have c5 := cell_of (o := 5) h
  have c6 := cell_of (o := 6) h
  have c7 := cell_of (o := 7) h
  have c8 := cell_of (o := 8) h
  have c9 := cell_of (o := 9) h
  have c10 := cell_of (o := 10) h
  have c11 := cell_of (o := 11) h
  have c12 := cell_of (o := 12) h
  have c13 := cell_of (o := 13) h
  have c14 := cell_of (o := 14) h
  simp at c0 c1 c2 c3 c4 c5 c6 c7 c8 c9 c10 c11 c12 c13 c14
  simp [results, Tryz.results32, go_sem, ht, c0, c1, c2, c3, c4, c5, c6, c7, c8, c9, c10, c11, c12, c13, c14]
set_option maxHeartbeats 4000000 in
theorem clean13_1 (id kd par r0 r1 r2 r3 r4 r5 r6 r7 : Int) (af ap : Option Addr) (nf cf np cp : Nat) (reset : Bool) (w : World) : Calls Tryz.prog 32 #[.agg #[.int .i64 1, .int .i64 id, .int .i64 kd, .slice af nf cf, .slice ap np cp, .int .i64 par, .int .i64 r0, .int .i64 r1, .int .i64 r2, .int .i64 r3, .int .i64 r4, .int .i64 r5, .int .i64 r6, .int .i64 r7, .bool reset]] w (Gives (.agg #[.int .i64 1, .int .i64 id, .int .i64 0, .slice none 0 0, .slice ap np cp, .int .i64 0, .int .i64 0, .int .i64 0, .int .i64 0, .int .i64 0, .int .i64 0, .int .i64 0, .int .i64 0, .int .i64 0, .bool reset]) w) := by
  go_enter Tryz.func32, Tryz.ntmps32
  go_wp2
  refine bodyPost_ret (res_clean13 rfl ?_) rfl ⟨rfl, ?_⟩
  · exact heap_alloc' (heap_new_at (w.alloc _) _ _ (by simp [World.size_alloc])) _
  · repeat (first | with_reducible exact Grew.refl _ | apply Grew.more | apply Grew.alloc | apply Grew.drew | apply Grew.drewN)
set_option maxHeartbeats 4000000 in
theorem clean13_2 (id kd par r0 r1 r2 r3 r4 r5 r6 r7 : Int) (af ap : Option Addr) (nf cf np cp : Nat) (reset : Bool) (w : World) : Calls Tryz.prog 32 #[.agg #[.int .i64 2, .int .i64 id, .int .i64 kd, .slice af nf cf, .slice ap np cp, .int .i64 par, .int .i64 r0, .int .i64 r1, .int .i64 r2, .int .i64 r3, .int .i64 r4, .int .i64 r5, .int .i64 r6, .int .i64 r7, .bool reset]] w (Gives (.agg #[.int .i64 2, .int .i64 id, .int .i64 kd, .slice af nf cf, .slice ap np cp, .int .i64 par, .int .i64 r0, .int .i64 r1, .int .i64 r2, .int .i64 r3, .int .i64 r4, .int .i64 r5, .int .i64 r6, .int .i64 r7, .bool false]) w) := by
  go_enter Tryz.func32, Tryz.ntmps32
  go_wp2
  refine bodyPost_ret (res_clean13 rfl ?_) rfl ⟨rfl, ?_⟩
  · exact heap_alloc' (heap_new_at (w.alloc _) _ _ (by simp [World.size_alloc])) _
  · repeat (first | with_reducible exact Grew.refl _ | apply Grew.more | apply Grew.alloc | apply Grew.drew | apply Grew.drewN)
set_option maxHeartbeats 4000000 in
theorem clean13_3 (id kd par r0 r1 r2 r3 r4 r5 r6 r7 : Int) (af ap : Option Addr) (nf cf np cp : Nat) (reset : Bool) (w : World) : Calls Tryz.prog 32 #[.agg #[.int .i64 3, .int .i64 id, .int .i64 kd, .slice af nf cf, .slice ap np cp, .int .i64 par, .int .i64 r0, .int .i64 r1, .int .i64 r2, .int .i64 r3, .int .i64 r4, .int .i64 r5, .int .i64 r6, .int .i64 r7, .bool reset]] w (Gives (.agg #[.int .i64 3, .int .i64 id, .int .i64 0, .slice none 0 0, .slice none 0 0, .int .i64 0, .int .i64 0, .int .i64 0, .int .i64 0, .int .i64 0, .int .i64 0, .int .i64 0, .int .i64 0, .int .i64 0, .bool false]) w) := by
  go_enter Tryz.func32, Tryz.ntmps32
  go_wp2
  refine bodyPost_ret (res_clean13 rfl ?_) rfl ⟨rfl, ?_⟩
  · exact heap_alloc' (heap_new_at (w.alloc _) _ _ (by simp [World.size_alloc])) _
  · repeat (first | with_reducible exact Grew.refl _ | apply Grew.more | apply Grew.alloc | apply Grew.drew | apply Grew.drewN)
set_option maxHeartbeats 4000000 in
theorem clean13_4 (id kd par r0 r1 r2 r3 r4 r5 r6 r7 : Int) (af ap : Option Addr) (nf cf np cp : Nat) (reset : Bool) (w : World) : Calls Tryz.prog 32 #[.agg #[.int .i64 4, .int .i64 id, .int .i64 kd, .slice af nf cf, .slice ap np cp, .int .i64 par, .int .i64 r0, .int .i64 r1, .int .i64 r2, .int .i64 r3, .int .i64 r4, .int .i64 r5, .int .i64 r6, .int .i64 r7, .bool reset]] w (Gives (.agg #[.int .i64 4, .int .i64 id, .int .i64 0, .slice none 0 0, .slice none 0 0, .int .i64 par, .int .i64 r0, .int .i64 r1, .int .i64 r2, .int .i64 r3, .int .i64 r4, .int .i64 r5, .int .i64 r6, .int .i64 r7, .bool false]) w) := by
  go_enter Tryz.func32, Tryz.ntmps32
  go_upto_region 9 with fail
  go_region
  all_goals
    go_wp2
    refine bodyPost_ret (res_clean13 rfl ?_) rfl ⟨rfl, ?_⟩
    · exact heap_alloc' (heap_new_at (w.alloc _) _ _ (by simp [World.size_alloc])) _
    · repeat (first | with_reducible exact Grew.refl _ | apply Grew.more | apply Grew.alloc | apply Grew.drew | apply Grew.drewN)
set_option maxHeartbeats 4000000 in
theorem clean13_5 (id kd par r0 r1 r2 r3 r4 r5 r6 r7 : Int) (af ap : Option Addr) (nf cf np cp : Nat) (reset : Bool) (w : World) : Calls Tryz.prog 32 #[.agg #[.int .i64 5, .int .i64 id, .int .i64 kd, .slice af nf cf, .slice ap np cp, .int .i64 par, .int .i64 r0, .int .i64 r1, .int .i64 r2, .int .i64 r3, .int .i64 r4, .int .i64 r5, .int .i64 r6, .int .i64 r7, .bool reset]] w (Gives (.agg #[.int .i64 5, .int .i64 id, .int .i64 0, .slice af nf cf, .slice none 0 0, .int .i64 0, .int .i64 0, .int .i64 0, .int .i64 0, .int .i64 0, .int .i64 0, .int .i64 0, .int .i64 0, .int .i64 0, .bool false]) w) := by
  go_enter Tryz.func32, Tryz.ntmps32
  go_wp2
  refine bodyPost_ret (res_clean13 rfl ?_) rfl ⟨rfl, ?_⟩
  · exact heap_alloc' (heap_new_at (w.alloc _) _ _ (by simp [World.size_alloc])) _
  · repeat (first | with_reducible exact Grew.refl _ | apply Grew.more | apply Grew.alloc | apply Grew.drew | apply Grew.drewN)
theorem clean13_any (c : StC) (w : World) (hk : 1 ≤ c.kind ∧ c.kind ≤ 5) : Calls Tryz.prog 32 #[.agg #[.int .i64 c.kind, .int .i64 c.c.id, .int .i64 c.c.kind, .slice c.c.af c.c.nf c.c.cf, .slice c.c.ap c.c.np c.c.cp, .int .i64 c.c.par, .int .i64 c.c.r0, .int .i64 c.c.r1, .int .i64 c.c.r2, .int .i64 c.c.r3, .int .i64 c.c.r4, .int .i64 c.c.r5, .int .i64 c.c.r6, .int .i64 c.c.r7, .bool c.reset]] w (Gives (.agg #[.int .i64 (cleanC c).kind, .int .i64 (cleanC c).c.id, .int .i64 (cleanC c).c.kind, .slice (cleanC c).c.af (cleanC c).c.nf (cleanC c).c.cf, .slice (cleanC c).c.ap (cleanC c).c.np (cleanC c).c.cp, .int .i64 (cleanC c).c.par, .int .i64 (cleanC c).c.r0, .int .i64 (cleanC c).c.r1, .int .i64 (cleanC c).c.r2, .int .i64 (cleanC c).c.r3, .int .i64 (cleanC c).c.r4, .int .i64 (cleanC c).c.r5, .int .i64 (cleanC c).c.r6, .int .i64 (cleanC c).c.r7, .bool (cleanC c).reset]) w) := by
  obtain ⟨kind, ⟨id, kd, af, nf, cf, ap, np, cp, par, r0, r1, r2, r3, r4, r5, r6, r7⟩, reset⟩ := c
  simp only at hk
  rcases (show kind = 1 ∨ kind = 2 ∨ kind = 3 ∨ kind = 4 ∨ kind = 5 by omega) with rfl | rfl | rfl | rfl | rfl
  · exact clean13_1 id kd par r0 r1 r2 r3 r4 r5 r6 r7 af ap nf cf np cp reset w
  · exact clean13_2 id kd par r0 r1 r2 r3 r4 r5 r6 r7 af ap nf cf np cp reset w
  · exact clean13_3 id kd par r0 r1 r2 r3 r4 r5 r6 r7 af ap nf cf np cp reset w
  · exact clean13_4 id kd par r0 r1 r2 r3 r4 r5 r6 r7 af ap nf cf np cp reset w
  · exact clean13_5 id kd par r0 r1 r2 r3 r4 r5 r6 r7 af ap nf cf np cp reset w
end Go.Proofs.YtlgbipfpnfphjaaGreatDoor
