import Derived.Test.YtepfdekppnobaaaGreatMb9
import Derived.Test.YtepfdekppnobaaaGreatMb0
import Derived.Test.YtepfdekppnobaaaGreatMb11
import Derived.Lib.ConvBytes
import Derived.Laws.BitsAllLaws
/-! octet.Reader. -/
namespace Go.Proofs.YtepfdekppnobaaaGreat
set_option linter.unusedSimpArgs false
set_option linter.unusedVariables false
open Go.RowKit
set_option maxRecDepth 100000

/-- The reader at block B: what is left. -/
def ReaderAt (base B : Nat) (W : World) (s : List UInt8) : Prop :=
  base ≤ B ∧ W.heap[B]? = some (.cells #[.string ⟨s.toArray⟩] 214)

theorem ReaderAt.grew {base B : Nat} {W W' : World} {s : List UInt8} (h : ReaderAt base B W s) (g : Grew W W') : ReaderAt base B W' s :=
  ⟨h.1, by rw [g.below.block B (Array.getElem?_eq_some_iff.1 h.2).1]; exact h.2⟩

theorem octNew_any (s : List UInt8) (w : World) : Calls Tryz.prog 112 #[.string ⟨s.toArray⟩] w fun e w' => e = .returned (.pointer (some ⟨w.heap.size, 0, none⟩)) ∧ w' = w.alloc (.cells #[.string ⟨s.toArray⟩] 214) := by
  go_enter Tryz.func112, Tryz.ntmps112
  go_wp2
  go_ret
  exact ⟨rfl, rfl⟩

theorem octLeft_any (base B : Nat) (s : List UInt8) (w : World) (h : ReaderAt base B w s) : Calls Tryz.prog 143 #[.pointer (some ⟨B, 0, none⟩)] w fun e w' => e = .returned (.int .i64 s.length) ∧ w = w' := by
  have hc := cell_of_heap (o := 0) h.2
  simp at hc
  clear h
  go_enter Tryz.func143, Tryz.ntmps143
  go_wp2
  go_ret
  exact ⟨rfl, rfl⟩

theorem or_byte (u : Int) (x : UInt8) (h0 : 0 ≤ u) (h1 : u < 16777216) : bits .or .u32 (u * 256) (x.toNat : Int) = u * 256 + x.toNat := by
  have hx := x.toNat_lt
  obtain ⟨n, rfl⟩ : ∃ n : Nat, u = n := ⟨u.toNat, by omega⟩
  have e : (n : Int) * 256 = ((n * 256 : Nat) : Int) := by omega
  rw [e, u32_or_nat _ _ (by omega) (by omega)]
  have := Nat.shiftLeft_add_eq_or_of_lt (show x.toNat < 2 ^ 8 by omega) n
  rw [Nat.shiftLeft_eq] at this
  have h2 : n * 256 ||| x.toNat = n * 256 + x.toNat := this.symm
  rw [h2]; omega
theorem wrap_num (s : List UInt8) : wrap32 (Oc.raw s) = Oc.num s := by
  have := Oc.raw_range s
  unfold Oc.num
  simp only [wrap32]
  split <;> omega

/-- The next number, not read. -/
def peekV (s : List UInt8) : Int := if s.length < 4 then 0 else Oc.num s
def peekE (s : List UInt8) : Int := if s.length < 4 then 3 else 0

set_option maxHeartbeats 4000000 in
theorem octPeek_any (base B : Nat) (s : List UInt8) (w : World) (h : ReaderAt base B w s) (hs : s.length ≤ 1000000) : Calls Tryz.prog 166 #[.pointer (some ⟨B, 0, none⟩)] w (Gives (.tuple #[.int .i64 (peekV s), .int .i64 (peekE s)]) w) := by
  have hc := cell_of_heap (o := 0) h.2
  simp at hc
  have hB := Pre.ofCell hc
  clear h
  by_cases h4 : s.length < 4
  · have e1 : peekV s = 0 := by unfold peekV; rw [if_pos h4]
    have e2 : peekE s = 3 := by unfold peekE; rw [if_pos h4]
    rw [e1, e2]
    clear e1 e2
    go_enter Tryz.func166, Tryz.ntmps166
    go_wp2
    exact bodyPost_ret (v := .tuple #[.int .i64 0, .int .i64 3]) (by simp [results, Tryz.results166, go_sem]) rfl ⟨rfl, by repeat (first | with_reducible exact Grew.refl _ | apply Grew.more | apply Grew.alloc | apply Grew.drew | apply Grew.drewN)⟩
  · have e1 : peekV s = Oc.num s := by unfold peekV; rw [if_neg h4]
    have e2 : peekE s = 0 := by unfold peekE; rw [if_neg h4]
    rw [e1, e2]
    clear e1 e2
    have hsz : ((⟨s.toArray⟩ : ByteArray).extract 0 4).size = 4 := by rw [Lib.size_eq, Lib.extract_data]; simp; omega
    have hat : ∀ j x, j < 4 → s[j]? = some x → ((⟨s.toArray⟩ : ByteArray).extract 0 4).data.toList.getD j 0 = x := by
      intro j x hj hx
      rw [Lib.extract_data, List.drop_zero, List.getD_eq_getElem?_getD, List.getElem?_take_of_lt hj]
      show (s[j]?).getD 0 = x
      rw [hx]; rfl
    have hcv := Lib.run_convert_string_bytes (P := Tryz.prog) w 9 29 5 ((⟨s.toArray⟩ : ByteArray).extract 0 4) Tryz.underlying9 Tryz.underlying29 Tryz.underlying5
    rw [hsz] at hcv
    generalize grownCap w 4 0 5 = cap at hcv
    have hcell : ∀ j x, j < 4 → s[j]? = some x → (Lib.bytesWorld w 5 ((⟨s.toArray⟩ : ByteArray).extract 0 4)).cell? ⟨w.heap.size, j, none⟩ = some (.int .u8 x.toNat) := by
      intro j x hj hx
      rw [Lib.bytesWorld_cell w _ _ j (by omega), hat j x hj hx]
    have hgb := grew_bytes w 5 ((⟨s.toArray⟩ : ByteArray).extract 0 4)
    generalize Lib.bytesWorld w 5 ((⟨s.toArray⟩ : ByteArray).extract 0 4) = W2 at hcv hcell hgb
    have HC := Lib.hid hcell
    have HGB := Lib.hid hgb
    clear hsz hat hcell hgb
    go_enter Tryz.func166, Tryz.ntmps166
    go_wp2
    go_loop [4, 24] (fun u i => ∃ (k : Nat), k ≤ 4 ∧ i = .int .i64 k ∧ u = .int .u32 (Oc.part s k)) (fun _ i => 4 - (intOf i).toNat)
    case atStart => exact ⟨0, by omega, rfl, rfl⟩
    case round =>
      obtain ⟨k, hk, rfl, rfl⟩ := hrel
      by_cases hlt : k < 4
      · obtain ⟨x, hx⟩ : ∃ x, s[k]? = some x := ⟨s[k]'(by omega), List.getElem?_eq_getElem _⟩
        have hcx := HC.out k x hlt hx
        have hps := Oc.part_succ s k x hx
        have hpr := Oc.part_range s k hk
        have hpp : Oc.part s k < 16777216 := by
          have h3 : (256 : Int) ^ k ≤ 16777216 := by
            rcases (show k = 0 ∨ k = 1 ∨ k = 2 ∨ k = 3 by omega) with rfl | rfl | rfl | rfl <;> decide
          omega
        obtain ⟨hp0, -⟩ := hpr
        have hx8 := x.toNat_lt
        generalize Oc.part s k = u at *
        have HPS := Lib.hid hps
        clear hps hx hcv
        go_wp2
        go_round
        case rel => exact ⟨k + 1, by omega, by go_num, by rw [or_byte u x hp0 hpp, HPS.out]⟩
        case measure => first | (simp [intOf]; done) | (simp [intOf]; omega)
      · obtain rfl : k = 4 := by omega
        have hpr := Oc.part_raw s (by omega)
        have hrr := Oc.raw_range s
        have hw := wrap_num s
        rw [hpr]
        have hnr := Oc.num_range s
        generalize Oc.raw s = u at *
        generalize Oc.num s = z at *
        clear hpr hcv
        obtain ⟨hr0, hr1⟩ := hrr
        obtain ⟨hz0, hz1⟩ := hnr
        go_wp2
        exact bodyPost_ret (v := .tuple #[.int .i64 z, .int .i64 0]) (by simp [results, Tryz.results166, go_sem]) rfl ⟨rfl, HGB.out⟩

/-- What Within does. -/
def within (s : List UInt8) (a b : Int) : Int × Int × List UInt8 := if s.length < 4 then (0, 3, s) else if Oc.num s < a ∨ b < Oc.num s then (0, 2, s) else (Oc.num s, 0, s.drop 4)

theorem drop4 (s : List UInt8) (n : Nat) (hn : s.length = n) : (⟨s.toArray⟩ : ByteArray).extract 4 n = ⟨(s.drop 4).toArray⟩ := by
  have h : ((⟨s.toArray⟩ : ByteArray).extract 4 n).data.toList = s.drop 4 := by
    rw [Lib.extract_data]
    show (s.drop 4).take (n - 4) = s.drop 4
    exact List.take_of_length_le (by rw [List.length_drop]; omega)
  generalize (⟨s.toArray⟩ : ByteArray).extract 4 n = t at h
  obtain ⟨⟨l⟩⟩ := t
  simp only at h
  rw [h]

theorem own_ne {α : Type} {base B : Nat} {e t : TypeId} {k : Nat} {enc : α → List Value} {w : World} {v : Value} {l : List α} {c : Array Value} {f : Nat × Nat} (ho : OwnAt base e k enc w v l) (h : w.heap[B]? = some (.cells c t f)) (ht : t ≠ e) : v.ownBlock ≠ some B := by
  intro q
  obtain ⟨h1, h2⟩ := ho
  rcases h2 with ⟨rfl, _⟩ | ⟨g, cap, cur, rfl, hb, hh, _⟩
  · cases q
  · cases q
    rw [show (Addr.block ⟨g, 0, none⟩) = g from rfl] at h
    rw [hh] at h
    cases h
    exact ht rfl

set_option maxHeartbeats 4000000 in
theorem octWithin_any (w0 : World) (B : Nat) (s : List UInt8) (a b : Int) (w : World) (h : ReaderAt w0.heap.size B w s) (hg : Grew w0 w) (hs : s.length ≤ 1000000) :
    Calls Tryz.prog 140 #[.pointer (some ⟨B, 0, none⟩), .int .i64 a, .int .i64 b] w fun e w' => e = .returned (.tuple #[.int .i64 (within s a b).1, .int .i64 (within s a b).2.1]) ∧ ReaderAt w0.heap.size B w' (within s a b).2.2 ∧ Grew w0 w' ∧ Keep B w w' := by
  have hc := cell_of_heap (o := 0) h.2
  have hf := frozen_of_heap (o := 0) h.2
  simp at hc
  have hB := Pre.ofCell hc
  have H := Lib.hid h
  have HG := Lib.hid hg
  have hd := drop4 s s.length rfl
  clear h hg
  by_cases h4 : s.length < 4
  · have e0 : within s a b = (0, 3, s) := by unfold within; rw [if_pos h4]
    have e1 : peekV s = 0 := by unfold peekV; rw [if_pos h4]
    have e2 : peekE s = 3 := by unfold peekE; rw [if_pos h4]
    have E1 := Lib.hid e1
    have E2 := Lib.hid e2
    rw [e0]
    clear e0 e1 e2
    go_enter Tryz.func140, Tryz.ntmps140
    go_wp2_with (go_at_call 166; refine (octPeek_any _ B s _ H.out hs).mono ?_; rintro e w1 ⟨rfl, R3, n3, rfl⟩; rw [E1.out, E2.out])
    exact bodyPost_ret (v := .tuple #[.int .i64 0, .int .i64 3]) (by simp [results, Tryz.results140, go_sem]) rfl ⟨rfl, H.out.grew (by repeat (first | with_reducible exact Grew.refl _ | apply Grew.more | apply Grew.alloc | apply Grew.drew | apply Grew.drewN)), HG.out.trans (by repeat (first | with_reducible exact Grew.refl _ | apply Grew.more | apply Grew.alloc | apply Grew.drew | apply Grew.drewN)), Keep.ofGrew (by repeat (first | with_reducible exact Grew.refl _ | apply Grew.more | apply Grew.alloc | apply Grew.drew | apply Grew.drewN))⟩
  · have e1 : peekV s = Oc.num s := by unfold peekV; rw [if_neg h4]
    have e2 : peekE s = 0 := by unfold peekE; rw [if_neg h4]
    have E1 := Lib.hid e1
    have E2 := Lib.hid e2
    clear e1 e2
    by_cases hr : Oc.num s < a ∨ b < Oc.num s
    · have e0 : within s a b = (0, 2, s) := by unfold within; rw [if_neg h4, if_pos hr]
      rw [e0]
      clear e0
      generalize Oc.num s = z at *
      go_enter Tryz.func140, Tryz.ntmps140
      by_cases hra : z < a
      · go_wp2_with (go_at_call 166; refine (octPeek_any _ B s _ H.out hs).mono ?_; rintro e w1 ⟨rfl, R3, n3, rfl⟩; rw [E1.out, E2.out])
        all_goals
          exact bodyPost_ret (v := .tuple #[.int .i64 0, .int .i64 2]) (by simp [results, Tryz.results140, go_sem]) rfl ⟨rfl, H.out.grew (by repeat (first | with_reducible exact Grew.refl _ | apply Grew.more | apply Grew.alloc | apply Grew.drew | apply Grew.drewN)), HG.out.trans (by repeat (first | with_reducible exact Grew.refl _ | apply Grew.more | apply Grew.alloc | apply Grew.drew | apply Grew.drewN)), Keep.ofGrew (by repeat (first | with_reducible exact Grew.refl _ | apply Grew.more | apply Grew.alloc | apply Grew.drew | apply Grew.drewN))⟩
      · have hrb : b < z := by omega
        clear hr
        go_wp2_with (go_at_call 166; refine (octPeek_any _ B s _ H.out hs).mono ?_; rintro e w1 ⟨rfl, R3, n3, rfl⟩; rw [E1.out, E2.out])
        all_goals
          exact bodyPost_ret (v := .tuple #[.int .i64 0, .int .i64 2]) (by simp [results, Tryz.results140, go_sem]) rfl ⟨rfl, H.out.grew (by repeat (first | with_reducible exact Grew.refl _ | apply Grew.more | apply Grew.alloc | apply Grew.drew | apply Grew.drewN)), HG.out.trans (by repeat (first | with_reducible exact Grew.refl _ | apply Grew.more | apply Grew.alloc | apply Grew.drew | apply Grew.drewN)), Keep.ofGrew (by repeat (first | with_reducible exact Grew.refl _ | apply Grew.more | apply Grew.alloc | apply Grew.drew | apply Grew.drewN))⟩
    · have e0 : within s a b = (Oc.num s, 0, s.drop 4) := by unfold within; rw [if_neg h4, if_neg hr]
      rw [e0]
      clear e0
      generalize Oc.num s = z at *
      have hra : ¬ z < a := fun h => hr (.inl h)
      have hrb : ¬ b < z := fun h => hr (.inr h)
      clear hr
      have h4' : 4 ≤ s.length := by omega
      go_enter Tryz.func140, Tryz.ntmps140
      go_wp2_with (go_at_call 166; refine (octPeek_any _ B s _ H.out hs).mono ?_; rintro e w1 ⟨rfl, R3, n3, rfl⟩; rw [E1.out, E2.out])
      exact bodyPost_ret (v := .tuple #[.int .i64 z, .int .i64 0]) (by simp [results, Tryz.results140, go_sem]) rfl
        ⟨rfl, ReaderAt.grew (W := w.setCell ⟨B, 0, none⟩ (.string ⟨(s.drop 4).toArray⟩)) ⟨H.out.1, heap_set_self H.out.2⟩ (by repeat (first | with_reducible exact Grew.refl _ | apply Grew.more | apply Grew.alloc | apply Grew.drew | apply Grew.drewN)), (Grew.setBehind HG.out H.out.1 _).more _ _, (Keep.set _).trans (Keep.ofGrew (by repeat (first | with_reducible exact Grew.refl _ | apply Grew.more | apply Grew.alloc | apply Grew.drew | apply Grew.drewN)))⟩

theorem octNum_any (w0 : World) (B : Nat) (s : List UInt8) (w : World) (h : ReaderAt w0.heap.size B w s) (hg : Grew w0 w) (hs : s.length ≤ 1000000) :
    Calls Tryz.prog 192 #[.pointer (some ⟨B, 0, none⟩)] w fun e w' => e = .returned (.tuple #[.int .i64 (within s (-2147483648) 2147483647).1, .int .i64 (within s (-2147483648) 2147483647).2.1]) ∧ ReaderAt w0.heap.size B w' (within s (-2147483648) 2147483647).2.2 ∧ Grew w0 w' ∧ Keep B w w' := by
  have hW := octWithin_any w0 B s (-2147483648) 2147483647 w h hg hs
  generalize within s (-2147483648) 2147483647 = r at *
  go_enter Tryz.func192, Tryz.ntmps192
  go_wp2_with (go_at_call 140; refine hW.mono ?_; rintro e w1 ⟨rfl, hr, hg1, hk1⟩; (have HR := Lib.hid hr); (have HG1 := Lib.hid hg1); (have HK1 := Lib.hid hk1); clear hr hg1 hk1)
  exact bodyPost_ret (v := .tuple #[.int .i64 r.1, .int .i64 r.2.1]) (by simp [results, Tryz.results192, go_sem]) rfl ⟨rfl, HR.out, HG1.out, HK1.out⟩

/-- The writer's bytes as a text. -/
theorem octOut_any (base B : Nat) (vb : Value) (bs : List UInt8) (w : World) (h : WriterAt base B w vb bs) (hl : bs.length ≤ 1000000) : Calls Tryz.prog 138 #[.pointer (some ⟨B, 0, none⟩)] w (Gives (.string ⟨bs.toArray⟩) w) := by
  have hc := cell_of_heap (o := 0) h.2.1
  simp at hc
  have H := Lib.hid h
  clear h
  rcases H.out.2.2.form with ⟨rfl, hb⟩ | ⟨b, cap, hvb, hb1, hb2, hb3⟩
  · subst hb
    have hcv : (convert 29 9 (.slice none 0 0)).run Tryz.prog w = .ok (.string ⟨#[]⟩) w := by
      rw [run_convert_bytes_string w _ _ 5 none 0 0 Tryz.underlying29 Tryz.underlying5 Tryz.underlying9]
      rfl
    go_enter Tryz.func138, Tryz.ntmps138
    go_wp2
    go_ret
    refine ⟨rfl, ?_⟩
    repeat (first | with_reducible exact Grew.refl _ | apply Grew.more | apply Grew.alloc | apply Grew.drew | apply Grew.drewN)
  · subst hvb
    have hr := H.out.2.2.rows encB_len
    have hcv : (convert 29 9 (.slice (some ⟨b, 0, none⟩) bs.length cap)).run Tryz.prog w = .ok (.string ⟨bs.toArray⟩) w :=
      run_convert_bytes_back w _ _ 5 ⟨b, 0, none⟩ cap bs Tryz.underlying29 Tryz.underlying5 Tryz.underlying9 (by
        intro j hj
        obtain ⟨a', cap', hv, _, hx⟩ := hr
        obtain ⟨b', off', hab, hx⟩ := hx (by intro e; subst e; simp at hj)
        cases hv
        cases hab
        rw [addr_add_zero]
        have := hx j bs[j] (List.getElem?_eq_getElem hj) 0 (.int .u8 bs[j].toNat) rfl
        simpa using this)
    clear hr
    go_enter Tryz.func138, Tryz.ntmps138
    go_wp2
    go_ret
    refine ⟨rfl, ?_⟩
    repeat (first | with_reducible exact Grew.refl _ | apply Grew.more | apply Grew.alloc | apply Grew.drew | apply Grew.drewN)

theorem WriterAt.grew {base B : Nat} {W W' : World} {vb : Value} {bs : List UInt8} (h : WriterAt base B W vb bs) (g : Grew W W') : WriterAt base B W' vb bs :=
  ⟨h.1, by rw [g.below.block B (Array.getElem?_eq_some_iff.1 h.2.1).1]; exact h.2.1, h.2.2.grew g⟩

end Go.Proofs.YtepfdekppnobaaaGreat
