import Derived.Test.YtmdmbimfdpngaaaGreatMs10
import Derived.Test.YtmdmbimfdpngaaaGreatMs3
import Derived.Test.YtmdmbimfdpngaaaGreatMs5
import Derived.Lib.ConvBytes
import Derived.Laws.BitsAllLaws
import Derived.Test.YtmdmbimfdpngaaaGreatMs17
import Derived.ScopeJumps
import Derived.Laws.EntriesVeiled
import Derived.Scope
/-! octet.Reader. -/
namespace Go.Proofs.YtmdmbimfdpngaaaGreat
set_option linter.unusedSimpArgs false
set_option linter.unusedVariables false
open Go.RowKit
set_option maxRecDepth 100000

/-- The reader at block B: what is left. -/
def ReaderAt (base B : Nat) (W : World) (s : List UInt8) : Prop :=
  base ≤ B ∧ W.heap[B]? = some (.cells #[.string ⟨s.toArray⟩] 223)

theorem ReaderAt.grew {base B : Nat} {W W' : World} {s : List UInt8} (h : ReaderAt base B W s) (g : Grew W W') : ReaderAt base B W' s :=
  ⟨h.1, by rw [g.below.block B (Array.getElem?_eq_some_iff.1 h.2).1]; exact h.2⟩

theorem octNew_any (s : List UInt8) (w : World) : Calls Tryz.prog 125 #[.string ⟨s.toArray⟩] w fun e w' => e = .returned (.pointer (some ⟨w.heap.size, 0, none⟩)) ∧ w' = w.alloc (.cells #[.string ⟨s.toArray⟩] 223) := by
  go_enter Tryz.func125, Tryz.ntmps125
  go_wp2
  go_ret
  exact ⟨rfl, rfl⟩

theorem octLeft_any (base B : Nat) (s : List UInt8) (w : World) (h : ReaderAt base B w s) : Calls Tryz.prog 153 #[.pointer (some ⟨B, 0, none⟩)] w fun e w' => e = .returned (.int .i64 s.length) ∧ w = w' := by
  have hc := cell_of_heap (o := 0) h.2
  simp at hc
  clear h
  go_enter Tryz.func153, Tryz.ntmps153
  go_wp2
  go_ret
  exact ⟨rfl, rfl⟩

theorem or_byte (u : Int) (x : UInt8) (h0 : 0 ≤ u) (h1 : u < 16777216) : bits .or .u32 (u * 256) (x.toNat : Int) = u * 256 + x.toNat := by
  have hx := x.toNat_lt
  obtain ⟨n, rfl⟩ : ∃ n : Nat, u = n := ⟨u.toNat, by omega⟩
  have e : (n : Int) * 256 = ((n * 256 : Nat) : Int) := by omega
  rw [e, u32_or_nat _ _ (by omega) (by omega)]
  have := Nat.shiftLeft_add_eq_or_of_lt (show x.toNat < 2 ^ 8 by omega) n
  rw [Nat.shiftLeft_eq] at this
  have h2 : n * 256 ||| x.toNat = n * 256 + x.toNat := this.symm
  rw [h2]; omega
theorem wrap_num (s : List UInt8) : wrap32 (Oc.raw s) = Oc.num s := by
  have := Oc.raw_range s
  unfold Oc.num
  simp only [wrap32]
  split <;> omega

/-- The next number, not read. -/
def peekV (s : List UInt8) : Int := if s.length < 4 then 0 else Oc.num s
def peekE (s : List UInt8) : Int := if s.length < 4 then 3 else 0

set_option maxHeartbeats 4000000 in
theorem octPeek_any (base B : Nat) (s : List UInt8) (w : World) (h : ReaderAt base B w s) (hs : s.length ≤ 1000000) : Calls Tryz.prog 182 #[.pointer (some ⟨B, 0, none⟩)] w (Gives (.tuple #[.int .i64 (peekV s), .int .i64 (peekE s)]) w) := by
  have hc := cell_of_heap (o := 0) h.2
  simp at hc
  have hB := Pre.ofCell hc
  clear h
  by_cases h4 : s.length < 4
  · have e1 : peekV s = 0 := by unfold peekV; rw [if_pos h4]
    have e2 : peekE s = 3 := by unfold peekE; rw [if_pos h4]
    rw [e1, e2]
    clear e1 e2
    go_enter Tryz.func182, Tryz.ntmps182
    go_wp2
    exact bodyPost_ret (v := .tuple #[.int .i64 0, .int .i64 3]) (by simp [results, Tryz.results182, go_sem]) rfl ⟨rfl, by repeat (first | with_reducible exact Grew.refl _ | apply Grew.more | apply Grew.alloc | apply Grew.drew | apply Grew.drewN)⟩
  · have e1 : peekV s = Oc.num s := by unfold peekV; rw [if_neg h4]
    have e2 : peekE s = 0 := by unfold peekE; rw [if_neg h4]
    rw [e1, e2]
    clear e1 e2
    have hsz : ((⟨s.toArray⟩ : ByteArray).extract 0 4).size = 4 := by rw [Lib.size_eq, Lib.extract_data]; simp; omega
    have hat : ∀ j x, j < 4 → s[j]? = some x → ((⟨s.toArray⟩ : ByteArray).extract 0 4).data.toList.getD j 0 = x := by
      intro j x hj hx
      rw [Lib.extract_data, List.drop_zero, List.getD_eq_getElem?_getD, List.getElem?_take_of_lt hj]
      show (s[j]?).getD 0 = x
      rw [hx]; rfl
    have hcv := Lib.run_convert_string_bytes (P := Tryz.prog) w 9 68 5 ((⟨s.toArray⟩ : ByteArray).extract 0 4) Tryz.underlying9 Tryz.underlying68 Tryz.underlying5
    rw [hsz] at hcv
    generalize grownCap w 4 0 5 = cap at hcv
    have hcell : ∀ j x, j < 4 → s[j]? = some x → (Lib.bytesWorld w 5 ((⟨s.toArray⟩ : ByteArray).extract 0 4)).cell? ⟨w.heap.size, j, none⟩ = some (.int .u8 x.toNat) := by
      intro j x hj hx
      rw [Lib.bytesWorld_cell w _ _ j (by omega), hat j x hj hx]
    have hgb := grew_bytes w 5 ((⟨s.toArray⟩ : ByteArray).extract 0 4)
    generalize Lib.bytesWorld w 5 ((⟨s.toArray⟩ : ByteArray).extract 0 4) = W2 at hcv hcell hgb
    have HC := Lib.hid hcell
    have HGB := Lib.hid hgb
    clear hsz hat hcell hgb
    go_enter Tryz.func182, Tryz.ntmps182
    go_wp2
    go_loop [4, 24] (fun u i => ∃ (k : Nat), k ≤ 4 ∧ i = .int .i64 k ∧ u = .int .u32 (Oc.part s k)) (fun _ i => 4 - (intOf i).toNat)
    case atStart => exact ⟨0, by omega, rfl, rfl⟩
    case round =>
      obtain ⟨k, hk, rfl, rfl⟩ := hrel
      by_cases hlt : k < 4
      · obtain ⟨x, hx⟩ : ∃ x, s[k]? = some x := ⟨s[k]'(by omega), List.getElem?_eq_getElem _⟩
        have hcx := HC.out k x hlt hx
        have hps := Oc.part_succ s k x hx
        have hpr := Oc.part_range s k hk
        have hpp : Oc.part s k < 16777216 := by
          have h3 : (256 : Int) ^ k ≤ 16777216 := by
            rcases (show k = 0 ∨ k = 1 ∨ k = 2 ∨ k = 3 by omega) with rfl | rfl | rfl | rfl <;> decide
          omega
        obtain ⟨hp0, -⟩ := hpr
        have hx8 := x.toNat_lt
        generalize Oc.part s k = u at *
        have HPS := Lib.hid hps
        clear hps hx hcv
        go_wp2
        go_round
        case rel => exact ⟨k + 1, by omega, by go_num, by rw [or_byte u x hp0 hpp, HPS.out]⟩
        case measure => first | (simp [intOf]; done) | (simp [intOf]; omega)
      · obtain rfl : k = 4 := by omega
        have hpr := Oc.part_raw s (by omega)
        have hrr := Oc.raw_range s
        have hw := wrap_num s
        rw [hpr]
        have hnr := Oc.num_range s
        generalize Oc.raw s = u at *
        generalize Oc.num s = z at *
        clear hpr hcv
        obtain ⟨hr0, hr1⟩ := hrr
        obtain ⟨hz0, hz1⟩ := hnr
        go_wp2
        exact bodyPost_ret (v := .tuple #[.int .i64 z, .int .i64 0]) (by simp [results, Tryz.results182, go_sem]) rfl ⟨rfl, HGB.out⟩

/-- What Within does. -/
def within (s : List UInt8) (a b : Int) : Int × Int × List UInt8 := if s.length < 4 then (0, 3, s) else if Oc.num s < a ∨ b < Oc.num s then (0, 2, s) else (Oc.num s, 0, s.drop 4)

theorem drop4 (s : List UInt8) (n : Nat) (hn : s.length = n) : (⟨s.toArray⟩ : ByteArray).extract 4 n = ⟨(s.drop 4).toArray⟩ := by
  have h : ((⟨s.toArray⟩ : ByteArray).extract 4 n).data.toList = s.drop 4 := by
    rw [Lib.extract_data]
    show (s.drop 4).take (n - 4) = s.drop 4
    exact List.take_of_length_le (by rw [List.length_drop]; omega)
  generalize (⟨s.toArray⟩ : ByteArray).extract 4 n = t at h
  obtain ⟨⟨l⟩⟩ := t
  simp only at h
  rw [h]

theorem own_ne {α : Type} {base B : Nat} {e t : TypeId} {k : Nat} {enc : α → List Value} {w : World} {v : Value} {l : List α} {c : Array Value} {f : Nat × Nat} (ho : OwnAt base e k enc w v l) (h : w.heap[B]? = some (.cells c t f)) (ht : t ≠ e) : v.ownBlock ≠ some B := by
  intro q
  obtain ⟨h1, h2⟩ := ho
  rcases h2 with ⟨rfl, _⟩ | ⟨g, cap, cur, rfl, hb, hh, _⟩
  · cases q
  · cases q
    rw [show (Addr.block ⟨g, 0, none⟩) = g from rfl] at h
    rw [hh] at h
    cases h
    exact ht rfl

set_option maxHeartbeats 4000000 in
theorem octWithin_any (w0 : World) (B : Nat) (s : List UInt8) (a b : Int) (w : World) (h : ReaderAt w0.heap.size B w s) (hg : Grew w0 w) (hs : s.length ≤ 1000000) :
    Calls Tryz.prog 150 #[.pointer (some ⟨B, 0, none⟩), .int .i64 a, .int .i64 b] w fun e w' => e = .returned (.tuple #[.int .i64 (within s a b).1, .int .i64 (within s a b).2.1]) ∧ ReaderAt w0.heap.size B w' (within s a b).2.2 ∧ Grew w0 w' ∧ Keep B w w' := by
  have hc := cell_of_heap (o := 0) h.2
  have hf := frozen_of_heap (o := 0) h.2
  simp at hc
  have hB := Pre.ofCell hc
  have H := Lib.hid h
  have HG := Lib.hid hg
  have hd := drop4 s s.length rfl
  clear h hg
  by_cases h4 : s.length < 4
  · have e0 : within s a b = (0, 3, s) := by unfold within; rw [if_pos h4]
    have e1 : peekV s = 0 := by unfold peekV; rw [if_pos h4]
    have e2 : peekE s = 3 := by unfold peekE; rw [if_pos h4]
    have E1 := Lib.hid e1
    have E2 := Lib.hid e2
    rw [e0]
    clear e0 e1 e2
    go_enter Tryz.func150, Tryz.ntmps150
    go_wp2_with (go_at_call 182; refine (octPeek_any _ B s _ H.out hs).mono ?_; rintro e w1 ⟨rfl, R3, n3, rfl⟩; rw [E1.out, E2.out])
    exact bodyPost_ret (v := .tuple #[.int .i64 0, .int .i64 3]) (by simp [results, Tryz.results150, go_sem]) rfl ⟨rfl, H.out.grew (by repeat (first | with_reducible exact Grew.refl _ | apply Grew.more | apply Grew.alloc | apply Grew.drew | apply Grew.drewN)), HG.out.trans (by repeat (first | with_reducible exact Grew.refl _ | apply Grew.more | apply Grew.alloc | apply Grew.drew | apply Grew.drewN)), Keep.ofGrew (by repeat (first | with_reducible exact Grew.refl _ | apply Grew.more | apply Grew.alloc | apply Grew.drew | apply Grew.drewN))⟩
  · have e1 : peekV s = Oc.num s := by unfold peekV; rw [if_neg h4]
    have e2 : peekE s = 0 := by unfold peekE; rw [if_neg h4]
    have E1 := Lib.hid e1
    have E2 := Lib.hid e2
    clear e1 e2
    by_cases hr : Oc.num s < a ∨ b < Oc.num s
    · have e0 : within s a b = (0, 2, s) := by unfold within; rw [if_neg h4, if_pos hr]
      rw [e0]
      clear e0
      generalize Oc.num s = z at *
      go_enter Tryz.func150, Tryz.ntmps150
      by_cases hra : z < a
      · go_wp2_with (go_at_call 182; refine (octPeek_any _ B s _ H.out hs).mono ?_; rintro e w1 ⟨rfl, R3, n3, rfl⟩; rw [E1.out, E2.out])
        all_goals
          exact bodyPost_ret (v := .tuple #[.int .i64 0, .int .i64 2]) (by simp [results, Tryz.results150, go_sem]) rfl ⟨rfl, H.out.grew (by repeat (first | with_reducible exact Grew.refl _ | apply Grew.more | apply Grew.alloc | apply Grew.drew | apply Grew.drewN)), HG.out.trans (by repeat (first | with_reducible exact Grew.refl _ | apply Grew.more | apply Grew.alloc | apply Grew.drew | apply Grew.drewN)), Keep.ofGrew (by repeat (first | with_reducible exact Grew.refl _ | apply Grew.more | apply Grew.alloc | apply Grew.drew | apply Grew.drewN))⟩
      · have hrb : b < z := by omega
        clear hr
        go_wp2_with (go_at_call 182; refine (octPeek_any _ B s _ H.out hs).mono ?_; rintro e w1 ⟨rfl, R3, n3, rfl⟩; rw [E1.out, E2.out])
        all_goals
          exact bodyPost_ret (v := .tuple #[.int .i64 0, .int .i64 2]) (by simp [results, Tryz.results150, go_sem]) rfl ⟨rfl, H.out.grew (by repeat (first | with_reducible exact Grew.refl _ | apply Grew.more | apply Grew.alloc | apply Grew.drew | apply Grew.drewN)), HG.out.trans (by repeat (first | with_reducible exact Grew.refl _ | apply Grew.more | apply Grew.alloc | apply Grew.drew | apply Grew.drewN)), Keep.ofGrew (by repeat (first | with_reducible exact Grew.refl _ | apply Grew.more | apply Grew.alloc | apply Grew.drew | apply Grew.drewN))⟩
    · have e0 : within s a b = (Oc.num s, 0, s.drop 4) := by unfold within; rw [if_neg h4, if_neg hr]
      rw [e0]
      clear e0
      generalize Oc.num s = z at *
      have hra : ¬ z < a := fun h => hr (.inl h)
      have hrb : ¬ b < z := fun h => hr (.inr h)
      clear hr
      have h4' : 4 ≤ s.length := by omega
      go_enter Tryz.func150, Tryz.ntmps150
      go_wp2_with (go_at_call 182; refine (octPeek_any _ B s _ H.out hs).mono ?_; rintro e w1 ⟨rfl, R3, n3, rfl⟩; rw [E1.out, E2.out])
      exact bodyPost_ret (v := .tuple #[.int .i64 z, .int .i64 0]) (by simp [results, Tryz.results150, go_sem]) rfl
        ⟨rfl, ReaderAt.grew (W := w.setCell ⟨B, 0, none⟩ (.string ⟨(s.drop 4).toArray⟩)) ⟨H.out.1, heap_set_self H.out.2⟩ (by repeat (first | with_reducible exact Grew.refl _ | apply Grew.more | apply Grew.alloc | apply Grew.drew | apply Grew.drewN)), (Grew.setBehind HG.out H.out.1 _).more _ _, (Keep.set _).trans (Keep.ofGrew (by repeat (first | with_reducible exact Grew.refl _ | apply Grew.more | apply Grew.alloc | apply Grew.drew | apply Grew.drewN)))⟩

theorem octNum_any (w0 : World) (B : Nat) (s : List UInt8) (w : World) (h : ReaderAt w0.heap.size B w s) (hg : Grew w0 w) (hs : s.length ≤ 1000000) :
    Calls Tryz.prog 199 #[.pointer (some ⟨B, 0, none⟩)] w fun e w' => e = .returned (.tuple #[.int .i64 (within s (-2147483648) 2147483647).1, .int .i64 (within s (-2147483648) 2147483647).2.1]) ∧ ReaderAt w0.heap.size B w' (within s (-2147483648) 2147483647).2.2 ∧ Grew w0 w' ∧ Keep B w w' := by
  have hW := octWithin_any w0 B s (-2147483648) 2147483647 w h hg hs
  generalize within s (-2147483648) 2147483647 = r at *
  go_enter Tryz.func199, Tryz.ntmps199
  go_wp2_with (go_at_call 150; refine hW.mono ?_; rintro e w1 ⟨rfl, hr, hg1, hk1⟩; (have HR := Lib.hid hr); (have HG1 := Lib.hid hg1); (have HK1 := Lib.hid hk1); clear hr hg1 hk1)
  exact bodyPost_ret (v := .tuple #[.int .i64 r.1, .int .i64 r.2.1]) (by simp [results, Tryz.results199, go_sem]) rfl ⟨rfl, HR.out, HG1.out, HK1.out⟩

/-- The writer's bytes as a text. -/
theorem octOut_any (base B : Nat) (vb : Value) (bs : List UInt8) (w : World) (h : WriterAt base B w vb bs) (hl : bs.length ≤ 1000000) : Calls Tryz.prog 148 #[.pointer (some ⟨B, 0, none⟩)] w (Gives (.string ⟨bs.toArray⟩) w) := by
  have hc := cell_of_heap (o := 0) h.2.1
  simp at hc
  have H := Lib.hid h
  clear h
  rcases H.out.2.2.form with ⟨rfl, hb⟩ | ⟨b, cap, hvb, hb1, hb2, hb3⟩
  · subst hb
    have hcv : (convert 68 9 (.slice none 0 0)).run Tryz.prog w = .ok (.string ⟨#[]⟩) w := by
      rw [run_convert_bytes_string w _ _ 5 none 0 0 Tryz.underlying68 Tryz.underlying5 Tryz.underlying9]
      rfl
    go_enter Tryz.func148, Tryz.ntmps148
    go_wp2
    go_ret
    refine ⟨rfl, ?_⟩
    repeat (first | with_reducible exact Grew.refl _ | apply Grew.more | apply Grew.alloc | apply Grew.drew | apply Grew.drewN)
  · subst hvb
    have hr := H.out.2.2.rows encB_len
    have hcv : (convert 68 9 (.slice (some ⟨b, 0, none⟩) bs.length cap)).run Tryz.prog w = .ok (.string ⟨bs.toArray⟩) w :=
      run_convert_bytes_back w _ _ 5 ⟨b, 0, none⟩ cap bs Tryz.underlying68 Tryz.underlying5 Tryz.underlying9 (by
        intro j hj
        obtain ⟨a', cap', hv, _, hx⟩ := hr
        obtain ⟨b', off', hab, hx⟩ := hx (by intro e; subst e; simp at hj)
        cases hv
        cases hab
        rw [addr_add_zero]
        have := hx j bs[j] (List.getElem?_eq_getElem hj) 0 (.int .u8 bs[j].toNat) rfl
        simpa using this)
    clear hr
    go_enter Tryz.func148, Tryz.ntmps148
    go_wp2
    go_ret
    refine ⟨rfl, ?_⟩
    repeat (first | with_reducible exact Grew.refl _ | apply Grew.more | apply Grew.alloc | apply Grew.drew | apply Grew.drewN)

theorem WriterAt.grew {base B : Nat} {W W' : World} {vb : Value} {bs : List UInt8} (h : WriterAt base B W vb bs) (g : Grew W W') : WriterAt base B W' vb bs :=
  ⟨h.1, by rw [g.below.block B (Array.getElem?_eq_some_iff.1 h.2.1).1]; exact h.2.1, h.2.2.grew g⟩

end Go.Proofs.YtmdmbimfdpngaaaGreat

/-! graph.sort: its two closures; the world of a round. -/
namespace Go.Proofs.YtmdmbimfdpngaaaGreat
set_option linter.unusedSimpArgs false
set_option linter.unusedVariables false
open Go.RowKit Ga
set_option maxRecDepth 100000

theorem enters110 : ∀ args w, (callFunc 110 args).run Tryz.prog w = .ok (.enter 110 args) w := enters_of Tryz.func110 (by kernel_rfl) rfl
theorem enters111 : ∀ args w, (callFunc 111 args).run Tryz.prog w = .ok (.enter 111 args) w := enters_of Tryz.func111 (by kernel_rfl) rfl
theorem sort1_pred (out : List Int) (v : Value) (B : Nat) (w : World) (hv : IntsAt w v out) (hB : Pre B w) (hc : w.cell? ⟨B, 0, none⟩ = some v) : PredI 110 #[.pointer (some ⟨B, 0, none⟩)] (fun x => decide (x ∈ out)) w := by
  intro W x g
  obtain ⟨R, N, rfl⟩ := g
  have HC := Lib.hid fun W (g : Grew w W) => containsI_any v out x W (hv.grew g)
  obtain ⟨a, cap, rfl⟩ := hv.len
  clear hv
  show Calls Tryz.prog 110 #[.int .i64 x, .pointer (some ⟨B, 0, none⟩)] _ (Gives (.bool (decide (x ∈ out))) _)
  generalize decide (x ∈ out) = r at *
  go_enter Tryz.func110, Tryz.ntmps110
  go_wp2_with (go_at_call 71; refine (HC.out _ (by repeat (first | with_reducible exact Grew.refl _ | apply Grew.more | apply Grew.alloc | apply Grew.drew | apply Grew.drewN))).mono ?_; rintro e w1 ⟨rfl, hw1⟩; obtain rfl := hw1)
  go_ret
  refine ⟨rfl, ?_⟩
  repeat (first | with_reducible exact Grew.refl _ | apply Grew.more | apply Grew.alloc | apply Grew.drew | apply Grew.drewN)
theorem sort2_pred (out : List Int) (v : Value) (B C : Nat) (w : World) (hv : IntsAt w v out) (hB : Pre B w) (hc : w.cell? ⟨B, 0, none⟩ = some v) (hC : Pre C w) (hcC : w.cell? ⟨C, 0, none⟩ = some (.func (.func 110) #[] #[.pointer (some ⟨B, 0, none⟩)])) : PredI 111 #[.pointer (some ⟨C, 0, none⟩)] (fun x => !decide (x ∈ out)) w := by
  intro W x g
  have HS := Lib.hid (sort1_pred out v B w hv hB hc)
  obtain ⟨R, N, rfl⟩ := g
  have eg := enters110
  clear hv hc hB
  show Calls Tryz.prog 111 #[.int .i64 x, .pointer (some ⟨C, 0, none⟩)] _ (Gives (.bool (!decide (x ∈ out))) _)
  generalize hq : (fun x => decide (x ∈ out)) = p at *
  have hp : decide (x ∈ out) = p x := by rw [← hq]
  rw [hp]
  clear hq hp
  generalize hr : p x = r
  have HR := Lib.hid hr
  clear hr
  go_enter Tryz.func111, Tryz.ntmps111
  go_wp2_with (go_at_fn 110; refine (HS.out _ x (by repeat (first | with_reducible exact Grew.refl _ | apply Grew.more | apply Grew.alloc | apply Grew.drew | apply Grew.drewN))).mono ?_; rintro e w1 ⟨rfl, R3, n3, rfl⟩; rw [HR.out])
  go_ret
  refine ⟨rfl, ?_⟩
  repeat (first | with_reducible exact Grew.refl _ | apply Grew.more | apply Grew.alloc | apply Grew.drew | apply Grew.drewN)

/-- a world of the sort's: w: the one that came in; w1: the one behind Norm; B: the cell of what stands; C: the cell of the closure -/
structure SortAt (w w1 : World) (B C : Nat) (W : World) (v : Value) (out : List Int) : Prop where
  keep : Keep B w1 W
  g : Grew w W
  own : OwnAt w.heap.size 3 1 encN W v out
  hi : ∀ q, v.ownBlock = some q → w1.heap.size ≤ q
  b : W.heap[B]? = some (.cells #[v] 22)
  c : W.heap[C]? = some (.cells #[.func (.func 110) #[] #[.pointer (some ⟨B, 0, none⟩)]] 121)
  bl : w.heap.size ≤ B
theorem SortAt.grew {w w1 : World} {B C : Nat} {W W' : World} {v : Value} {out : List Int} (h : SortAt w w1 B C W v out) (g : Grew W W') : SortAt w w1 B C W' v out :=
  ⟨h.keep.trans (Keep.ofGrew g), h.g.trans g, h.own.grew g, h.hi, grew_heap g h.b, grew_heap g h.c, h.bl⟩
theorem SortAt.push {w w1 : World} {B C : Nat} {W W' : World} {v v' : Value} {out : List Int} {x : Int} (h : SortAt w w1 B C W v out) (hA : Appended w 3 1 encN W v (out ++ [x]) v' W') :
    W'.heap[B]? = some (.cells #[v] 22) ∧ SortAt w w1 B C (W'.setCell ⟨B, 0, none⟩ v') v' (out ++ [x]) := by
  obtain ⟨a1, a2, a3, a4, a5⟩ := hA
  have hB : W'.heap[B]? = some (.cells #[v] 22) := by rw [a4 B (heap_lt h.b) (OwnAt.other h.own h.b (by decide))]; exact h.b
  have hC : W'.heap[C]? = some (.cells #[.func (.func 110) #[] #[.pointer (some ⟨B, 0, none⟩)]] 121) := by rw [a4 C (heap_lt h.c) (OwnAt.other h.own h.c (by decide))]; exact h.c
  have hne : B ≠ C := fun e => by
    rw [e, hC] at hB
    cases hB
  have hk : Keep B w1 W' := ⟨Nat.le_trans h.keep.1 a3, fun q hq hn => (a4 q (Nat.lt_of_lt_of_le hq h.keep.1) fun e => by have := h.hi q e; omega).trans (h.keep.2 q hq hn)⟩
  refine ⟨hB, ⟨hk.trans (Keep.set _), a1.set h.bl _, OwnAt.same a2 fun b hb => set_other fun e => ?_, fun q hq => ?_, by rw [set_self hB]; rfl, by rw [set_other hne]; exact hC, h.bl⟩⟩
  · subst e
    exact OwnAt.other a2 hB (by decide) hb
  · rcases a5 q hq with h1 | h1
    · exact h.hi q h1
    · exact Nat.le_trans h.keep.1 h1
/-- the nodes stand as they stood -/
theorem SortAt.nodes {w w1 : World} {B C base : Nat} {W : World} {v vn : Value} {out : List Int} {lc : List NdC} {l : List Gr.Nd} (h : SortAt w w1 B C W v out) (ho : NodesOwn base w1 vn lc) (hn : NodesIn base w1 lc l) (hB : ∃ c, w1.heap[B]? = some (.cells c 22)) : NodesAt W vn l := by
  obtain ⟨cB, hB⟩ := hB
  have hk := h.keep
  have hne : ∀ (q : Nat) (cs : Array Value) (t : TypeId), w1.heap[q]? = some (.cells cs t) → t ≠ 22 → q ≠ B := fun q cs t hq ht e => by
    subst e
    rw [hB] at hq
    cases hq
    exact ht rfl
  have ho2 : NodesOwn base W vn lc := OwnAt.same ho fun b hb => by
    obtain ⟨_, cs, h2⟩ := OwnAt.block ho hb
    exact hk.2 b (heap_lt h2) (hne b cs _ h2 (by decide))
  have hn2 : NodesIn base W lc l := Rel.mono (fun c n ⟨h1, h2⟩ => by
    have h3 : OwnsNd base W c n := by
      refine ⟨OwnAt.same h2.1 fun b hb => ?_, OwnAt.same h2.2 fun b hb => ?_⟩
      · obtain ⟨_, cs, h4⟩ := OwnAt.block h2.1 hb
        exact hk.2 b (heap_lt h4) (hne b cs _ h4 (by decide))
      · obtain ⟨_, cs, h4⟩ := OwnAt.block h2.2 hb
        exact hk.2 b (heap_lt h4) (hne b cs _ h4 (by decide))
    exact ⟨h3.is h1, h3⟩) hn
  exact hn2.at ho2
def standP (out : List Int) (n : Gr.Nd) : Bool := !out.contains n.id && n.frm.all fun f => out.contains f
theorem standP_eq (out : List Int) (n : Gr.Nd) : standP out n = (!decide (n.id ∈ out) && !n.frm.any fun f => !decide (f ∈ out)) := by
  unfold standP
  rw [List.not_any_eq_all_not]
  simp
theorem standP_next (l : List Gr.Nd) (out : List Int) : Gr.nextS l out = (l.find? (standP out)).map (·.id) := rfl
def sliceLen : Value → Nat
  | .slice _ n _ => n
  | _ => 0
end Go.Proofs.YtmdmbimfdpngaaaGreat

/-! What the library's sorts leave of a slice of one's own, whatever its elements. -/
namespace Go.Proofs.YtmdmbimfdpngaaaGreat
set_option linter.unusedSimpArgs false
set_option linter.unusedVariables false
open Go.RowKit Ga
set_option maxRecDepth 100000

section
variable {α : Type} [Inhabited α] {enc : α → List Value} {k : Nat} {e : TypeId}
theorem flat_flatKG (henc : ∀ x, (enc x).length = k) (hk : 0 < k) (lc : List α) (j : Nat) (hj : j < lc.length * k) : (lc.flatMap enc)[j]? = some ((Sort.flatK enc k lc.toArray)[j]!) := by
  have hi : j / k < lc.length := Nat.div_lt_of_lt_mul (by rw [Nat.mul_comm]; exact hj)
  rw [Sort.get_flatK enc k lc.toArray j (by simpa using hj)]
  have e1 : lc.toArray[j / k]! = lc[j / k] := by rw [getElem!_pos lc.toArray (j / k) (by simpa using hi)]; simp
  rw [e1]
  have hm : j % k < (enc lc[j / k]).length := by rw [henc]; exact Nat.mod_lt _ hk
  have h2 : (enc lc[j / k])[j % k]? = some ((enc lc[j / k])[j % k]!) := by rw [List.getElem?_eq_getElem hm, getElem!_pos (enc lc[j / k]) (j % k) hm]
  have h3 := flat_get henc lc (j / k) lc[j / k] (List.getElem?_eq_getElem hi) (j % k) _ h2
  rw [show j / k * k + j % k = j from by rw [Nat.mul_comm]; exact Nat.div_add_mod j k] at h3
  exact h3
theorem own_holdsKG (henc : ∀ x, (enc x).length = k) (hk : 0 < k) {base : Nat} {W : World} {b cap n : Nat} {lc : List α} (h : OwnAt base e k enc W (.slice (some ⟨b, 0, none⟩) n cap) lc) : Sort.HoldsK enc k W b 0 lc.toArray ∧ base ≤ b ∧ b < W.heap.size := by
  obtain ⟨h1, h2⟩ := h
  rcases h2 with ⟨h, _⟩ | ⟨g, cap', cur, hv, hb, hh, hc, hm, hs, ht⟩
  · cases h
  · cases hv
    refine ⟨fun j hj => ?_, hb, (Array.getElem?_eq_some_iff.1 hh).1⟩
    rw [Sort.size_flatK] at hj
    have hj' : j < lc.length * k := by simpa using hj
    rw [Nat.zero_add, cell_of_heap hh, frozen_of_heap hh]
    refine ⟨?_, rfl⟩
    have h3 := flat_flatKG henc hk lc j hj'
    rw [← ht, List.getElem?_take, if_pos hj'] at h3
    simpa using h3
theorem own_ofSortG (henc : ∀ x, (enc x).length = k) (hk : 0 < k) {base : Nat} {W : World} {b cap n m : Nat} {lc lc' : List α} {os : Array Obj} (h : OwnAt base e k enc W (.slice (some ⟨b, 0, none⟩) n cap) lc) (hl : lc'.length = lc.length) :
    OwnAt base e k enc (Go.Proofs.sortWorldK enc k W b 0 m lc'.toArray os) (.slice (some ⟨b, 0, none⟩) n cap) lc' ∧ (∀ q, q < W.heap.size → q ≠ b → (Go.Proofs.sortWorldK enc k W b 0 m lc'.toArray os).heap[q]? = W.heap[q]?) ∧ W.heap.size ≤ (Go.Proofs.sortWorldK enc k W b 0 m lc'.toArray os).heap.size := by
  obtain ⟨h1, h2⟩ := h
  rcases h2 with ⟨h, _⟩ | ⟨g, cap', cur, hv, hb, hh, hc, hm, hs, ht⟩
  · cases h
  · cases hv
    have hblk : b < W.heap.size := (Array.getElem?_eq_some_iff.1 hh).1
    have hat : ∀ q, q < W.heap.size → (Go.Proofs.sortWorldK enc k W b 0 m lc'.toArray os).heap[q]? = (Sort.putRowK enc k (Sort.ahead W m) b 0 lc'.toArray).heap[q]? := by
      intro q hq
      unfold sortWorldK Sort.grow
      simp only
      rw [Array.getElem?_append_left]
      show q < (Sort.putRow id _ _ _ _).heap.size
      rw [Sort.size_putRow]
      exact hq
    have hself : (Go.Proofs.sortWorldK enc k W b 0 m lc'.toArray os).heap[b]? = some (.cells (Sort.putCells id 0 (Sort.flatK enc k lc'.toArray) cur) e) := by
      rw [hat b hblk]
      unfold Sort.putRowK Sort.putRow Sort.mapBlock
      simp only [Array.getElem?_modify, if_true]
      rw [show (Sort.ahead W m).heap = W.heap from rfl]
      have hh' : W.heap[b]? = some (.cells cur e) := hh
      rw [hh']
      rfl
    have hps : (Sort.putCells id 0 (Sort.flatK enc k lc'.toArray) cur).size = cur.size := by unfold Sort.putCells; rw [Array.size_mapIdx]
    refine ⟨⟨by rw [flat_length henc], .inr ⟨b, cap, _, by rw [hl], hb, hself, by rw [hl]; exact hc, hm, by rw [hps]; exact hs, ?_⟩⟩, fun q hq hne => ?_, ?_⟩
    · refine List.ext_getElem? fun j => ?_
      by_cases hj : j < lc'.length * k
      · rw [List.getElem?_take, if_pos hj, flat_flatKG henc hk lc' j hj]
        have hjc : j < cur.size := by
          rw [hs]
          exact Nat.lt_of_lt_of_le hj (Nat.mul_le_mul_right k (by rw [hl]; exact hc))
        unfold Sort.putCells
        rw [Array.getElem?_toList, Array.getElem?_mapIdx, Array.getElem?_eq_getElem hjc]
        simp only [Option.map_some, Nat.zero_le, true_and, Nat.zero_add, Sort.size_flatK, Nat.sub_zero, id]
        rw [if_pos (by simpa using hj)]
      · rw [List.getElem?_take, if_neg hj, List.getElem?_eq_none (by rw [flat_length henc]; omega)]
    · rw [hat q hq]
      unfold Sort.putRowK Sort.putRow Sort.mapBlock
      simp only [Array.getElem?_modify]
      rw [if_neg (fun e => hne e.symm)]
      rfl
    · unfold sortWorldK Sort.grow Sort.putRowK
      simp only [Array.size_append, Sort.size_putRow]
      exact Nat.le_add_right _ _
end
end Go.Proofs.YtmdmbimfdpngaaaGreat
