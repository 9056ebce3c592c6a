import Derived.Test.YtlgbipfpnfphjaaGreatDoorGb35
import Derived.BigRegion
/-! lines.parseStep: cases. -/
namespace Go.Proofs.YtlgbipfpnfphjaaGreatDoor
set_option linter.unusedSimpArgs false
set_option linter.unusedVariables false
open Go.RowKit Ga
set_option maxRecDepth 100000

set_option maxHeartbeats 16000000 in
theorem pstep_swapN (s : List UInt8) (w : World) (r : List UInt8) (ws : List (List UInt8)) (p : List Val) (h : StepHead s w Li.sSWAP r ws p) (hl : ws.length ≠ 2) : Calls Tryz.prog 36 #[.string ⟨s.toArray⟩] w (StGives ⟨0, ⟨Co.atoiVal (ws.getD 0 []), 0, [], [], 0, Gr.zeros⟩, false⟩ w) := by
  have HC := Lib.hid h.cut
  have HW := Lib.hid h.words
  have HNE : Hid (ws ≠ []) := Lib.hid (by have := h.h1; intro e; rw [e] at this; simp at this)
  have HAT := Lib.hid fun W (q : Grew w W) => atoiL_any (ws.getD 0 []) (HW0L ws h.h1 h.h3) W (h.env.e.grew q)
  have hra := Co.atoiVal_range (ws.getD 0 [])
  have HPOS := Lib.hid (show 0 < ws.length by have := h.h1; omega)
  have HW0 := Lib.hid (getD_zero ws [] HPOS.out)
  have hlb : ¬ ((ws.length : Int) = 2) := by omega
  clear hl
  clear h
  generalize ws.getD 0 [] = a0 at *
  generalize Co.atoiVal a0 = ia at *
  generalize (Lib.cut s [32]).2.2 = cm at *
  go_enter Tryz.func36, Tryz.ntmps36
  go_wp2_with (first
    | (go_at_call 64; refine (HC.out _ (by repeat (first | with_reducible exact Grew.refl _ | apply Grew.more | apply Grew.alloc | apply Grew.drew | apply Grew.drewN))).mono ?_; rintro e w1 ⟨rfl, RA, nA, rfl⟩)
    | (go_at_call 84; refine (HW.out _ (by repeat (first | with_reducible exact Grew.refl _ | apply Grew.more | apply Grew.alloc | apply Grew.drew | apply Grew.drewN))).mono ?_; rintro e w1 ⟨v1, v2, rfl, hv1, hv2, RB, nB, rfl⟩; obtain ⟨ap, cp, rfl⟩ := (OwnAt.rows hv2 encI_len).len; (have HV1 := Lib.hid hv1); (have HV2 := Lib.hid hv2); obtain ⟨b, cap, rfl, hb, hc⟩ := strs_open hv1 HNE.out; (have s0 := hc 0 HPOS.out); rw [HW0.out] at s0; clear hc hv1 hv2)
    | (go_at_call 85; refine (HAT.out _ (by repeat (first | with_reducible exact Grew.refl _ | apply Grew.more | apply Grew.alloc | apply Grew.drew | apply Grew.drewN))).mono ?_; rintro e w1 ⟨v3, rfl, RC, nC, rfl⟩))
  refine bodyPost_ret (v := .agg #[.int .i64 0, .int .i64 ia, .int .i64 0, .slice none 0 0, .slice none 0 0, .int .i64 0, .int .i64 0, .int .i64 0, .int .i64 0, .int .i64 0, .int .i64 0, .int .i64 0, .int .i64 0, .int .i64 0, .bool false]) (by simp [results, Tryz.results36, go_sem]) rfl ⟨_, rfl, (st_mk (base := w.heap.size) (nd_mk (OwnAt.nil _) (OwnAt.nil _) rfl)).1, (st_mk (base := w.heap.size) (nd_mk (OwnAt.nil _) (OwnAt.nil _) rfl)).2, by repeat (first | with_reducible exact Grew.refl _ | apply Grew.more | apply Grew.alloc | apply Grew.drew | apply Grew.drewN)⟩
set_option maxHeartbeats 16000000 in
theorem pstep_routeN (s : List UInt8) (w : World) (r : List UInt8) (ws : List (List UInt8)) (p : List Val) (h : StepHead s w Li.sROUTE r ws p) (hl : ws.length ≠ 3) : Calls Tryz.prog 36 #[.string ⟨s.toArray⟩] w (StGives ⟨0, ⟨Co.atoiVal (ws.getD 0 []), 0, [], [], 0, Gr.zeros⟩, false⟩ w) := by
  have HC := Lib.hid h.cut
  have HW := Lib.hid h.words
  have HNE : Hid (ws ≠ []) := Lib.hid (by have := h.h1; intro e; rw [e] at this; simp at this)
  have HAT := Lib.hid fun W (q : Grew w W) => atoiL_any (ws.getD 0 []) (HW0L ws h.h1 h.h3) W (h.env.e.grew q)
  have hra := Co.atoiVal_range (ws.getD 0 [])
  have HPOS := Lib.hid (show 0 < ws.length by have := h.h1; omega)
  have HW0 := Lib.hid (getD_zero ws [] HPOS.out)
  have hlb : ¬ ((ws.length : Int) = 3) := by omega
  clear hl
  clear h
  generalize ws.getD 0 [] = a0 at *
  generalize Co.atoiVal a0 = ia at *
  generalize (Lib.cut s [32]).2.2 = cm at *
  go_enter Tryz.func36, Tryz.ntmps36
  go_wp2_with (first
    | (go_at_call 64; refine (HC.out _ (by repeat (first | with_reducible exact Grew.refl _ | apply Grew.more | apply Grew.alloc | apply Grew.drew | apply Grew.drewN))).mono ?_; rintro e w1 ⟨rfl, RA, nA, rfl⟩)
    | (go_at_call 84; refine (HW.out _ (by repeat (first | with_reducible exact Grew.refl _ | apply Grew.more | apply Grew.alloc | apply Grew.drew | apply Grew.drewN))).mono ?_; rintro e w1 ⟨v1, v2, rfl, hv1, hv2, RB, nB, rfl⟩; obtain ⟨ap, cp, rfl⟩ := (OwnAt.rows hv2 encI_len).len; (have HV1 := Lib.hid hv1); (have HV2 := Lib.hid hv2); obtain ⟨b, cap, rfl, hb, hc⟩ := strs_open hv1 HNE.out; (have s0 := hc 0 HPOS.out); rw [HW0.out] at s0; clear hc hv1 hv2)
    | (go_at_call 85; refine (HAT.out _ (by repeat (first | with_reducible exact Grew.refl _ | apply Grew.more | apply Grew.alloc | apply Grew.drew | apply Grew.drewN))).mono ?_; rintro e w1 ⟨v3, rfl, RC, nC, rfl⟩))
  refine bodyPost_ret (v := .agg #[.int .i64 0, .int .i64 ia, .int .i64 0, .slice none 0 0, .slice none 0 0, .int .i64 0, .int .i64 0, .int .i64 0, .int .i64 0, .int .i64 0, .int .i64 0, .int .i64 0, .int .i64 0, .int .i64 0, .bool false]) (by simp [results, Tryz.results36, go_sem]) rfl ⟨_, rfl, (st_mk (base := w.heap.size) (nd_mk (OwnAt.nil _) (OwnAt.nil _) rfl)).1, (st_mk (base := w.heap.size) (nd_mk (OwnAt.nil _) (OwnAt.nil _) rfl)).2, by repeat (first | with_reducible exact Grew.refl _ | apply Grew.more | apply Grew.alloc | apply Grew.drew | apply Grew.drewN)⟩
set_option maxHeartbeats 16000000 in
theorem pstep_linkN (s : List UInt8) (w : World) (r : List UInt8) (ws : List (List UInt8)) (p : List Val) (h : StepHead s w Li.sLINK r ws p) (hl : ws.length ≠ 2) : Calls Tryz.prog 36 #[.string ⟨s.toArray⟩] w (StGives ⟨0, ⟨Co.atoiVal (ws.getD 0 []), 0, [], [], 0, Gr.zeros⟩, false⟩ w) := by
  have HC := Lib.hid h.cut
  have HW := Lib.hid h.words
  have HNE : Hid (ws ≠ []) := Lib.hid (by have := h.h1; intro e; rw [e] at this; simp at this)
  have HAT := Lib.hid fun W (q : Grew w W) => atoiL_any (ws.getD 0 []) (HW0L ws h.h1 h.h3) W (h.env.e.grew q)
  have hra := Co.atoiVal_range (ws.getD 0 [])
  have HPOS := Lib.hid (show 0 < ws.length by have := h.h1; omega)
  have HW0 := Lib.hid (getD_zero ws [] HPOS.out)
  have hlb : ¬ ((ws.length : Int) = 2) := by omega
  clear hl
  clear h
  generalize ws.getD 0 [] = a0 at *
  generalize Co.atoiVal a0 = ia at *
  generalize (Lib.cut s [32]).2.2 = cm at *
  go_enter Tryz.func36, Tryz.ntmps36
  go_wp2_with (first
    | (go_at_call 64; refine (HC.out _ (by repeat (first | with_reducible exact Grew.refl _ | apply Grew.more | apply Grew.alloc | apply Grew.drew | apply Grew.drewN))).mono ?_; rintro e w1 ⟨rfl, RA, nA, rfl⟩)
    | (go_at_call 84; refine (HW.out _ (by repeat (first | with_reducible exact Grew.refl _ | apply Grew.more | apply Grew.alloc | apply Grew.drew | apply Grew.drewN))).mono ?_; rintro e w1 ⟨v1, v2, rfl, hv1, hv2, RB, nB, rfl⟩; obtain ⟨ap, cp, rfl⟩ := (OwnAt.rows hv2 encI_len).len; (have HV1 := Lib.hid hv1); (have HV2 := Lib.hid hv2); obtain ⟨b, cap, rfl, hb, hc⟩ := strs_open hv1 HNE.out; (have s0 := hc 0 HPOS.out); rw [HW0.out] at s0; clear hc hv1 hv2)
    | (go_at_call 85; refine (HAT.out _ (by repeat (first | with_reducible exact Grew.refl _ | apply Grew.more | apply Grew.alloc | apply Grew.drew | apply Grew.drewN))).mono ?_; rintro e w1 ⟨v3, rfl, RC, nC, rfl⟩))
  refine bodyPost_ret (v := .agg #[.int .i64 0, .int .i64 ia, .int .i64 0, .slice none 0 0, .slice none 0 0, .int .i64 0, .int .i64 0, .int .i64 0, .int .i64 0, .int .i64 0, .int .i64 0, .int .i64 0, .int .i64 0, .int .i64 0, .bool false]) (by simp [results, Tryz.results36, go_sem]) rfl ⟨_, rfl, (st_mk (base := w.heap.size) (nd_mk (OwnAt.nil _) (OwnAt.nil _) rfl)).1, (st_mk (base := w.heap.size) (nd_mk (OwnAt.nil _) (OwnAt.nil _) rfl)).2, by repeat (first | with_reducible exact Grew.refl _ | apply Grew.more | apply Grew.alloc | apply Grew.drew | apply Grew.drewN)⟩
set_option maxHeartbeats 16000000 in
theorem pstep_other (s : List UInt8) (w : World) (v : List UInt8) (r : List UInt8) (ws : List (List UInt8)) (p : List Val) (h : StepHead s w v r ws p) (h1 : v ≠ Li.sSWAP) (h2 : v ≠ Li.sADD) (h3 : v ≠ Li.sREMOVE) (h4 : v ≠ Li.sROUTE) (h5 : v ≠ Li.sLINK) : Calls Tryz.prog 36 #[.string ⟨s.toArray⟩] w (StGives ⟨0, ⟨Co.atoiVal (ws.getD 0 []), 0, [], [], 0, Gr.zeros⟩, false⟩ w) := by
  have HC := Lib.hid h.cut
  have HW := Lib.hid h.words
  have HNE : Hid (ws ≠ []) := Lib.hid (by have := h.h1; intro e; rw [e] at this; simp at this)
  have HAT := Lib.hid fun W (q : Grew w W) => atoiL_any (ws.getD 0 []) (HW0L ws h.h1 h.h3) W (h.env.e.grew q)
  have hra := Co.atoiVal_range (ws.getD 0 [])
  have HPOS := Lib.hid (show 0 < ws.length by have := h.h1; omega)
  have HW0 := Lib.hid (getD_zero ws [] HPOS.out)
  have b1 : (v == [83, 87, 65, 80]) = false := by simpa [Li.sSWAP] using h1
  have b2 : (v == [65, 68, 68]) = false := by simpa [Li.sADD] using h2
  have b3 : (v == [82, 69, 77, 79, 86, 69]) = false := by simpa [Li.sREMOVE] using h3
  have b4 : (v == [82, 79, 85, 84, 69]) = false := by simpa [Li.sROUTE] using h4
  have b5 : (v == [76, 73, 78, 75]) = false := by simpa [Li.sLINK] using h5
  clear h1 h2 h3 h4 h5
  clear h
  generalize ws.getD 0 [] = a0 at *
  generalize Co.atoiVal a0 = ia at *
  generalize (Lib.cut s [32]).2.2 = cm at *
  go_enter Tryz.func36, Tryz.ntmps36
  go_wp2_with (first
    | (go_at_call 64; refine (HC.out _ (by repeat (first | with_reducible exact Grew.refl _ | apply Grew.more | apply Grew.alloc | apply Grew.drew | apply Grew.drewN))).mono ?_; rintro e w1 ⟨rfl, RA, nA, rfl⟩)
    | (go_at_call 84; refine (HW.out _ (by repeat (first | with_reducible exact Grew.refl _ | apply Grew.more | apply Grew.alloc | apply Grew.drew | apply Grew.drewN))).mono ?_; rintro e w1 ⟨v1, v2, rfl, hv1, hv2, RB, nB, rfl⟩; obtain ⟨ap, cp, rfl⟩ := (OwnAt.rows hv2 encI_len).len; (have HV1 := Lib.hid hv1); (have HV2 := Lib.hid hv2); obtain ⟨b, cap, rfl, hb, hc⟩ := strs_open hv1 HNE.out; (have s0 := hc 0 HPOS.out); rw [HW0.out] at s0; clear hc hv1 hv2)
    | (go_at_call 85; refine (HAT.out _ (by repeat (first | with_reducible exact Grew.refl _ | apply Grew.more | apply Grew.alloc | apply Grew.drew | apply Grew.drewN))).mono ?_; rintro e w1 ⟨v3, rfl, RC, nC, rfl⟩))
  refine bodyPost_ret (v := .agg #[.int .i64 0, .int .i64 ia, .int .i64 0, .slice none 0 0, .slice none 0 0, .int .i64 0, .int .i64 0, .int .i64 0, .int .i64 0, .int .i64 0, .int .i64 0, .int .i64 0, .int .i64 0, .int .i64 0, .bool false]) (by simp [results, Tryz.results36, go_sem]) rfl ⟨_, rfl, (st_mk (base := w.heap.size) (nd_mk (OwnAt.nil _) (OwnAt.nil _) rfl)).1, (st_mk (base := w.heap.size) (nd_mk (OwnAt.nil _) (OwnAt.nil _) rfl)).2, by repeat (first | with_reducible exact Grew.refl _ | apply Grew.more | apply Grew.alloc | apply Grew.drew | apply Grew.drewN)⟩
end Go.Proofs.YtlgbipfpnfphjaaGreatDoor
