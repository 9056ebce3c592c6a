import Derived.Test.YtlgbipfpnfphjaaGreatDoorGb35
import Derived.BigRegion
/-! lines.parseStep: cases. -/
namespace Go.Proofs.YtlgbipfpnfphjaaGreatDoor
set_option linter.unusedSimpArgs false
set_option linter.unusedVariables false
open Go.RowKit Ga
set_option maxRecDepth 100000

set_option maxHeartbeats 16000000 in
theorem pstep_remove (s : List UInt8) (w : World) (r : List UInt8) (ws : List (List UInt8)) (p : List Val) (h : StepHead s w Li.sREMOVE r ws p) : Calls Tryz.prog 36 #[.string ⟨s.toArray⟩] w (StGives ⟨3, ⟨Co.atoiVal (ws.getD 0 []), 0, [], [], 0, Gr.zeros⟩, false⟩ w) := by
  have HC := Lib.hid h.cut
  have HW := Lib.hid h.words
  have HNE : Hid (ws ≠ []) := Lib.hid (by have := h.h1; intro e; rw [e] at this; simp at this)
  have HAT := Lib.hid fun W (q : Grew w W) => atoiL_any (ws.getD 0 []) (HW0L ws h.h1 h.h3) W (h.env.e.grew q)
  have hra := Co.atoiVal_range (ws.getD 0 [])
  have HPOS := Lib.hid (show 0 < ws.length by have := h.h1; omega)
  have HW0 := Lib.hid (getD_zero ws [] HPOS.out)
  clear h
  generalize ws.getD 0 [] = a0 at *
  generalize Co.atoiVal a0 = ia at *
  generalize (Lib.cut s [32]).2.2 = cm at *
  go_enter Tryz.func36, Tryz.ntmps36
  go_wp2_with (first
    | (go_at_call 64; refine (HC.out _ (by repeat (first | with_reducible exact Grew.refl _ | apply Grew.more | apply Grew.alloc | apply Grew.drew | apply Grew.drewN))).mono ?_; rintro e w1 ⟨rfl, RA, nA, rfl⟩)
    | (go_at_call 84; refine (HW.out _ (by repeat (first | with_reducible exact Grew.refl _ | apply Grew.more | apply Grew.alloc | apply Grew.drew | apply Grew.drewN))).mono ?_; rintro e w1 ⟨v1, v2, rfl, hv1, hv2, RB, nB, rfl⟩; obtain ⟨ap, cp, rfl⟩ := (OwnAt.rows hv2 encI_len).len; (have HV1 := Lib.hid hv1); (have HV2 := Lib.hid hv2); obtain ⟨b, cap, rfl, hb, hc⟩ := strs_open hv1 HNE.out; (have s0 := hc 0 HPOS.out); rw [HW0.out] at s0; clear hc hv1 hv2)
    | (go_at_call 85; refine (HAT.out _ (by repeat (first | with_reducible exact Grew.refl _ | apply Grew.more | apply Grew.alloc | apply Grew.drew | apply Grew.drewN))).mono ?_; rintro e w1 ⟨v3, rfl, RC, nC, rfl⟩))
  refine bodyPost_ret (v := .agg #[.int .i64 3, .int .i64 ia, .int .i64 0, .slice none 0 0, .slice none 0 0, .int .i64 0, .int .i64 0, .int .i64 0, .int .i64 0, .int .i64 0, .int .i64 0, .int .i64 0, .int .i64 0, .int .i64 0, .bool false]) (by simp [results, Tryz.results36, go_sem]) rfl ⟨_, rfl, (st_mk (base := w.heap.size) (nd_mk (OwnAt.nil _) (OwnAt.nil _) rfl)).1, (st_mk (base := w.heap.size) (nd_mk (OwnAt.nil _) (OwnAt.nil _) rfl)).2, by repeat (first | with_reducible exact Grew.refl _ | apply Grew.more | apply Grew.alloc | apply Grew.drew | apply Grew.drewN)⟩
set_option maxHeartbeats 16000000 in
theorem pstep_route (s : List UInt8) (w : World) (r a bb cc : List UInt8) (p : List Val) (h : StepHead s w Li.sROUTE r [a, bb, cc] p) : Calls Tryz.prog 36 #[.string ⟨s.toArray⟩] w (StGives ⟨4, ⟨Co.atoiVal a, 0, [], [], Co.atoiVal bb, Li.routeP cc⟩, false⟩ w) := by
  have HC := Lib.hid h.cut
  have HW := Lib.hid h.words
  have HNE : Hid (([a, bb, cc] : List (List UInt8)) ≠ []) := Lib.hid (by have := h.h1; intro e; rw [e] at this; simp at this)
  have HAT := Lib.hid fun W (q : Grew w W) => atoiL_any (([a, bb, cc] : List (List UInt8)).getD 0 []) (HW0L ([a, bb, cc] : List (List UInt8)) h.h1 h.h3) W (h.env.e.grew q)
  have hra := Co.atoiVal_range (([a, bb, cc] : List (List UInt8)).getD 0 [])
  simp only [List.getD_cons_zero] at HAT hra
  obtain ⟨x0, x1, x2, x3, x4, x5, x6, x7, hx, hpl⟩ := placed_any (Co.atoiVal a) 0 0 0 0 0 0 0 0 0 0 none none 0 0 0 0 bb cc (h.h3 bb (by simp)) (h.h3 cc (by simp)) w h.env.e
  have HPL2 : Hid (∀ W, Grew w W → Calls Tryz.prog 87 #[.agg #[.int .i64 (Co.atoiVal a), .int .i64 0, .slice none 0 0, .slice none 0 0, .int .i64 0, .int .i64 0, .int .i64 0, .int .i64 0, .int .i64 0, .int .i64 0, .int .i64 0, .int .i64 0, .int .i64 0], .string ⟨bb.toArray⟩, .string ⟨cc.toArray⟩] W (Gives (.agg #[.int .i64 (Co.atoiVal a), .int .i64 0, .slice none 0 0, .slice none 0 0, .int .i64 (Co.atoiVal bb), .int .i64 x0, .int .i64 x1, .int .i64 x2, .int .i64 x3, .int .i64 x4, .int .i64 x5, .int .i64 x6, .int .i64 x7]) W)) := Lib.hid fun W q => by
    obtain ⟨y0, y1, y2, y3, y4, y5, y6, y7, hy, hc⟩ := placed_any (Co.atoiVal a) 0 0 0 0 0 0 0 0 0 0 none none 0 0 0 0 bb cc (h.h3 bb (by simp)) (h.h3 cc (by simp)) W (h.env.e.grew q)
    rw [hx] at hy
    cases hy
    exact hc
  clear hpl
  clear h
  generalize Co.atoiVal a = ia at *
  generalize (Lib.cut s [32]).2.2 = cm at *
  go_enter Tryz.func36, Tryz.ntmps36
  generalize Co.atoiVal bb = ib at *
  go_wp2_with (first
    | (go_at_call 64; refine (HC.out _ (by repeat (first | with_reducible exact Grew.refl _ | apply Grew.more | apply Grew.alloc | apply Grew.drew | apply Grew.drewN))).mono ?_; rintro e w1 ⟨rfl, RA, nA, rfl⟩)
    | (go_at_call 84; refine (HW.out _ (by repeat (first | with_reducible exact Grew.refl _ | apply Grew.more | apply Grew.alloc | apply Grew.drew | apply Grew.drewN))).mono ?_; rintro e w1 ⟨v1, v2, rfl, hv1, hv2, RB, nB, rfl⟩; obtain ⟨ap, cp, rfl⟩ := (OwnAt.rows hv2 encI_len).len; (have HV1 := Lib.hid hv1); (have HV2 := Lib.hid hv2); obtain ⟨b, cap, rfl, hb, hc⟩ := strs_open hv1 HNE.out; (have s0 := hc 0 (by simp)); (have s1 := hc 1 (by simp)); (have s2 := hc 2 (by simp)); simp at s0 s1 s2; clear hc hv1 hv2)
    | (go_at_call 85; refine (HAT.out _ (by repeat (first | with_reducible exact Grew.refl _ | apply Grew.more | apply Grew.alloc | apply Grew.drew | apply Grew.drewN))).mono ?_; rintro e w1 ⟨v3, rfl, RC, nC, rfl⟩)
    | fail)
  refine wp_region_seq 10 Tryz.mixed (by kernel_rfl) (by kernel_rfl) ?_
  iterate 8
    apply Seq.val
    focus
      rintro w1 u ⟨R1, n1, rfl⟩ hF
      simp [moreFacts, Fact.more, Oper.deps, Region.binds, List.filter_cons, World.more_drew] at hF
      simp [putFacts, Oper.deps, Region.binds, List.filter_cons, Region.dstOf, Fact.at, Act.put, World.more_drew]
      go_wp2
      exact ⟨by repeat (first | with_reducible exact Grew.refl _ | apply Grew.more | apply Grew.alloc | apply Grew.drew | apply Grew.drewN), rfl, _, _, rfl, rfl, rfl⟩
  apply Seq.val
  focus
    rintro w1 u ⟨R1, n1, rfl⟩ hF
    simp [moreFacts, Fact.more, Oper.deps, Region.binds, List.filter_cons, World.more_drew] at hF
    simp [putFacts, Oper.deps, Region.binds, List.filter_cons, Region.dstOf, Fact.at, Act.put, World.more_drew]
    go_wp2_with (first
      | (go_at_call 87; go_loud (refine (HPL2.out _ (by repeat (first | with_reducible exact Grew.refl _ | apply Grew.more | apply Grew.alloc | apply Grew.drew | apply Grew.drewN))).mono ?_); rintro e w1 ⟨rfl, R3, n3, rfl⟩)
      )
    exact ⟨by repeat (first | with_reducible exact Grew.refl _ | apply Grew.more | apply Grew.alloc | apply Grew.drew | apply Grew.drewN), rfl, _, _, rfl, rfl, rfl⟩
  iterate 1
    apply Seq.val
    focus
      rintro w1 u ⟨R1, n1, rfl⟩ hF
      simp [moreFacts, Fact.more, Oper.deps, Region.binds, List.filter_cons, World.more_drew] at hF
      simp [putFacts, Oper.deps, Region.binds, List.filter_cons, Region.dstOf, Fact.at, Act.put, World.more_drew]
      go_wp2
      exact ⟨by repeat (first | with_reducible exact Grew.refl _ | apply Grew.more | apply Grew.alloc | apply Grew.drew | apply Grew.drewN), rfl, _, _, rfl, rfl, rfl⟩
  rintro u w1 ⟨R1, n1, rfl⟩ hF
  clear hF
  simp [putFacts, Region.dstOf, Fact.at, Act.put, List.range_succ, World.more_drew]
  go_wp2
  refine bodyPost_ret (v := .agg #[.int .i64 4, .int .i64 ia, .int .i64 0, .slice none 0 0, .slice none 0 0, .int .i64 ib, .int .i64 x0, .int .i64 x1, .int .i64 x2, .int .i64 x3, .int .i64 x4, .int .i64 x5, .int .i64 x6, .int .i64 x7, .bool false]) (by simp [results, Tryz.results36, go_sem]) rfl ⟨_, rfl, (st_mk (base := w.heap.size) (nd_mk (OwnAt.nil _) (OwnAt.nil _) hx)).1, (st_mk (base := w.heap.size) (nd_mk (OwnAt.nil _) (OwnAt.nil _) hx)).2, by repeat (first | with_reducible exact Grew.refl _ | apply Grew.more | apply Grew.alloc | apply Grew.drew | apply Grew.drewN)⟩
set_option maxHeartbeats 16000000 in
theorem pstep_link (s : List UInt8) (w : World) (r a bb : List UInt8) (p : List Val) (h : StepHead s w Li.sLINK r [a, bb] p) : Calls Tryz.prog 36 #[.string ⟨s.toArray⟩] w (StGives ⟨5, ⟨Co.atoiVal a, 0, Li.numsP bb, [], 0, Gr.zeros⟩, false⟩ w) := by
  have HC := Lib.hid h.cut
  have HW := Lib.hid h.words
  have HNE : Hid (([a, bb] : List (List UInt8)) ≠ []) := Lib.hid (by have := h.h1; intro e; rw [e] at this; simp at this)
  have HAT := Lib.hid fun W (q : Grew w W) => atoiL_any (([a, bb] : List (List UInt8)).getD 0 []) (HW0L ([a, bb] : List (List UInt8)) h.h1 h.h3) W (h.env.e.grew q)
  have hra := Co.atoiVal_range (([a, bb] : List (List UInt8)).getD 0 [])
  simp only [List.getD_cons_zero] at HAT hra
  have HNU := Lib.hid fun W (q : Grew w W) => numbers_any bb (h.h3 bb (by simp)) W (h.env.grew q)
  clear h
  generalize Li.numsP bb = fr at *
  generalize Co.atoiVal a = ia at *
  generalize (Lib.cut s [32]).2.2 = cm at *
  go_enter Tryz.func36, Tryz.ntmps36
  go_wp2_with (first
    | (go_at_call 64; refine (HC.out _ (by repeat (first | with_reducible exact Grew.refl _ | apply Grew.more | apply Grew.alloc | apply Grew.drew | apply Grew.drewN))).mono ?_; rintro e w1 ⟨rfl, RA, nA, rfl⟩)
    | (go_at_call 84; refine (HW.out _ (by repeat (first | with_reducible exact Grew.refl _ | apply Grew.more | apply Grew.alloc | apply Grew.drew | apply Grew.drewN))).mono ?_; rintro e w1 ⟨v1, v2, rfl, hv1, hv2, RB, nB, rfl⟩; obtain ⟨ap, cp, rfl⟩ := (OwnAt.rows hv2 encI_len).len; (have HV1 := Lib.hid hv1); (have HV2 := Lib.hid hv2); obtain ⟨b, cap, rfl, hb, hc⟩ := strs_open hv1 HNE.out; (have s0 := hc 0 (by simp)); (have s1 := hc 1 (by simp)); simp at s0 s1; clear hc hv1 hv2)
    | (go_at_call 85; refine (HAT.out _ (by repeat (first | with_reducible exact Grew.refl _ | apply Grew.more | apply Grew.alloc | apply Grew.drew | apply Grew.drewN))).mono ?_; rintro e w1 ⟨v3, rfl, RC, nC, rfl⟩)
    | (go_at_call 88; refine (HNU.out _ (by repeat (first | with_reducible exact Grew.refl _ | apply Grew.more | apply Grew.alloc | apply Grew.drew | apply Grew.drewN))).mono ?_; rintro e w5 ⟨v4, rfl, hv4, RD, nD, rfl⟩; obtain ⟨af, cf, rfl⟩ := (OwnAt.rows hv4 encN_len).len; (have HV4 := Lib.hid hv4); clear hv4))
  have ho : OwnAt w.heap.size 3 1 encN _ (.slice af fr.length cf) fr := OwnAt.low HV4.out (by simp [World.more_size, World.size_alloc]; omega)
  have HO := Lib.hid ho
  clear ho
  refine bodyPost_ret (v := .agg #[.int .i64 5, .int .i64 ia, .int .i64 0, .slice af fr.length cf, .slice none 0 0, .int .i64 0, .int .i64 0, .int .i64 0, .int .i64 0, .int .i64 0, .int .i64 0, .int .i64 0, .int .i64 0, .int .i64 0, .bool false]) (by simp [results, Tryz.results36, go_sem]) rfl ⟨_, rfl, (st_mk (base := w.heap.size) (nd_mk (OwnAt.sw HO.out (by repeat (first | with_reducible exact SwT.refl _ _ | with_reducible apply SwT.more | with_reducible apply SwT.alloc2 | with_reducible apply SwT.alloc | with_reducible apply SwT.drew)) (by decide)) (OwnAt.nil _) rfl)).1, (st_mk (base := w.heap.size) (nd_mk (OwnAt.sw HO.out (by repeat (first | with_reducible exact SwT.refl _ _ | with_reducible apply SwT.more | with_reducible apply SwT.alloc2 | with_reducible apply SwT.alloc | with_reducible apply SwT.drew)) (by decide)) (OwnAt.nil _) rfl)).2, by repeat (first | with_reducible exact Grew.refl _ | apply Grew.more | apply Grew.alloc | apply Grew.drew | apply Grew.drewN)⟩
end Go.Proofs.YtlgbipfpnfphjaaGreatDoor
