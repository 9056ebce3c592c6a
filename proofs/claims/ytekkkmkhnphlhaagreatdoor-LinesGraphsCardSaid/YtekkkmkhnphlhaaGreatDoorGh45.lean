import Derived.Test.YtekkkmkhnphlhaaGreatDoorGh40
import Derived.BigRegion
/-! lines.parseStep: cases. -/
namespace Go.Proofs.YtekkkmkhnphlhaaGreatDoor
set_option linter.unusedSimpArgs false
set_option linter.unusedVariables false
open Go.RowKit Ga
set_option maxRecDepth 100000

set_option maxHeartbeats 16000000 in
theorem pstep_swap (s : List UInt8) (w : World) (r a bb : List UInt8) (p : List Val) (h : StepHead s w Li.sSWAP r [a, bb] p) : Calls Tryz.prog 56 #[.string ⟨s.toArray⟩] w (StGives ⟨1, ⟨Co.atoiVal a, 0, [], p, 0, Gr.zeros⟩, bb == Li.sRESET⟩ w) := by
  have HC := Lib.hid h.cut
  have HW := Lib.hid h.words
  have HNE : Hid (([a, bb] : List (List UInt8)) ≠ []) := Lib.hid (by have := h.h1; intro e; rw [e] at this; simp at this)
  have HAT := Lib.hid fun W (q : Grew w W) => atoiL_any (([a, bb] : List (List UInt8)).getD 0 []) (HW0L ([a, bb] : List (List UInt8)) h.h1 h.h3) W (h.env.e.grew q)
  have hra := Co.atoiVal_range (([a, bb] : List (List UInt8)).getD 0 [])
  simp only [List.getD_cons_zero] at HAT hra
  clear h
  generalize Co.atoiVal a = ia at *
  generalize (Lib.cut s [32]).2.2 = cm at *
  go_enter Tryz.func56, Tryz.ntmps56
  go_wp2_with (first
    | (go_at_call 80; refine (HC.out _ (by repeat (first | with_reducible exact Grew.refl _ | apply Grew.more | apply Grew.alloc | apply Grew.drew | apply Grew.drewN))).mono ?_; rintro e w1 ⟨rfl, RA, nA, rfl⟩)
    | (go_at_call 111; refine (HW.out _ (by repeat (first | with_reducible exact Grew.refl _ | apply Grew.more | apply Grew.alloc | apply Grew.drew | apply Grew.drewN))).mono ?_; rintro e w1 ⟨v1, v2, rfl, hv1, hv2, RB, nB, rfl⟩; obtain ⟨ap, cp, rfl⟩ := (OwnAt.rows hv2 encI_len).len; (have HV1 := Lib.hid hv1); (have HV2 := Lib.hid hv2); obtain ⟨b, cap, rfl, hb, hc⟩ := strs_open hv1 HNE.out; (have s0 := hc 0 (by simp)); (have s1 := hc 1 (by simp)); simp at s0 s1; clear hc hv1 hv2)
    | (go_at_call 116; refine (HAT.out _ (by repeat (first | with_reducible exact Grew.refl _ | apply Grew.more | apply Grew.alloc | apply Grew.drew | apply Grew.drewN))).mono ?_; rintro e w1 ⟨v3, rfl, RC, nC, rfl⟩)
    | fail)
  have HOP := Lib.hid (OwnAt.low HV2.out (show w.heap.size ≤ _ by simp [World.more_size, World.size_alloc]; omega))
  have HOP2 : Hid (∀ A', OwnAt w.heap.size 142 2 encI (((w.alloc (.cells A' 62)).more RA nA).more RB nB) (.slice ap p.length cp) p) := Lib.hid fun A' => OwnAt.sw HOP.out (SwT.more (SwT.more (SwT.alloc2 (SwT.refl _ w) _ _) RA nA nA) RB nB nB) (by decide)
  clear HOP
  go_region
  go_wp2
  refine bodyPost_ret (v := .agg #[.int .i64 1, .int .i64 ia, .int .i64 0, .slice none 0 0, .slice ap p.length cp, .int .i64 0, .int .i64 0, .int .i64 0, .int .i64 0, .int .i64 0, .int .i64 0, .int .i64 0, .int .i64 0, .int .i64 0, .bool (bb == Li.sRESET)]) (by simp [results, Tryz.results56, go_sem, Li.sRESET]) rfl ⟨_, rfl, (st_mk (base := w.heap.size) (nd_mk (OwnAt.nil _) ((HOP2.out _).grew (by repeat (first | with_reducible exact Grew.refl _ | apply Grew.more | apply Grew.alloc | apply Grew.drew | apply Grew.drewN))) rfl)).1, (st_mk (base := w.heap.size) (nd_mk (OwnAt.nil _) ((HOP2.out _).grew (by repeat (first | with_reducible exact Grew.refl _ | apply Grew.more | apply Grew.alloc | apply Grew.drew | apply Grew.drewN))) rfl)).2, by repeat (first | with_reducible exact Grew.refl _ | apply Grew.more | apply Grew.alloc | apply Grew.drew | apply Grew.drewN)⟩
set_option maxHeartbeats 16000000 in
theorem pstep_add (s : List UInt8) (w : World) (r : List UInt8) (ws : List (List UInt8)) (p : List Val) (h : StepHead s w Li.sADD r ws p) : Calls Tryz.prog 56 #[.string ⟨s.toArray⟩] w (StGives ⟨2, Li.nodeP ws p, false⟩ w) := by
  have HC := Lib.hid h.cut
  have HW := Lib.hid h.words
  have HNE : Hid (ws ≠ []) := Lib.hid (by have := h.h1; intro e; rw [e] at this; simp at this)
  have HAT := Lib.hid fun W (q : Grew w W) => atoiL_any (ws.getD 0 []) (HW0L ws h.h1 h.h3) W (h.env.e.grew q)
  have hra := Co.atoiVal_range (ws.getD 0 [])
  have HPOS := Lib.hid (show 0 < ws.length by have := h.h1; omega)
  have HW0 := Lib.hid (getD_zero ws [] HPOS.out)
  have HND := Lib.hid fun W (q : Grew w W) v1 v2 (h1 : OwnAt w.heap.size 9 1 encS W v1 ws) (h2 : OwnAt w.heap.size 142 2 encI W v2 p) => lnode_any w.heap.size v1 v2 ws p h.h1 (by have := h.h2; omega) h.h3 W (h.env.grew q) h1 h2 q.below.size
  clear h
  generalize Li.nodeP ws p = n at *
  generalize ws.getD 0 [] = a0 at *
  generalize Co.atoiVal a0 = ia at *
  generalize (Lib.cut s [32]).2.2 = cm at *
  go_enter Tryz.func56, Tryz.ntmps56
  go_wp2_with (first
    | (go_at_call 80; refine (HC.out _ (by repeat (first | with_reducible exact Grew.refl _ | apply Grew.more | apply Grew.alloc | apply Grew.drew | apply Grew.drewN))).mono ?_; rintro e w1 ⟨rfl, RA, nA, rfl⟩)
    | (go_at_call 111; refine (HW.out _ (by repeat (first | with_reducible exact Grew.refl _ | apply Grew.more | apply Grew.alloc | apply Grew.drew | apply Grew.drewN))).mono ?_; rintro e w1 ⟨v1, v2, rfl, hv1, hv2, RB, nB, rfl⟩; obtain ⟨ap, cp, rfl⟩ := (OwnAt.rows hv2 encI_len).len; (have HV1 := Lib.hid hv1); (have HV2 := Lib.hid hv2); obtain ⟨b, cap, rfl, hb, hc⟩ := strs_open hv1 HNE.out; (have s0 := hc 0 HPOS.out); rw [HW0.out] at s0; clear hc hv1 hv2)
    | (go_at_call 116; refine (HAT.out _ (by repeat (first | with_reducible exact Grew.refl _ | apply Grew.more | apply Grew.alloc | apply Grew.drew | apply Grew.drewN))).mono ?_; rintro e w1 ⟨v3, rfl, RC, nC, rfl⟩)
    | (go_at_call 112; refine (HND.out _ (by repeat (first | with_reducible exact Grew.refl _ | apply Grew.more | apply Grew.alloc | apply Grew.drew | apply Grew.drewN)) _ _ ((OwnAt.low HV1.out (by simp [World.more_size, World.size_alloc]; omega)).grew (by repeat (first | with_reducible exact Grew.refl _ | apply Grew.more | apply Grew.alloc | apply Grew.drew | apply Grew.drewN))) ((OwnAt.low HV2.out (by simp [World.more_size, World.size_alloc]; omega)).grew (by repeat (first | with_reducible exact Grew.refl _ | apply Grew.more | apply Grew.alloc | apply Grew.drew | apply Grew.drewN)))).mono ?_; rintro e w5 ⟨c, rfl, hn, ho, RD, nD, rfl⟩; (have HN := Lib.hid hn); (have HO := Lib.hid ho); clear hn ho))
  refine bodyPost_ret (v := .agg #[.int .i64 2, .int .i64 c.id, .int .i64 c.kind, .slice c.af c.nf c.cf, .slice c.ap c.np c.cp, .int .i64 c.par, .int .i64 c.r0, .int .i64 c.r1, .int .i64 c.r2, .int .i64 c.r3, .int .i64 c.r4, .int .i64 c.r5, .int .i64 c.r6, .int .i64 c.r7, .bool false]) (by simp [results, Tryz.results56, go_sem]) rfl ⟨⟨2, c, false⟩, rfl, ⟨rfl, (OwnsNd.sw HO.out (by repeat (first | with_reducible exact SwT.refl _ _ | with_reducible apply SwT.more | with_reducible apply SwT.alloc2 | with_reducible apply SwT.alloc | with_reducible apply SwT.drew))).is HN.out, rfl⟩, OwnsNd.sw HO.out (by repeat (first | with_reducible exact SwT.refl _ _ | with_reducible apply SwT.more | with_reducible apply SwT.alloc2 | with_reducible apply SwT.alloc | with_reducible apply SwT.drew)), by repeat (first | with_reducible exact Grew.refl _ | apply Grew.more | apply Grew.alloc | apply Grew.drew | apply Grew.drewN)⟩
end Go.Proofs.YtekkkmkhnphlhaaGreatDoor
