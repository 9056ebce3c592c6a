import Derived.Test.YtepfdekppnobaaaGreatSnapBackM
import Derived.Test.YtepfdekppnobaaaGreatMb39
import Derived.Test.YtepfdekppnobaaaGreatMb10
import Derived.Test.YtepfdekppnobaaaGreatMb46
import Derived.Test.YtepfdekppnobaaaGreatMb48
/-! The law SnapBack, walked. -/
-- missing_any packSameM_any map_nocells keepB nil make_nil nocells rel_tasks back_came MapAt moren keep fresh grew_heap rows_keep nodes_keep lit set_other set_self cell_of frozen_of heap_lt grew_cellS
namespace Go.Proofs.YtepfdekppnobaaaGreat
set_option linter.unusedSimpArgs false
set_option linter.unusedVariables false
open Go.RowKit Ga
set_option maxRecDepth 100000

/-- is it more than is played? -/
def greatB (m : Gr.Mf) : Bool := (greatG m.graph || greatP m.plan) || (decide (60 < m.ents.length) || (decide (60 < m.out.length) || decide (20 < m.offs.length)))
theorem greatB_no {m : Gr.Mf} (h : greatB m = false) : (greatG m.graph = false ∧ greatP m.plan = false) ∧ m.ents.length ≤ 60 ∧ m.out.length ≤ 60 ∧ m.offs.length ≤ 20 := by
  unfold greatB at h
  simp only [Bool.or_eq_false_iff, decide_eq_false_iff_not] at h
  exact ⟨h.1, by omega, by omega, by omega⟩
set_option maxHeartbeats 16000000 in
theorem snapBack_great (c : MfC) (m : Gr.Mf) (w : World) (h : MfIs w c m) (hg : greatB m = true) : Calls Tryz.prog 4 #[.agg #[.int .i64 c.epoch, .int .i64 c.plans, .slice c.ao c.no c.co, .slice c.ag c.ng c.cg, .slice c.ae c.ne c.ce, .slice c.ax c.nx c.cx, .slice c.ap c.np c.cp]] w (Gives (.bool true) w) := by
  have hg10 := fun W (g : Grew w W) => great10_any _ _ m.graph m.plan W (h.g.grew g) (h.p.grew g)
  obtain ⟨ep, pl, ao, co, ag, cg, ae, ce, ax, cx, ap, cp, rfl⟩ := h.lit
  clear h
  simp only at hg10
  unfold greatB at hg
  show Calls Tryz.prog _ #[.agg #[.int .i64 ep, .int .i64 pl, .slice ao m.offs.length co, .slice ag m.graph.length cg, .slice ae m.ents.length ce, .slice ax m.out.length cx, .slice ap m.plan.length cp]] w _
  cases hq : (greatG m.graph || greatP m.plan)
  case true =>
    rw [hq] at hg10
    have HG10 := Lib.hid hg10
    clear hg10 hq hg
    go_enter Tryz.func4, Tryz.ntmps4
    go_wp2_with (first
      | (go_at_call 5; refine (awake22_any _).mono ?_; rintro e w1 ⟨rfl, R1, n1, rfl⟩)
      | (go_at_call 21; refine (HG10.out _ (by repeat (first | with_reducible exact Grew.refl _ | apply Grew.more | apply Grew.alloc | apply Grew.drew | apply Grew.drewN))).mono ?_; rintro e w1 ⟨rfl, R2, n2, rfl⟩))
    go_ret
    exact ⟨rfl, by repeat (first | with_reducible exact Grew.refl _ | apply Grew.more | apply Grew.alloc | apply Grew.drew | apply Grew.drewN)⟩
  rw [hq] at hg10 hg
  have HG10 := Lib.hid hg10
  clear hg10 hq
  by_cases h1 : m.ents.length ≤ 60
  case neg =>
    clear hg
    go_enter Tryz.func4, Tryz.ntmps4
    go_wp2_with (first
      | (go_at_call 5; refine (awake22_any _).mono ?_; rintro e w1 ⟨rfl, R1, n1, rfl⟩)
      | (go_at_call 21; refine (HG10.out _ (by repeat (first | with_reducible exact Grew.refl _ | apply Grew.more | apply Grew.alloc | apply Grew.drew | apply Grew.drewN))).mono ?_; rintro e w1 ⟨rfl, R2, n2, rfl⟩))
    go_ret
    exact ⟨rfl, by repeat (first | with_reducible exact Grew.refl _ | apply Grew.more | apply Grew.alloc | apply Grew.drew | apply Grew.drewN)⟩
  by_cases h2 : m.out.length ≤ 60
  case neg =>
    clear hg
    go_enter Tryz.func4, Tryz.ntmps4
    go_wp2_with (first
      | (go_at_call 5; refine (awake22_any _).mono ?_; rintro e w1 ⟨rfl, R1, n1, rfl⟩)
      | (go_at_call 21; refine (HG10.out _ (by repeat (first | with_reducible exact Grew.refl _ | apply Grew.more | apply Grew.alloc | apply Grew.drew | apply Grew.drewN))).mono ?_; rintro e w1 ⟨rfl, R2, n2, rfl⟩))
    go_ret
    exact ⟨rfl, by repeat (first | with_reducible exact Grew.refl _ | apply Grew.more | apply Grew.alloc | apply Grew.drew | apply Grew.drewN)⟩
  by_cases h3 : m.offs.length ≤ 20
  case neg =>
    clear hg
    go_enter Tryz.func4, Tryz.ntmps4
    go_wp2_with (first
      | (go_at_call 5; refine (awake22_any _).mono ?_; rintro e w1 ⟨rfl, R1, n1, rfl⟩)
      | (go_at_call 21; refine (HG10.out _ (by repeat (first | with_reducible exact Grew.refl _ | apply Grew.more | apply Grew.alloc | apply Grew.drew | apply Grew.drewN))).mono ?_; rintro e w1 ⟨rfl, R2, n2, rfl⟩))
    go_ret
    exact ⟨rfl, by repeat (first | with_reducible exact Grew.refl _ | apply Grew.more | apply Grew.alloc | apply Grew.drew | apply Grew.drewN)⟩
  exfalso
  rw [decide_eq_false (show ¬ 60 < m.ents.length by omega), decide_eq_false (show ¬ 60 < m.out.length by omega), decide_eq_false (show ¬ 20 < m.offs.length by omega)] at hg
  cases hg
set_option maxHeartbeats 16000000 in
theorem snapBack_no (c : MfC) (m : Gr.Mf) (w : World) (h : MfIs w c m) (hg : greatB m = false) (hn : rightB m = false ∨ 1073741824 < m.epoch) : Calls Tryz.prog 4 #[.agg #[.int .i64 c.epoch, .int .i64 c.plans, .slice c.ao c.no c.co, .slice c.ag c.ng c.cg, .slice c.ae c.ne c.ce, .slice c.ax c.nx c.cx, .slice c.ap c.np c.cp]] w (Gives (.bool true) w) := by
  obtain ⟨⟨hq8, hqp⟩, he60, ho60, hf20⟩ := greatB_no hg
  have hsm := (great_small hq8).1
  have hps := greatP_small hqp
  have hg10 := fun W (g : Grew w W) => great10_any _ _ m.graph m.plan W (h.g.grew g) (h.p.grew g)
  rw [hq8, hqp] at hg10
  have HR := Lib.hid fun W (g : Grew w W) => manRight_any c m W (h.grew g) hsm hps (by omega)
  have HG10 := Lib.hid hg10
  obtain ⟨ep, pl, ao, co, ag, cg, ae, ce, ax, cx, ap, cp, rfl⟩ := h.lit
  have hep := h.epoch
  simp only at HG10 hep
  rw [hep] at hn
  clear h hg10 hq8 hqp hsm hps hg hep
  show Calls Tryz.prog _ #[.agg #[.int .i64 ep, .int .i64 pl, .slice ao m.offs.length co, .slice ag m.graph.length cg, .slice ae m.ents.length ce, .slice ax m.out.length cx, .slice ap m.plan.length cp]] w _
  cases hr : rightB m
  · rw [hr] at HR
    clear hr hn
    go_enter Tryz.func4, Tryz.ntmps4
    go_wp2_with (first
      | (go_at_call 5; refine (awake22_any _).mono ?_; rintro e w1 ⟨rfl, R1, n1, rfl⟩)
      | (go_at_call 21; refine (HG10.out _ (by repeat (first | with_reducible exact Grew.refl _ | apply Grew.more | apply Grew.alloc | apply Grew.drew | apply Grew.drewN))).mono ?_; rintro e w1 ⟨rfl, R2, n2, rfl⟩)
      | (go_at_call 10; refine (HR.out _ (by repeat (first | with_reducible exact Grew.refl _ | apply Grew.more | apply Grew.alloc | apply Grew.drew | apply Grew.drewN))).mono ?_; rintro e w1 ⟨rfl, R3, n3, rfl⟩))
    go_ret
    exact ⟨rfl, by repeat (first | with_reducible exact Grew.refl _ | apply Grew.more | apply Grew.alloc | apply Grew.drew | apply Grew.drewN)⟩
  · have hn2 : 1073741824 < ep := hn.resolve_left (by rw [hr]; decide)
    rw [hr] at HR
    clear hr hn
    go_enter Tryz.func4, Tryz.ntmps4
    go_wp2_with (first
      | (go_at_call 5; refine (awake22_any _).mono ?_; rintro e w1 ⟨rfl, R1, n1, rfl⟩)
      | (go_at_call 21; refine (HG10.out _ (by repeat (first | with_reducible exact Grew.refl _ | apply Grew.more | apply Grew.alloc | apply Grew.drew | apply Grew.drewN))).mono ?_; rintro e w1 ⟨rfl, R2, n2, rfl⟩)
      | (go_at_call 10; refine (HR.out _ (by repeat (first | with_reducible exact Grew.refl _ | apply Grew.more | apply Grew.alloc | apply Grew.drew | apply Grew.drewN))).mono ?_; rintro e w1 ⟨rfl, R3, n3, rfl⟩))
    go_ret
    exact ⟨rfl, by repeat (first | with_reducible exact Grew.refl _ | apply Grew.more | apply Grew.alloc | apply Grew.drew | apply Grew.drewN)⟩
set_option maxHeartbeats 32000000 in
theorem snapBack_main (c : MfC) (m : Gr.Mf) (w : World) (h : MfIs w c m) (hg : greatB m = false) (hr : rightB m = true) (he : m.epoch ≤ 1073741824) : Calls Tryz.prog 4 #[.agg #[.int .i64 c.epoch, .int .i64 c.plans, .slice c.ao c.no c.co, .slice c.ag c.ng c.cg, .slice c.ae c.ne c.ce, .slice c.ax c.nx c.cx, .slice c.ap c.np c.cp]] w (Gives (.bool true) w) := by
  obtain ⟨⟨hq8, hqp⟩, he60, ho60, hf20⟩ := greatB_no hg
  have hsm := (great_small hq8).1
  have hps := greatP_small hqp
  have hrm := rightB_iff.1 hr
  have hg10 := fun W (g : Grew w W) => great10_any _ _ m.graph m.plan W (h.g.grew g) (h.p.grew g)
  rw [hq8, hqp] at hg10
  have HRI := Lib.hid fun W (g : Grew w W) => manRight_any c m W (h.grew g) hsm hps (by omega)
  have HP := Lib.hid fun W (g : Grew w W) => snapParts_any c m W (h.grew g) hsm hps (by omega)
  rw [hr] at HRI
  have HB := Lib.hid hr
  have HN := Lib.hid fun W (g : Grew w W) => new_any _ m.graph (m.epoch + 1) W (h.g.grew g) hsm
  have hng : Gr.normG m.graph = m.graph := (Gr.norm_unique (List.Perm.refl m.graph) (hrm.so.imp fun q => by omega) hrm.gr.ids hrm.gr.r7).symm
  have h8 := nodes_route h.g
  have HMK := Lib.hid fun (x b n : Nat) ms (W : World) (q : GatherAt W x b n m.graph (m.epoch + 1) ms) hn hml hf (g : Grew w W) => make_nil x b n m.graph (m.epoch + 1) ms (backF m) c m W q hn hml hf (h.grew g) hrm.so hsm (by have := hrm.gr.len; omega)
  rw [back_offs hrm, back_out] at HMK
  have HNEW := Lib.hid (back_new hrm h8)
  have HSRT := Lib.hid fun s hp hso => back_sorted (s := s) hrm.ei (fun x hx => (hrm.en x hx).2.2.2.2) (back_perm hrm h8) hp hso
  have HRM := Lib.hid hrm
  have HGR := Lib.hid hrm.gr
  have HG10 := Lib.hid hg10
  have HH := Lib.hid h
  have HOM : Hid (OkMf ⟨m.epoch + 1, m.plans, m.offs, m.graph, m.ents, [], []⟩) := Lib.hid ⟨hsm, by have := hrm.gr.len; simp only; omega, hrm.so, fun s hs => by cases hs⟩
  have HOK : Hid (okMake ⟨m.epoch + 1, m.plans, m.offs, m.graph, m.ents, [], []⟩ m) := Lib.hid ⟨rightB_iff.2 (back_right hrm he), by simp only; omega, rfl⟩
  have hep0 := hrm.ep.1
  obtain ⟨ep, pl, ao, co, ag, cg, ae, ce, ax, cx, ap, cp, rfl⟩ := h.lit
  have hep := h.epoch
  simp only at HG10 HN HMK hep
  have HEP := Lib.hid hep
  have HPL := Lib.hid h.plans
  rw [hep] at he hep0 HN HMK HOK HOM
  have HNG := Lib.hid hng
  have hl8 := hrm.gr.len
  have htl := tasksOf_len m.graph fun n hn => (right_par hrm.gr n hn).1.2
  clear h hg10 hq8 hqp hsm hps hg hep hr hrm hng h8
  show Calls Tryz.prog _ #[.agg #[.int .i64 ep, .int .i64 pl, .slice ao m.offs.length co, .slice ag m.graph.length cg, .slice ae m.ents.length ce, .slice ax m.out.length cx, .slice ap m.plan.length cp]] w _
  go_enter Tryz.func4, Tryz.ntmps4
  go_wp2_with (first
    | (go_at_call 5; refine (awake22_any _).mono ?_; rintro e w1 ⟨rfl, R1, n1, rfl⟩)
    | (go_at_call 21; refine (HG10.out _ (by repeat (first | with_reducible exact Grew.refl _ | apply Grew.more | apply Grew.alloc | apply Grew.drew | apply Grew.drewN))).mono ?_; rintro e w1 ⟨rfl, R2, n2, rfl⟩)
    | (go_at_call 10; refine (HRI.out _ (by repeat (first | with_reducible exact Grew.refl _ | apply Grew.more | apply Grew.alloc | apply Grew.drew | apply Grew.drewN))).mono ?_; rintro e w1 ⟨rfl, R3, n3, rfl⟩)
    | (go_at_call 8; refine (HN.out _ (by repeat (first | with_reducible exact Grew.refl _ | apply Grew.more | apply Grew.alloc | apply Grew.drew | apply Grew.drewN))).mono ?_; rintro e w1 ⟨-, -, h2⟩; obtain ⟨x, b, rfl, hG, hx, hb, R4, n4, rfl⟩ := h2 HGR.out (by omega); rw [HNG.out] at hG; (have HGA := Lib.hid hG); (have hxw : w.heap.size ≤ x := by simp [World.more_size, World.size_alloc] at hx; omega); (have hbw : w.heap.size + 1 ≤ b := by simp [World.more_size, World.size_alloc] at hb; omega); clear h2 hG hx hb)
    | (go_at_call 22; refine (HP.out _ (by repeat (first | with_reducible exact Grew.refl _ | apply Grew.more | apply Grew.alloc | apply Grew.drew | apply Grew.drewN))).mono ?_; rintro e w1 ⟨-, h1⟩; obtain ⟨a4, k4c, lc, rfl, hpt⟩ := h1 HB.out; obtain ⟨R5, n5, rfl⟩ := hpt.g; (have HPT := Lib.hid hpt); clear h1 hpt)
    | fail)
  have hlc : lc.length ≤ 24 := by
    have h1 := (rel_tasks HPT.out.rel)
    have h2 := congrArg List.length h1
    rw [List.length_map] at h2
    omega
  go_loopg [60] lc.length (fun gg s60 wr => ∃ k : Nat, k ≤ lc.length ∧ lc.length - k ≤ gg ∧ s60 = .int .i64 k ∧ Hid (GatherAt wr x b k m.graph (ep + 1) (cameC m (lc.take k))) ∧ Hid (PtSt w wr (.slice a4 lc.length k4c) lc (ptsOf m.graph m.ents)) ∧ Hid (wr.heap[w.heap.size]? = some (.cells #[.int .i64 ep, .int .i64 pl, .slice ao m.offs.length co, .slice ag m.graph.length cg, .slice ae m.ents.length ce, .slice ax m.out.length cx, .slice ap m.plan.length cp] 42)))
  case atStart => exact ⟨0, by omega, by omega, rfl, Lib.hid (HGA.out.grew (by repeat (first | with_reducible exact Grew.refl _ | apply Grew.more | apply Grew.alloc | apply Grew.drew | apply Grew.drewN))), Lib.hid ((HPT.out.low (by repeat (first | with_reducible exact Grew.refl _ | apply Grew.more | apply Grew.alloc | apply Grew.drew | apply Grew.drewN))).grew (by repeat (first | with_reducible exact Grew.refl _ | apply Grew.more | apply Grew.alloc | apply Grew.drew | apply Grew.drewN))), Lib.hid (grew_heap (by repeat (first | with_reducible exact Grew.refl _ | apply Grew.more | apply Grew.alloc | apply Grew.drew | apply Grew.drewN)) (heap_new_at w _ _ rfl))⟩
  case round =>
    obtain ⟨k, hk, hgg, rfl, HA, HS, HM⟩ := hrel
    rename World => wa
    have m0 := cell_of (o := 0) HM.out
    have m1 := cell_of (o := 1) HM.out
    have m2 := cell_of (o := 2) HM.out
    have m3 := cell_of (o := 3) HM.out
    have m4 := cell_of (o := 4) HM.out
    have m5 := cell_of (o := 5) HM.out
    have m6 := cell_of (o := 6) HM.out
    simp at m0 m1 m2 m3 m4 m5 m6
    have pm := Pre.mk (heap_lt HM.out)
    by_cases hlt : k < lc.length
    · obtain ⟨b9, e1, pb9, c0, c1, c2⟩ := HS.out.open2 hlt
      obtain ⟨i1, i2, i3, i4⟩ := back_index HRM.out HS.out.rel hlt
      have HAD := Lib.hid (back_add HRM.out HS.out.rel hlt)
      have HTK := Lib.hid (show cameC m (lc.take (k + 1)) = _ by rw [List.take_succ_eq_append_getElem hlt, cameC_snoc])
      subst e1
      generalize lc[k] = y at *
      obtain ⟨nd, ix, pa, pn, pc⟩ := y
      simp only at c0 c1 c2 i1 i2 i3 i4
      have HW := Lib.hid i1
      clear i1
      by_cases hz : nd = 0
      case pos =>
        subst hz
        obtain ⟨j, rfl⟩ : ∃ j : Nat, ix = (j : Int) := ⟨ix.toNat, by omega⟩
        have hj : j < m.offs.length := by have := i4 rfl; omega
        obtain ⟨ao', co', e, -, hx⟩ := ints_open (HH.out.o.grew HS.out.g)
        injection e with e1 e2 e3
        obtain ⟨bo, oo, ha, pbo, hof⟩ := hx j hj
        obtain rfl : ao = some ⟨bo, oo, none⟩ := e1.trans ha
        have HCK : Hid (ackC m ⟨0, (j : Int), pa, pn, pc⟩ = ⟨0, (j : Int), ep + 1, pa, pn, pc, none, 0, 0, m.offs[j]⟩) := Lib.hid (by
          simp only [ackC, HEP.out]
          rw [if_pos trivial, Int.toNat_natCast, List.getD_eq_getElem?_getD, List.getElem?_eq_getElem hj]
          rfl)
        rw [HCK.out, HEP.out] at HAD
        rw [HCK.out] at HTK
        clear hx e1 e2 e3 ha i4
        generalize m.offs[j] = ofj at *
        go_wp2_with fail
        have hgw : Grew wa ((wa.alloc (.cells #[.int .i64 0, .int .i64 (j : Int), .slice pa pn pc] 76)).alloc (.cells #[.int .i64 0, .int .i64 (j : Int), .int .i64 (ep + 1), .slice pa pn pc, .slice none 0 0, .int .i64 ofj] 33)) := by repeat (first | with_reducible exact Grew.refl _ | apply Grew.more | apply Grew.alloc | apply Grew.drew | apply Grew.drewN)
        have HGW := Lib.hid hgw
        refine (add_any' w _ x b k m.graph (ep + 1) _ ⟨0, (j : Int), ep + 1, pa, pn, pc, none, 0, 0, ofj⟩ (HA.out.grew HGW.out) (HS.out.g.trans HGW.out) (by omega) (by omega) HW.out).mono ?_
        rintro e w4 ⟨rfl, -, h4⟩
        obtain ⟨h5, h6, h7⟩ := h4 HAD.out
        rw [HAD.out]
        have H5 := Lib.hid h5
        have H6 := Lib.hid h6
        have H7 := Lib.hid h7
        clear h4 h5 h6 h7 hgw
        go_wp2_with fail
        go_roundg (lc.length - (k + 1))
        case measure => omega
        case rel =>
          refine ⟨k + 1, by omega, by omega, by go_num, Lib.hid ?_, Lib.hid ?_, Lib.hid ?_⟩
          · rw [HTK.out]
            exact H5.out
          · exact (HS.out.grew HGW.out).keepB H7.out (map_nocells (HA.out.grew HGW.out).map) H6.out
          · rw [H7.out.2 _ (heap_lt (grew_heap HGW.out HM.out)) (by omega)]
            exact grew_heap HGW.out HM.out
      case neg =>
        have hne : (nd == 0) = false := by simpa using hz
        have HCK : Hid (ackC m ⟨nd, ix, pa, pn, pc⟩ = ⟨nd, ix, ep + 1, pa, pn, pc, none, 0, 0, 0⟩) := Lib.hid (by
          simp only [ackC, HEP.out]
          rw [if_neg hz])
        rw [HCK.out, HEP.out] at HAD
        rw [HCK.out] at HTK
        clear i4 hz
        go_wp2_with fail
        have hgw : Grew wa ((wa.alloc (.cells #[.int .i64 nd, .int .i64 ix, .slice pa pn pc] 76)).alloc (.cells #[.int .i64 nd, .int .i64 ix, .int .i64 (ep + 1), .slice pa pn pc, .slice none 0 0, .int .i64 0] 33)) := by repeat (first | with_reducible exact Grew.refl _ | apply Grew.more | apply Grew.alloc | apply Grew.drew | apply Grew.drewN)
        have HGW := Lib.hid hgw
        refine (add_any' w _ x b k m.graph (ep + 1) _ ⟨nd, ix, ep + 1, pa, pn, pc, none, 0, 0, 0⟩ (HA.out.grew HGW.out) (HS.out.g.trans HGW.out) (by omega) (by omega) HW.out).mono ?_
        rintro e w4 ⟨rfl, -, h4⟩
        obtain ⟨h5, h6, h7⟩ := h4 HAD.out
        rw [HAD.out]
        have H5 := Lib.hid h5
        have H6 := Lib.hid h6
        have H7 := Lib.hid h7
        clear h4 h5 h6 h7 hgw
        go_wp2_with fail
        go_roundg (lc.length - (k + 1))
        case measure => omega
        case rel =>
          refine ⟨k + 1, by omega, by omega, by go_num, Lib.hid ?_, Lib.hid ?_, Lib.hid ?_⟩
          · rw [HTK.out]
            exact H5.out
          · exact (HS.out.grew HGW.out).keepB H7.out (map_nocells (HA.out.grew HGW.out).map) H6.out
          · rw [H7.out.2 _ (heap_lt (grew_heap HGW.out HM.out)) (by omega)]
            exact grew_heap HGW.out HM.out
    · obtain rfl : k = lc.length := by omega
      have hrl := HS.out.rel
      have htk := congrArg List.length (rel_tasks hrl)
      rw [List.length_map] at htk
      have hms : (cameC m lc).length = (tasksOf m.graph).length := by
        unfold cameC
        rw [List.length_reverse, List.length_map, ← htk]
      have hac := back_came HRM.out hrl he60
      rw [List.take_length] at HA
      have HAC := Lib.hid hac
      have HMS := Lib.hid hms
      clear hac hms hrl htk
      go_wp2_with fail
      refine (HMK.out x b lc.length (cameC m lc) _ (HA.out.grew (by repeat (first | with_reducible exact Grew.refl _ | apply Grew.more | apply Grew.alloc | apply Grew.drew | apply Grew.drewN))) (by omega) HMS.out (HAC.out.grew (by repeat (first | with_reducible exact Grew.refl _ | apply Grew.more | apply Grew.alloc | apply Grew.drew | apply Grew.drewN))) (HS.out.g.trans (by repeat (first | with_reducible exact Grew.refl _ | apply Grew.more | apply Grew.alloc | apply Grew.drew | apply Grew.drewN)))).mono ?_
      rintro e w2 ⟨-, h2⟩
      obtain ⟨s, hp, hso, h3, -⟩ := h2 HNEW.out
      obtain rfl := HSRT.out s hp hso
      obtain ⟨c', rfl, hmf, hg2⟩ := h3 HOK.out
      have hlit := hmf.lit
      simp only [List.length_nil] at hlit
      obtain ⟨ep2, pl2, ao2, co2, ag2, cg2, ae2, ce2, ax2, cx2, ap2, cp2, rfl⟩ := hlit
      obtain rfl : ep + 1 = ep2 := hmf.epoch
      have HMF := Lib.hid hmf
      have HG2 : Hid (Grew wa w2) := Lib.hid (Grew.trans (by repeat (first | with_reducible exact Grew.refl _ | apply Grew.more | apply Grew.alloc | apply Grew.drew | apply Grew.drewN)) hg2)
      have hm2 := grew_heap HG2.out HM.out
      have HM2 := Lib.hid hm2
      clear h2 hp hso h3 hmf hg2 m0 m1 m2 m3 m4 m5 m6 pm
      have m0 := cell_of (o := 0) hm2
      have m1 := cell_of (o := 1) hm2
      have m2 := cell_of (o := 2) hm2
      have m3 := cell_of (o := 3) hm2
      have m4 := cell_of (o := 4) hm2
      have m5 := cell_of (o := 5) hm2
      have m6 := cell_of (o := 6) hm2
      simp at m0 m1 m2 m3 m4 m5 m6
      have pm := Pre.mk (heap_lt hm2)
      clear hm2
      go_wp2_with fail
      refine (packSameM_any ⟨ep + 1, pl2, ao2, m.offs.length, co2, ag2, m.graph.length, cg2, ae2, m.ents.length, ce2, ax2, 0, cx2, ap2, 0, cp2⟩ ⟨ep + 1, pl, ao, m.offs.length, co, ag, m.graph.length, cg, ae, m.ents.length, ce, none, 0, 0, none, 0, 0⟩ _ _ _ (HMF.out.grew (by repeat (first | with_reducible exact Grew.refl _ | apply Grew.more | apply Grew.alloc | apply Grew.drew | apply Grew.drewN))) ((fun W (q : Grew w W) => ⟨rfl, HPL.out, HH.out.o.grew q, HH.out.g.grew q, HH.out.e.grew q, RowsAt.nil, StepsAt.nil W⟩ : ∀ W, Grew w W → MfIs W ⟨ep + 1, pl, ao, m.offs.length, co, ag, m.graph.length, cg, ae, m.ents.length, ce, none, 0, 0, none, 0, 0⟩ ⟨ep + 1, m.plans, m.offs, m.graph, m.ents, [], []⟩) _ ((HS.out.g.trans HG2.out).trans (by repeat (first | with_reducible exact Grew.refl _ | apply Grew.more | apply Grew.alloc | apply Grew.drew | apply Grew.drewN)))) HOM.out HOM.out).mono ?_
      rintro e w3 ⟨rfl, R7, n7, rfl⟩
      rw [show eqMf ⟨ep + 1, m.plans, m.offs, m.graph, m.ents, [], []⟩ ⟨ep + 1, m.plans, m.offs, m.graph, m.ents, [], []⟩ = true by unfold eqMf; simp]
      go_wp2_with fail
      refine (missing_any x b lc.length m.graph (ep + 1) (cameC m lc) _ ((HA.out.grew HG2.out).grew (by repeat (first | with_reducible exact Grew.refl _ | apply Grew.more | apply Grew.alloc | apply Grew.drew | apply Grew.drewN))) (by omega)).mono ?_
      rintro e w3 ⟨rfl, R8, n8, rfl⟩
      rw [HMS.out, Int.sub_self]
      go_wp2_with fail
      go_ret
      exact ⟨rfl, (HS.out.g.trans HG2.out).trans (by repeat (first | with_reducible exact Grew.refl _ | apply Grew.more | apply Grew.alloc | apply Grew.drew | apply Grew.drewN))⟩
theorem snapBack_any (c : MfC) (m : Gr.Mf) (w : World) (h : MfIs w c m) : Calls Tryz.prog 4 #[.agg #[.int .i64 c.epoch, .int .i64 c.plans, .slice c.ao c.no c.co, .slice c.ag c.ng c.cg, .slice c.ae c.ne c.ce, .slice c.ax c.nx c.cx, .slice c.ap c.np c.cp]] w (Gives (.bool true) w) := by
  cases hg : greatB m
  · cases hr : rightB m
    · exact snapBack_no c m w h hg (.inl hr)
    · by_cases he : m.epoch ≤ 1073741824
      · exact snapBack_main c m w h hg hr he
      · exact snapBack_no c m w h hg (.inr (by omega))
  · exact snapBack_great c m w h hg
end Go.Proofs.YtepfdekppnobaaaGreat
