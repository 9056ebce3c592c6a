import Derived.Test.YtmdmbimfdpngaaaGreatMs51
import Derived.Test.YtmdmbimfdpngaaaGreatMs47
import Derived.Test.YtmdmbimfdpngaaaGreatMs8
import Derived.Test.YtmdmbimfdpngaaaGreatMs12
/-! The law SnapParts, walked: right manifests. -/
namespace Go.Proofs.YtmdmbimfdpngaaaGreat
set_option linter.unusedSimpArgs false
set_option linter.unusedVariables false
open Go.RowKit Ga
set_option maxRecDepth 100000

set_option maxHeartbeats 16000000 in
theorem snapParts_C (c : MfC) (m : Gr.Mf) (w : World) (h : MfIs w c m) (hg : greatS m = false) (hb : rightB m = true) : Calls Tryz.prog 3 #[.agg #[.int .i64 c.epoch, .int .i64 c.plans, .slice c.ao c.no c.co, .slice c.ag c.ng c.cg, .slice c.ae c.ne c.ce, .slice c.ax c.nx c.cx, .slice c.ap c.np c.cp]] w (Gives (.bool true) w) := by
  have hrm := rightB_iff.1 hb
  have hr := hrm.gr
  obtain ⟨⟨hq8, hqp⟩, he60, ho60, hf20⟩ := greatS_no hg
  have hsm := (great_small hq8).1
  have hps := greatP_small hqp
  have hg10 := fun W (g : Grew w W) => great10_any _ _ m.graph m.plan W (h.g.grew g) (h.p.grew g)
  have hg8 := fun W (g : Grew w W) => great08_any _ m.graph W (h.g.grew g)
  rw [hq8, hqp] at hg10
  rw [hq8] at hg8
  have HP := Lib.hid fun W (g : Grew w W) => snapParts_any c m W (h.grew g) hsm hps (by omega)
  have HF := Lib.hid fun W (g : Grew w W) => first_any _ m.graph W (h.g.grew g) hsm
  have HCK := Lib.hid fun W (g : Grew w W) => refCheck08_any _ m.graph W (h.g.grew g)
  have HRM := Lib.hid fun W (g : Grew w W) => refRight13_any c m W (h.grew g)
  have HG10 := Lib.hid hg10
  have HG8 := Lib.hid hg8
  have HH := Lib.hid h
  obtain ⟨ep, pl, ao, co, ag, cg, ae, ce, ax, cx, ap, cp, rfl⟩ := h.lit
  simp only at HG10 HG8 HF HCK
  clear h hg10 hg8 hq8 hqp hsm hps hg
  show Calls Tryz.prog _ #[.agg #[.int .i64 ep, .int .i64 pl, .slice ao m.offs.length co, .slice ag m.graph.length cg, .slice ae m.ents.length ce, .slice ax m.out.length cx, .slice ap m.plan.length cp]] w _
  rw [hb] at HRM
  rw [checkR_nil hr] at HCK
  have HB := Lib.hid hb
  have HR := Lib.hid hr
  have HRM2 := Lib.hid hrm
  have HRF := Lib.hid fun W a1 c1 a2 c2 h1 h2 => refRight13_any _ _ W (firstIs (g := m.graph) (W := W) (a1 := a1) (c1 := c1) (a2 := a2) (c2 := c2) h1 h2)
  rw [first_right hr] at HRF
  have hpr := parOf_range hr
  have hl8 := hr.len
  have HPAR := Lib.hid (right_par hr)
  clear hb hr hrm
  go_enter Tryz.func3, Tryz.ntmps3
  go_wp2_with (first
    | (go_at_call 7; refine (awake22_any _).mono ?_; rintro e w1 ⟨rfl, R1, n1, rfl⟩)
    | (go_at_call 8; refine (HG10.out _ (by repeat (first | with_reducible exact Grew.refl _ | apply Grew.more | apply Grew.alloc | apply Grew.drew | apply Grew.drewN))).mono ?_; rintro e w1 ⟨rfl, R2, n2, rfl⟩)
    | (go_at_call 9; refine (HG8.out _ (by repeat (first | with_reducible exact Grew.refl _ | apply Grew.more | apply Grew.alloc | apply Grew.drew | apply Grew.drewN))).mono ?_; rintro e w1 ⟨rfl, R3, n3, rfl⟩)
    | (go_at_call 10; refine (HP.out _ (by repeat (first | with_reducible exact Grew.refl _ | apply Grew.more | apply Grew.alloc | apply Grew.drew | apply Grew.drewN))).mono ?_; rintro e w1 ⟨-, h1⟩; obtain ⟨a4, k4c, lc, rfl, hpt⟩ := h1 HB.out; obtain ⟨R4, n4, rfl⟩ := hpt.g; (have HPT := Lib.hid hpt); clear h1 hpt)
    | (go_at_call 11; refine (HF.out _ (by repeat (first | with_reducible exact Grew.refl _ | apply Grew.more | apply Grew.alloc | apply Grew.drew | apply Grew.drewN))).mono ?_; rintro e w1 ⟨h2, -, R5, n5, rfl⟩; obtain ⟨a5, c5, a6, c6, rfl, hi5, hn5⟩ := h2 HR.out; (have HI5 := Lib.hid hi5); (have HN5 := Lib.hid hn5); clear h2 hi5 hn5)
    | (go_at_call 12; refine (HCK.out _ (by repeat (first | with_reducible exact Grew.refl _ | apply Grew.more | apply Grew.alloc | apply Grew.drew | apply Grew.drewN))).mono ?_; rintro e w1 ⟨rfl, R6, n6, rfl⟩)
    | fail)
  refine (HRF.out _ _ _ _ _ (HI5.out.grew (by repeat (first | with_reducible exact Grew.refl _ | apply Grew.more | apply Grew.alloc | apply Grew.drew | apply Grew.drewN))) (HN5.out.grew (by repeat (first | with_reducible exact Grew.refl _ | apply Grew.more | apply Grew.alloc | apply Grew.drew | apply Grew.drewN)))).mono ?_
  rintro e w1 ⟨rfl, R7, n7, rfl⟩
  have hl0 : (0 : Int) + 0 + 0 + 0 = 0 := rfl
  go_wp2_with (go_at_call 13; refine (HRM.out _ (by repeat (first | with_reducible exact Grew.refl _ | apply Grew.more | apply Grew.alloc | apply Grew.drew | apply Grew.drewN))).mono ?_; rintro e w1 ⟨rfl, R8, n8, rfl⟩)
  have HPL := Lib.hid fun k => ptsOf_len (m.graph.take k) m.ents fun n hn => (HPAR.out n (List.mem_of_mem_take hn)).1.2
  have HCN := Lib.hid (right_cnt HRM2.out (nodes_route HH.out.g))
  go_loopg [6, 7, 94] m.graph.length (fun gg s6 s7 s94 wr => ∃ k : Nat, k ≤ m.graph.length ∧ m.graph.length - k ≤ gg ∧ s94 = .int .i64 k ∧ s7 = .int .i64 (ptsOf (m.graph.take k) m.ents).length ∧ s6 = .int .i64 (cntP (ptsOf (m.graph.take k) m.ents)) ∧ Hid (PtSt w wr (.slice a4 lc.length k4c) lc (ptsOf m.graph m.ents)) ∧ Hid (wr.heap[w.heap.size]? = some (.cells #[.int .i64 ep, .int .i64 pl, .slice ao m.offs.length co, .slice ag m.graph.length cg, .slice ae m.ents.length ce, .slice ax m.out.length cx, .slice ap m.plan.length cp] 28)))
  case atStart => exact ⟨0, by omega, by omega, rfl, rfl, rfl, Lib.hid ((HPT.out.low (by repeat (first | with_reducible exact Grew.refl _ | apply Grew.more | apply Grew.alloc | apply Grew.drew | apply Grew.drewN))).grew (by repeat (first | with_reducible exact Grew.refl _ | apply Grew.more | apply Grew.alloc | apply Grew.drew | apply Grew.drewN))), Lib.hid (grew_heap (by repeat (first | with_reducible exact Grew.refl _ | apply Grew.more | apply Grew.alloc | apply Grew.drew | apply Grew.drewN)) (heap_new_at _ _ _ rfl))⟩
  case round =>
    obtain ⟨k, hk, hgg, rfl, rfl, rfl, HS, HB1⟩ := hrel
    rename World => wa
    by_cases hlt : k < m.graph.length
    · obtain ⟨a', cap', e, -, hx⟩ := (HH.out.g.grew HS.out.g).openC
      injection e with e1 e2 e3
      obtain ⟨b, off, c, ha, hb, hn, c0, c1, c2, c3, c4, c5, c6, c7, c8, c9, c10, c11, c12⟩ := hx k hlt
      obtain rfl : ag = some ⟨b, off, none⟩ := e1.trans ha
      obtain ⟨⟨p1, p3⟩, hrt⟩ := HPAR.out _ (List.getElem_mem hlt)
      have HTK := Lib.hid (show ptsOf (m.graph.take (k + 1)) m.ents = _ by rw [List.take_succ_eq_append_getElem hlt, ptsOf_snoc])
      have HGET := Lib.hid fun j (hj : j < m.graph[k].par.toNat) => ptsOf_get (l := m.ents) hlt hj
      have hln := HPL.out k
      rw [List.length_take, Nat.min_eq_left hk] at hln
      have hcn : cntP (ptsOf (m.graph.take k) m.ents) ≤ (ptsOf (m.graph.take k) m.ents).length * m.ents.length := cntP_le ptsOf_mem
      have hcn2 := Nat.le_trans hcn (Nat.mul_le_mul (show (ptsOf (m.graph.take k) m.ents).length ≤ 24 by omega) he60)
      have hrl := hn.route
      have hid := hn.id
      have hpar := hn.par
      clear hx e1 e2 e3 ha hcn
      generalize m.graph[k] = y at *
      obtain ⟨cid, kind, af, nf, cf, apr, np, cpr, par, r0, r1, r2, r3, r4, r5, r6, r7⟩ := c
      simp only at c0 c1 c2 c3 c4 c5 c6 c7 c8 c9 c10 c11 c12 hid hpar hrl
      obtain ⟨p, hp⟩ : ∃ p : Nat, par = (p : Int) := ⟨par.toNat, by omega⟩
      subst hp
      have hpn : y.par.toNat = p := by omega
      have HPN := Lib.hid hpn
      have hp3 : p ≤ 3 := by omega
      have HID := Lib.hid hid
      have HTO : Hid (∀ ky : Int, Gr.taskOf y ky = [r0, r1, r2, r3, r4, r5, r6, r7].getD (ky % 8).toNat 0) := Lib.hid fun ky => by unfold Gr.taskOf; rw [hrl]
      generalize hI : (ptsOf (m.graph.take k) m.ents).length = I at *
      generalize hC : cntP (ptsOf (m.graph.take k) m.ents) = C at *
      have HI := Lib.hid hI
      have HC := Lib.hid hC
      clear hid hpar p1 p3 hn hpn hrt hrl hI hC
      go_wp2
      go_loopg [6, 7, 10] p (fun gg2 s6' s7' s10 wr2 => ∃ j i9 cc : Nat, j ≤ p ∧ p - j ≤ gg2 ∧ s10 = .int .i64 j ∧ s7' = .int .i64 (i9 : Int) ∧ s6' = .int .i64 (cc : Int) ∧ Hid (i9 = I + j) ∧ Hid (cc = C + cntP ((List.range j).map fun t => (y.id, t, Gr.partE y (t : Nat) m.ents))) ∧ Hid (PtSt w wr2 (.slice a4 lc.length k4c) lc (ptsOf m.graph m.ents)) ∧ Hid (wr2.heap[w.heap.size]? = wa.heap[w.heap.size]?) ∧ Hid (wr2.heap[wa.heap.size]? = some (.cells #[.int .i64 cid, .int .i64 kind, .slice af nf cf, .slice apr np cpr, .int .i64 (p : Int), .int .i64 r0, .int .i64 r1, .int .i64 r2, .int .i64 r3, .int .i64 r4, .int .i64 r5, .int .i64 r6, .int .i64 r7] 42)))
      case atStart => exact ⟨0, I, C, by omega, by omega, rfl, rfl, rfl, Lib.hid rfl, Lib.hid rfl, Lib.hid (HS.out.grew (by repeat (first | with_reducible exact Grew.refl _ | apply Grew.more | apply Grew.alloc | apply Grew.drew | apply Grew.drewN))), Lib.hid ((grew_heap (by repeat (first | with_reducible exact Grew.refl _ | apply Grew.more | apply Grew.alloc | apply Grew.drew | apply Grew.drewN)) HB1.out).trans HB1.out.symm), Lib.hid (heap_new_at _ _ _ rfl)⟩
      case round =>
        obtain ⟨j, i9, cc, hj, hgg2, rfl, rfl, rfl, HI9, HCC, HS2, HB2, HN2⟩ := hrel
        rename World => wb
        have d0 := cell_of (o := 0) HN2.out
        have d4 := cell_of (o := 4) HN2.out
        simp at d0 d4
        have pd := Pre.mk (heap_lt HN2.out)
        have k4 := cell_of (o := 4) (HB2.out.trans HB1.out)
        simp at k4
        have pk := Pre.mk (heap_lt (HB2.out.trans HB1.out))
        by_cases hlt2 : j < p
        · have hjn : j < y.par.toNat := by rw [HPN.out]; exact hlt2
          have hget := HGET.out j hjn
          rw [← HI9.out] at hget
          have HGT := Lib.hid hget
          have hcl : cntP ((List.range j).map fun t => (y.id, t, Gr.partE y (t : Nat) m.ents)) ≤ 3 * 60 := by
            refine Nat.le_trans (cntP_le (n := 60) fun q hq => ?_) (Nat.mul_le_mul (by rw [List.length_map, List.length_range]; omega) (Nat.le_refl _))
            obtain ⟨t, -, rfl⟩ := List.mem_map.1 hq
            exact Nat.le_trans (List.length_filter_le _ _) he60
          have hcc : cc ≤ 5000 := by have := HCC.out; omega
          have hi9 : i9 ≤ 100 := by have := HI9.out; omega
          clear hget hjn hcl
          go_wp2
          go_loopg [11, 107] m.ents.length (fun gg3 s11 s107 wr3 => ∃ i : Nat, i ≤ m.ents.length ∧ m.ents.length - i ≤ gg3 ∧ s107 = .int .i64 i ∧ Hid (Grew wb wr3) ∧ Hid (OwnAt wb.heap.size 47 6 encEn wr3 s11 (Gr.partE y (j : Int) (m.ents.take i))))
          case atStart => exact ⟨0, by omega, by omega, rfl, Lib.hid (Grew.refl _), Lib.hid (OwnAt.nil _)⟩
          case round =>
            obtain ⟨i, hi, hgg3, rfl, HG3, HO3⟩ := hrel
            rename World => wv
            have hn3 := grew_heap HG3.out HN2.out
            have f0 := cell_of (o := 0) hn3
            simp at f0
            have pf := Pre.mk (heap_lt hn3)
            by_cases hlt3 : i < m.ents.length
            · obtain ⟨a', cap', e, -, hx⟩ := EntsAt.open6 (HH.out.e.grew (HS2.out.g.trans HG3.out))
              injection e with e1 e2 e3
              obtain ⟨be, offe, ha, hbe, g0, g1, g2, g3, g4, g5⟩ := hx i hlt3
              obtain rfl : ae = some ⟨be, offe, none⟩ := e1.trans ha
              have hky := (HRM2.out.en _ (List.getElem_mem hlt3)).2.1
              have HTE := Lib.hid (List.take_succ_eq_append_getElem hlt3)
              have hql : (Gr.partE y (j : Int) (m.ents.take i)).length ≤ 60 := Nat.le_trans (List.length_filter_le _ _) (by rw [List.length_take]; omega)
              clear hx e1 e2 e3 ha
              generalize m.ents[i] = x at *
              obtain ⟨xn, ky, ⟨p0, q0⟩, ⟨p1, q1⟩⟩ := x
              simp only at g0 g1 g2 g3 g4 g5 hky
              by_cases hid2 : xn = cid
              case neg =>
                have hne : (xn == cid) = false := by simpa using hid2
                have HSK : Hid (Gr.partE y (j : Int) (m.ents.take (i + 1)) = Gr.partE y (j : Int) (m.ents.take i)) := Lib.hid (by rw [HTE.out]; exact partE_skip (by rw [HID.out]; exact hid2))
                clear hid2 hky hn3
                go_wp2
                go_roundg (m.ents.length - (i + 1))
                case measure => omega
                case rel => exact ⟨i + 1, by omega, by omega, by go_num, Lib.hid (HG3.out.trans (by repeat (first | with_reducible exact Grew.refl _ | apply Grew.more | apply Grew.alloc | apply Grew.drew | apply Grew.drewN))), Lib.hid (by rw [HSK.out]; exact OwnAt.grew HO3.out (by repeat (first | with_reducible exact Grew.refl _ | apply Grew.more | apply Grew.alloc | apply Grew.drew | apply Grew.drewN)))⟩
              subst hid2
              obtain ⟨g, hg⟩ : ∃ g : Nat, (ky % 8).toNat = g := ⟨_, rfl⟩
              have hg8 : g < 8 := by omega
              have htm : ky.tmod 8 = (g : Int) := by rw [Int.tmod_eq_emod_of_nonneg hky.1]; omega
              have cg : ∀ tv, [r0, r1, r2, r3, r4, r5, r6, r7].getD g 0 = tv → wv.cell? ⟨wa.heap.size, 5 + g, none⟩ = some (.int .i64 tv) := fun tv h => by
                rw [cell_of hn3, ← h]
                rcases (show g = 0 ∨ g = 1 ∨ g = 2 ∨ g = 3 ∨ g = 4 ∨ g = 5 ∨ g = 6 ∨ g = 7 by omega) with rfl | rfl | rfl | rfl | rfl | rfl | rfl | rfl <;> rfl
              have hto := HTO.out ky
              rw [hg] at hto
              obtain ⟨tv, htv⟩ : ∃ tv, [r0, r1, r2, r3, r4, r5, r6, r7].getD g 0 = tv := ⟨_, rfl⟩
              rw [htv] at hto
              have cgv := cg tv htv
              have HTV := Lib.hid hto
              clear cg hto htv hg hn3 hky
              by_cases h5 : tv = (j : Int)
              case neg =>
                have hne : (tv == (j : Int)) = false := by simpa using h5
                have HSK : Hid (Gr.partE y (j : Int) (m.ents.take (i + 1)) = Gr.partE y (j : Int) (m.ents.take i)) := Lib.hid (by rw [HTE.out]; exact partE_other (by rw [HTV.out]; exact h5))
                clear h5
                go_wp2
                go_roundg (m.ents.length - (i + 1))
                case measure => omega
                case rel => exact ⟨i + 1, by omega, by omega, by go_num, Lib.hid (HG3.out.trans (by repeat (first | with_reducible exact Grew.refl _ | apply Grew.more | apply Grew.alloc | apply Grew.drew | apply Grew.drewN))), Lib.hid (by rw [HSK.out]; exact OwnAt.grew HO3.out (by repeat (first | with_reducible exact Grew.refl _ | apply Grew.more | apply Grew.alloc | apply Grew.drew | apply Grew.drewN)))⟩
              subst h5
              have HSK : Hid (Gr.partE y (j : Int) (m.ents.take (i + 1)) = Gr.partE y (j : Int) (m.ents.take i) ++ [⟨xn, ky, (p0, q0), (p1, q1)⟩]) := Lib.hid (by rw [HTE.out]; exact partE_take (by rw [HID.out]) HTV.out)
              generalize Gr.partE y (j : Int) (m.ents.take i) = q at *
              go_wp2_with (at_builtin; go_loud (refine wpList_ownK (w0 := wb) rfl (.tmp 126) (.tmp 128) 24 _ _ _ _ [⟨xn, ky, (p0, q0), (p1, q1)⟩] rfl Tryz.underlying24 infoEn rfl (by decide) encEn_len encEn_one rfl (OwnAt.grew HO3.out (by repeat (first | with_reducible exact Grew.refl _ | apply Grew.more | apply Grew.alloc | apply Grew.drew | apply Grew.drewN))) (HG3.out.trans (by repeat (first | with_reducible exact Grew.refl _ | apply Grew.more | apply Grew.alloc | apply Grew.drew | apply Grew.drewN))) rfl (en_at _ _ _ _ rfl (by simp [go_sem])) (by simp; omega) (by decide) (by simp) ?_); intro v7 W7 hA; (have HA := Lib.hid hA); clear hA)
              go_roundg (m.ents.length - (i + 1))
              case measure => omega
              case rel => exact ⟨i + 1, by omega, by omega, by go_num, Lib.hid HA.out.1, Lib.hid (by rw [HSK.out]; exact HA.out.2.1)⟩
            · obtain rfl : i = m.ents.length := by omega
              have ho := HO3.out
              rw [List.take_length] at ho
              obtain ⟨aw, cw, rfl⟩ := (OwnAt.rows ho encEn_len).len
              obtain ⟨b9, x9, hb9, hi9l, pb9, hx9, e0, e1, e2⟩ := PtSt.open' (HS2.out.grew HG3.out) HGT.out
              obtain ⟨h1, h2, h3, h4⟩ := hx9.same
              have HSM := Lib.hid fun W (gw : Grew wv W) => refSame07_self _ _ _ W (h4.grew gw) ((OwnAt.rows ho encEn_len).grew gw)
              subst hb9
              obtain ⟨xn9, xi9, xa9, xl9, xc9⟩ := x9
              simp only at h1 h2 h3 e0 e1 e2 HSM
              subst h2 h3
              have hnn : xn9 = cid := h1.trans HID.out
              subst hnn
              have hql : (Gr.partE y (j : Int) m.ents).length ≤ 60 := Nat.le_trans (List.length_filter_le _ _) he60
              have HQ : Hid (cntP ((List.range (j + 1)).map fun t => (y.id, t, Gr.partE y (t : Nat) m.ents)) = cntP ((List.range j).map fun t => (y.id, t, Gr.partE y (t : Nat) m.ents)) + (Gr.partE y (j : Int) m.ents).length) := Lib.hid (by rw [List.range_succ, List.map_append, cntP_append]; rfl)
              have HO9 := Lib.hid ho
              clear h1 h4 hx9 ho hn3
              have hw9 : (OwnAt wb.heap.size 47 6 encEn wv (.slice aw (Gr.partE y (j : Int) m.ents).length cw) (Gr.partE y (j : Int) m.ents)) := HO9.out
              clear hw9
              generalize Gr.partE y (j : Int) m.ents = q at *
              go_wp2
              refine wp_region_seq 33 Tryz.mixed (by kernel_rfl) (by kernel_rfl) ?_
              iterate 30
                apply Seq.val
                focus
                  rintro w1 u ⟨R1, n1, rfl⟩ hF
                  simp [moreFacts, Fact.more, Oper.deps, Region.binds, List.filter_cons, World.more_drew] at hF
                  simp [putFacts, Oper.deps, Region.binds, List.filter_cons, Region.dstOf, Fact.at, Act.put, World.more_drew]
                  go_wp2
                  exact ⟨by repeat (first | with_reducible exact Grew.refl _ | apply Grew.more | apply Grew.alloc | apply Grew.drew | apply Grew.drewN), rfl, _, _, rfl, rfl, rfl⟩
              apply Seq.val
              focus
                rintro w1 u ⟨R1, n1, rfl⟩ hF
                simp [moreFacts, Fact.more, Oper.deps, Region.binds, List.filter_cons, World.more_drew] at hF
                simp [putFacts, Oper.deps, Region.binds, List.filter_cons, Region.dstOf, Fact.at, Act.put, World.more_drew]
                go_wp2_with (first
                  | (go_at_call 14; go_loud (refine (HSM.out _ (by repeat (first | with_reducible exact Grew.refl _ | apply Grew.more | apply Grew.alloc | apply Grew.drew | apply Grew.drewN))).mono ?_); rintro e w2 ⟨rfl, R3, n3, rfl⟩)
                  )
                exact ⟨by repeat (first | with_reducible exact Grew.refl _ | apply Grew.more | apply Grew.alloc | apply Grew.drew | apply Grew.drewN), rfl, _, _, rfl, rfl, rfl⟩
              iterate 2
                apply Seq.val
                focus
                  rintro w1 u ⟨R1, n1, rfl⟩ hF
                  simp [moreFacts, Fact.more, Oper.deps, Region.binds, List.filter_cons, World.more_drew] at hF
                  simp [putFacts, Oper.deps, Region.binds, List.filter_cons, Region.dstOf, Fact.at, Act.put, World.more_drew]
                  go_wp2
                  exact ⟨by repeat (first | with_reducible exact Grew.refl _ | apply Grew.more | apply Grew.alloc | apply Grew.drew | apply Grew.drewN), rfl, _, _, rfl, rfl, rfl⟩
              rintro u w1 ⟨R1, n1, rfl⟩ hF
              clear hF
              simp [putFacts, Region.dstOf, Fact.at, Act.put, List.range_succ, World.more_drew]
              go_wp2
              go_roundg (p - (j + 1))
              case measure => omega
              case rel =>
                have hg9 : Grew wb wv := HG3.out
                refine ⟨j + 1, i9 + 1, cc + q.length, by omega, by omega, by go_num, by go_num, by go_num, Lib.hid (by rw [HI9.out]; omega), Lib.hid (by rw [HQ.out, HCC.out]; omega), Lib.hid (HS2.out.grew (hg9.trans (by repeat (first | with_reducible exact Grew.refl _ | apply Grew.more | apply Grew.alloc | apply Grew.drew | apply Grew.drewN)))), Lib.hid ?_, Lib.hid (grew_heap (hg9.trans (by repeat (first | with_reducible exact Grew.refl _ | apply Grew.more | apply Grew.alloc | apply Grew.drew | apply Grew.drewN))) HN2.out)⟩
                exact (grew_heap (hg9.trans (by repeat (first | with_reducible exact Grew.refl _ | apply Grew.more | apply Grew.alloc | apply Grew.drew | apply Grew.drewN))) (HB2.out.trans HB1.out)).trans HB1.out.symm
        · obtain rfl : j = p := by omega
          go_wp2
          go_roundg (m.graph.length - (k + 1))
          case measure => omega
          case rel => exact ⟨k + 1, by omega, by omega, by go_num, by rw [HTK.out, HPN.out, List.length_append, HI.out, List.length_map, List.length_range, ← HI9.out], by rw [HTK.out, HPN.out, cntP_append, HC.out, ← HCC.out], Lib.hid (HS2.out.grew (by repeat (first | with_reducible exact Grew.refl _ | apply Grew.more | apply Grew.alloc | apply Grew.drew | apply Grew.drewN))), Lib.hid (grew_heap (by repeat (first | with_reducible exact Grew.refl _ | apply Grew.more | apply Grew.alloc | apply Grew.drew | apply Grew.drewN)) (HB2.out.trans HB1.out))⟩
    · obtain rfl : k = m.graph.length := by omega
      have hlc : (ptsOf m.graph m.ents).length = lc.length := (Rel.len HS.out.rel).symm
      rw [List.take_length, HCN.out, hlc]
      clear hlc
      have k4 := cell_of (o := 4) HB1.out
      simp at k4
      have pk := Pre.mk (heap_lt HB1.out)
      go_wp2
      go_ret
      exact ⟨rfl, HS.out.g.trans (by repeat (first | with_reducible exact Grew.refl _ | apply Grew.more | apply Grew.alloc | apply Grew.drew | apply Grew.drewN))⟩
theorem snapPartsLaw_any (c : MfC) (m : Gr.Mf) (w : World) (h : MfIs w c m) : Calls Tryz.prog 3 #[.agg #[.int .i64 c.epoch, .int .i64 c.plans, .slice c.ao c.no c.co, .slice c.ag c.ng c.cg, .slice c.ae c.ne c.ce, .slice c.ax c.nx c.cx, .slice c.ap c.np c.cp]] w (Gives (.bool true) w) := by
  cases hg : greatS m
  · by_cases hr : Gr.RightR m.graph
    · cases hb : rightB m
      · exact snapParts_B c m w h hg hr hb
      · exact snapParts_C c m w h hg hb
    · exact snapParts_A c m w h hg hr
  · exact snapParts_great c m w h hg
end Go.Proofs.YtmdmbimfdpngaaaGreat

/-! Nodes as arguments. -/
namespace Go.Proofs.YtmdmbimfdpngaaaGreat
set_option linter.unusedSimpArgs false
set_option maxRecDepth 100000
set_option linter.unusedVariables false
open Go.RowKit Ga Go.ChangeShapes Go.WideShapes

theorem cells_int1 : Tryz.prog.cellsOf 3 = 1 := by kernel_rfl
theorem cells_ints1 : Tryz.prog.cellsOf 22 = 1 := by kernel_rfl
theorem cells_ins : Tryz.prog.cellsOf 153 = 2 := by kernel_rfl
theorem cells_inss1 : Tryz.prog.cellsOf 39 = 1 := by kernel_rfl
theorem cells_arr8 : Tryz.prog.cellsOf 40 = 8 := by kernel_rfl
theorem cells_node : Tryz.prog.cellsOf 42 = 13 := by kernel_rfl
theorem laidOut : laidOutB Tryz.prog = true := by kernel_rfl
theorem opens_int1 : Opens Tryz.prog 3 (fun _ cs (n : Int) => cs = [Value.int .i64 n] ∧ True) := (Opens.i64 Tryz.underlying3).mono fun _ _ n h => ⟨n, h.1, trivial⟩
theorem opens_insN : Opens Tryz.prog 153 (fun _ cs (a : Ga.Val) => cs = [Value.int .i64 a.1, Value.int .i64 a.2] ∧ True) := by
  intro H enc w fuel cs x hx
  obtain ⟨hl, hf⟩ := Opens.fields Tryz.underlying153 hx
  rw [cells_ins] at hl
  match cs, hl with
  | [c0, c1], _ =>
    obtain ⟨n0, y0, h0⟩ := hf 0 _ rfl
    obtain ⟨n1, y1, h1⟩ := hf 1 _ rfl
    have h0' : DataW.trod enc Tryz.prog w 0 (fun _ => true) true n0 3 (([c0, c1].drop 0).take (Tryz.prog.cellsOf 3)) = some y0 := h0
    have h1' : DataW.trod enc Tryz.prog w 0 (fun _ => true) true n1 3 (([c0, c1].drop 1).take (Tryz.prog.cellsOf 3)) = some y1 := h1
    rw [cells_int1] at h0' h1'
    obtain ⟨i0, e0, -⟩ := opens_int1 H enc w n0 _ _ h0'
    obtain ⟨i1, e1, -⟩ := opens_int1 H enc w n1 _ _ h1'
    simp at e0 e1
    subst e0 e1
    exact ⟨(i0, i1), rfl, trivial⟩
/-- a slice and how far it may grow -/
theorem SlAt.rowsC {α : Type} {k : Nat} {enc : α → List Value} {w : World} {v : Value} {l : List α} (h : SlAt k (fun _ cs (a : α) => cs = enc a ∧ True) w v l) : RowsAt k enc w v l ∧ ∃ a cap, v = .slice a l.length cap ∧ l.length ≤ cap := by
  refine ⟨h.rows.1, ?_⟩
  obtain ⟨a, cap, rfl, hl, -⟩ := h
  exact ⟨a, cap, rfl, hl⟩
theorem opens_node : Opens Tryz.prog 42 (fun w cs (x : NdC × Gr.Nd) => cs = encNd x.1 ∧ NodeIs w x.1 x.2) := by
  intro H enc w fuel cs x hx
  obtain ⟨hl, hf⟩ := Opens.fields Tryz.underlying42 hx
  rw [cells_node] at hl
  match cs, hl with
  | [c0, c1, c2, c3, c4, c5, c6, c7, c8, c9, c10, c11, c12], _ =>
    obtain ⟨n0, y0, h0⟩ := hf 0 _ rfl
    obtain ⟨n1, y1, h1⟩ := hf 1 _ rfl
    obtain ⟨n2, y2, h2⟩ := hf 2 _ rfl
    obtain ⟨n3, y3, h3⟩ := hf 3 _ rfl
    obtain ⟨n4, y4, h4⟩ := hf 4 _ rfl
    obtain ⟨n5, y5, h5⟩ := hf 5 _ rfl
    have h0' : DataW.trod enc Tryz.prog w 0 (fun _ => true) true n0 3 (([c0, c1, c2, c3, c4, c5, c6, c7, c8, c9, c10, c11, c12].drop 0).take (Tryz.prog.cellsOf 3)) = some y0 := h0
    have h1' : DataW.trod enc Tryz.prog w 0 (fun _ => true) true n1 3 (([c0, c1, c2, c3, c4, c5, c6, c7, c8, c9, c10, c11, c12].drop 1).take (Tryz.prog.cellsOf 3)) = some y1 := h1
    have h2' : DataW.trod enc Tryz.prog w 0 (fun _ => true) true n2 22 (([c0, c1, c2, c3, c4, c5, c6, c7, c8, c9, c10, c11, c12].drop 2).take (Tryz.prog.cellsOf 22)) = some y2 := h2
    have h3' : DataW.trod enc Tryz.prog w 0 (fun _ => true) true n3 39 (([c0, c1, c2, c3, c4, c5, c6, c7, c8, c9, c10, c11, c12].drop 3).take (Tryz.prog.cellsOf 39)) = some y3 := h3
    have h4' : DataW.trod enc Tryz.prog w 0 (fun _ => true) true n4 3 (([c0, c1, c2, c3, c4, c5, c6, c7, c8, c9, c10, c11, c12].drop 4).take (Tryz.prog.cellsOf 3)) = some y4 := h4
    have h5' : DataW.trod enc Tryz.prog w 0 (fun _ => true) true n5 40 (([c0, c1, c2, c3, c4, c5, c6, c7, c8, c9, c10, c11, c12].drop 5).take (Tryz.prog.cellsOf 40)) = some y5 := h5
    rw [cells_int1] at h0' h1' h4'
    rw [cells_ints1] at h2'
    rw [cells_inss1] at h3'
    rw [cells_arr8] at h5'
    obtain ⟨i0, e0, -⟩ := opens_int1 H enc w n0 _ _ h0'
    obtain ⟨i1, e1, -⟩ := opens_int1 H enc w n1 _ _ h1'
    obtain ⟨i4, e4, -⟩ := opens_int1 H enc w n4 _ _ h4'
    obtain ⟨l2, v2, e2, s2⟩ := Opens.slice Tryz.underlying22 cells_int1 (by decide) opens_int1 H enc w n2 _ _ h2'
    obtain ⟨l3, v3, e3, s3⟩ := Opens.slice Tryz.underlying39 cells_ins (by decide) opens_insN H enc w n3 _ _ h3'
    obtain ⟨hl5, hf5⟩ := Opens.elems Tryz.underlying40 h5'
    obtain ⟨r2, a2, k2, rfl, hk2⟩ := SlAt.rowsC (enc := fun (x : Int) => [Value.int .i64 x]) s2
    obtain ⟨r3, a3, k3, rfl, hk3⟩ := SlAt.rowsC (enc := fun (a : Ga.Val) => [Value.int .i64 a.1, Value.int .i64 a.2]) s3
    have hr : ∀ i, i < 8 → ∃ r : Int, (([c5, c6, c7, c8, c9, c10, c11, c12].drop i).take 1) = [Value.int .i64 r] := fun i hi => by
      obtain ⟨m, y, h⟩ := hf5 i hi
      rw [cells_int1, Nat.mul_one] at h
      obtain ⟨r, e, -⟩ := opens_int1 H enc w m _ _ h
      exact ⟨r, e⟩
    obtain ⟨q0, g0⟩ := hr 0 (by decide)
    obtain ⟨q1, g1⟩ := hr 1 (by decide)
    obtain ⟨q2, g2⟩ := hr 2 (by decide)
    obtain ⟨q3, g3⟩ := hr 3 (by decide)
    obtain ⟨q4, g4⟩ := hr 4 (by decide)
    obtain ⟨q5, g5⟩ := hr 5 (by decide)
    obtain ⟨q6, g6⟩ := hr 6 (by decide)
    obtain ⟨q7, g7⟩ := hr 7 (by decide)
    simp at e0 e1 e2 e3 e4 g0 g1 g2 g3 g4 g5 g6 g7
    subst e0 e1 e2 e3 e4 g0 g1 g2 g3 g4 g5 g6 g7
    exact ⟨(⟨i0, i1, a2, l2.length, k2, a3, l3.length, k3, i4, q0, q1, q2, q3, q4, q5, q6, q7⟩, ⟨i0, i1, l2, l3, i4, [q0, q1, q2, q3, q4, q5, q6, q7]⟩), rfl, rfl, rfl, r2, r3, rfl, rfl, hk2⟩
theorem nodes_of {w : World} {v : Value} {l : List (NdC × Gr.Nd)} (h : SlAt 13 (fun w cs (x : NdC × Gr.Nd) => cs = encNd x.1 ∧ NodeIs w x.1 x.2) w v l) : NodesAt w v (l.map (·.2)) := by
  obtain ⟨a, cap, rfl, hl, hm, hnil, hx⟩ := h
  refine ⟨l.map (·.1), ⟨a, cap, by simp, Nat.le_trans (by simpa using hl) hm, fun hne => ?_⟩, by simp, ?_⟩
  · obtain ⟨b, off, rfl, hc⟩ := hx (by intro e; subst e; exact hne rfl)
    refine ⟨b, off, rfl, fun i c hi j u hu => ?_⟩
    rw [List.getElem?_map] at hi
    obtain ⟨y, hy, rfl⟩ := Option.map_eq_some_iff.1 hi
    obtain ⟨cs, -, ⟨rfl, -⟩, h2⟩ := hc i y hy
    exact h2 j u hu
  · intro i c n hc hn
    rw [List.getElem?_map] at hc hn
    obtain ⟨y, hy, rfl⟩ := Option.map_eq_some_iff.1 hc
    obtain ⟨z, hz, rfl⟩ := Option.map_eq_some_iff.1 hn
    obtain rfl := Option.some.inj (hy.symm.trans hz)
    obtain ⟨b, off, rfl, hx2⟩ := hx (by intro e; subst e; simp at hy)
    obtain ⟨cs, -, ⟨-, h1⟩, -⟩ := hx2 i y hy
    exact h1
end Go.Proofs.YtmdmbimfdpngaaaGreat
