import Derived.Test.YtmdmbimfdpngaaaGreatMsRowSnapAdds0
import Derived.Deep.DeepCutAuto
import Derived.Test.YtmdmbimfdpngaaaGreatMs53
import Derived.Test.YtmdmbimfdpngaaaGreatRows
/-! The law SnapAdds, walked: right graphs. -/
namespace Go.Proofs.YtmdmbimfdpngaaaGreat
set_option linter.unusedSimpArgs false
set_option linter.unusedVariables false
open Go.RowKit Ga
set_option maxRecDepth 100000

theorem addR_zero {g : List Gr.Nd} {ep : Int} {m : List (Who × AkC)} {c : AkC} (h : addR g ep m c = 0) : ∀ z ∈ m, z.1 ≠ (c.node, c.ix) := by
  unfold addR at h
  split at h
  · cases h
  · split at h
    · cases h
    · split at h
      · cases h
      · split at h
        · cases h
        · rename_i hn
          rcases mfind_cases m (c.node, c.ix) with ⟨v, q1, q2⟩ | ⟨q1, q2⟩
          · rw [q1] at hn
            exact absurd rfl hn
          · exact q2
theorem nodeOf_find {g : List Gr.Nd} {id : Int} {i : Nat} (h : Gr.find g id = some i) (hi : i < g.length) : Gr.nodeOf g id = some g[i] := by
  unfold Gr.nodeOf
  rw [h, Option.bind_some, List.getElem?_eq_getElem hi]
theorem nodeOf_nofind {g : List Gr.Nd} {id : Int} (h : Gr.find g id = none) : Gr.nodeOf g id = none := by
  unfold Gr.nodeOf
  rw [h]
  rfl
set_option maxHeartbeats 32000000 in
theorem snapAdds_main (v vl : Value) (g : List Gr.Nd) (ep : Int) (l : List AkC) (w : World) (hv : NodesAt w v g) (hl : AcksAt w vl l) (hw : ∀ c ∈ l, okWho (c.node, c.ix)) (hq : greatL g [] l = false) (hr : Gr.RightR g) (he : 1 ≤ ep ∧ ep ≤ 2147483647) : Calls Tryz.prog 4 #[v, .int .i64 ep, vl] w (Gives (.bool true) w) := by
  have HG := Lib.hid fun W (q : Grew w W) => great22_any v (.slice none 0 0) vl g [] l W (hv.grew q) (StepsAt.nil W) (hl.grew q)
  rw [hq] at HG
  obtain ⟨⟨hgg, -⟩, hl60, -⟩ := greatL_no hq
  have hsm := (great_small hgg).1
  have HN := Lib.hid fun W (q : Grew w W) => new_any v g ep W (hv.grew q) hsm
  have HC := Lib.hid fun W (q : Grew w W) => refCheck08_any v g W (hv.grew q)
  rw [checkR_nil hr] at HC
  have HFI := Lib.hid fun id W (q : Grew w W) => refFind08_any v g id W (hv.grew q)
  have HPAR := Lib.hid fun n hn => (right_par hr n hn).1
  have HTN := Lib.hid (tasks_norm hr)
  have HNO := Lib.hid (nodeOf_norm hr)
  have HR := Lib.hid hr
  have HE := Lib.hid he
  have HW := Lib.hid hw
  have HV := Lib.hid hv
  have HL := Lib.hid hl
  have hl8 := hr.len
  have hsp := sumPar_range (g := g) fun n hn => (right_par hr n hn).1
  have HSP := Lib.hid fun k => sumPar_range (g := g.take k) fun n hn => (right_par hr n (List.mem_of_mem_take hn)).1
  obtain ⟨a, cap, rfl, hm, -⟩ := AcksAt.open6 hl
  obtain ⟨av, cv, rfl, -, -⟩ := hv.openC
  have hmm := @run_makeMap Tryz.prog
  have he1 := he.1
  have he2 := he.2
  clear hv hl hq hgg hsm hr he hw
  go_enter Tryz.func4, Tryz.ntmps4
  go_wp2_with (first
    | (go_at_call 7; refine (awake22_any _).mono ?_; rintro e w1 ⟨rfl, R1, n1, rfl⟩)
    | (go_at_call 15; refine (HG.out _ (by repeat (first | with_reducible exact Grew.refl _ | apply Grew.more | apply Grew.alloc | apply Grew.drew | apply Grew.drewN))).mono ?_; rintro e w1 ⟨rfl, R2, n2, rfl⟩)
    | (go_at_call 16; refine (HN.out _ (by repeat (first | with_reducible exact Grew.refl _ | apply Grew.more | apply Grew.alloc | apply Grew.drew | apply Grew.drewN))).mono ?_; rintro e w1 ⟨-, -, h2⟩; obtain ⟨x, b, rfl, hG, hx, hb, R3, n3, rfl⟩ := h2 HR.out HE.out; (have HGA := Lib.hid hG); (have hxw : w.heap.size ≤ x := by simp [World.more_size] at hx; omega); (have hbw : w.heap.size ≤ b := by simp [World.more_size] at hb; omega); clear h2 hG hx hb)
    | (go_at_call 12; refine (HC.out _ (by repeat (first | with_reducible exact Grew.refl _ | apply Grew.more | apply Grew.alloc | apply Grew.drew | apply Grew.drewN))).mono ?_; rintro e w1 ⟨rfl, R4, n4, rfl⟩)
    | (go_at_call 17; refine (epoch_any x b 0 (Gr.normG g) ep [] _ (HGA.out.grew (by repeat (first | with_reducible exact Grew.refl _ | apply Grew.more | apply Grew.alloc | apply Grew.drew | apply Grew.drewN)))).mono ?_; rintro e w1 ⟨rfl, R5, n5, rfl⟩))
  go_loopg [9, 68] g.length (fun gg s9 s68 wr => ∃ k : Nat, k ≤ g.length ∧ g.length - k ≤ gg ∧ s68 = .int .i64 k ∧ s9 = .int .i64 (sumPar (g.take k)) ∧ Hid (Grew w wr) ∧ Hid (GatherAt wr x b 0 (Gr.normG g) ep []))
  case atStart => exact ⟨0, by omega, by omega, rfl, rfl, Lib.hid (by repeat (first | with_reducible exact Grew.refl _ | apply Grew.more | apply Grew.alloc | apply Grew.drew | apply Grew.drewN)), Lib.hid (HGA.out.grew (by repeat (first | with_reducible exact Grew.refl _ | apply Grew.more | apply Grew.alloc | apply Grew.drew | apply Grew.drewN)))⟩
  case round =>
    obtain ⟨k, hk, hgg, rfl, rfl, HG1, HGA1⟩ := hrel
    rename World => wa
    by_cases hlt : k < g.length
    · obtain ⟨a', cap', e, -, hx⟩ := (HV.out.grew HG1.out).openC
      injection e with e1 e2 e3
      obtain ⟨bn, offn, c, ha, hb, hn, c0, c1, c2, c3, c4, c5, c6, c7, c8, c9, c10, c11, c12⟩ := hx k hlt
      obtain rfl : av = some ⟨bn, offn, none⟩ := e1.trans ha
      have hpr := HPAR.out _ (List.getElem_mem hlt)
      have HTK := Lib.hid (show sumPar (g.take (k + 1)) = _ by rw [List.take_succ_eq_append_getElem hlt, sumPar_snoc])
      have hsk := HSP.out k
      have hlk : (g.take k).length ≤ 8 := by rw [List.length_take]; omega
      have hpar := hn.par
      clear hx e1 e2 e3 ha hn
      generalize g[k] = y at *
      generalize sumPar (g.take k) = sk at *
      obtain ⟨cid, kind, af, nf, cf, apr, np, cpr, par, r0, r1, r2, r3, r4, r5, r6, r7⟩ := c
      simp only at c0 c1 c2 c3 c4 c5 c6 c7 c8 c9 c10 c11 c12 hpar
      have HPR := Lib.hid hpar
      rw [hpar] at hpr
      clear hpar
      go_wp2
      go_roundg (g.length - (k + 1))
      case measure => omega
      case rel => exact ⟨k + 1, by omega, by omega, by go_num, by rw [HTK.out, HPR.out], Lib.hid (HG1.out.trans (by repeat (first | with_reducible exact Grew.refl _ | apply Grew.more | apply Grew.alloc | apply Grew.drew | apply Grew.drewN))), Lib.hid (HGA1.out.grew (by repeat (first | with_reducible exact Grew.refl _ | apply Grew.more | apply Grew.alloc | apply Grew.drew | apply Grew.drewN)))⟩
    · obtain rfl : k = g.length := by omega
      rw [List.take_length]
      obtain ⟨hx1, hb1⟩ := HGA1.out.fresh
      go_wp2
      obtain ⟨b2, hb2⟩ : ∃ b2, wa.heap.size = b2 := ⟨_, rfl⟩
      rw [hb2]
      have hb2w : w.heap.size ≤ b2 := by omega
      have hxb2 : x ≠ b2 := by omega
      have hbb2 : b ≠ b2 := by omega
      have HB2 := Lib.hid hb2
      clear hb2 hx1 hb1
      generalize sumPar g = sp at *
      go_loopg [80] l.length (fun gg s80 wr => ∃ (k : Nat) (m : List (Who × AkC)), k ≤ l.length ∧ l.length - k ≤ gg ∧ s80 = .int .i64 k ∧ m.length ≤ k ∧ Hid (GatherAt wr x b k (Gr.normG g) ep m) ∧ Hid (MapAt metS wr b2 k (metOf m)) ∧ Hid (Grew w wr))
      case atStart => exact ⟨0, [], by omega, by omega, rfl, Nat.zero_le _, Lib.hid (HGA1.out.grew (by repeat (first | with_reducible exact Grew.refl _ | apply Grew.more | apply Grew.alloc | apply Grew.drew | apply Grew.drewN))), Lib.hid (HB2.out ▸ MapAt.made metS wa), Lib.hid (HG1.out.trans (by repeat (first | with_reducible exact Grew.refl _ | apply Grew.more | apply Grew.alloc | apply Grew.drew | apply Grew.drewN)))⟩
      case round =>
        obtain ⟨k, m, hk, hgg, rfl, hmk, HA2, HM2, HG2⟩ := hrel
        rename World => wb
        by_cases hlt : k < l.length
        · obtain ⟨a', cap', e, -, hx⟩ := AcksAt.open6 (HL.out.grew HG2.out)
          injection e with e1 e2 e3
          obtain ⟨bl, offl, ha, hbl, g0, g1, g2, g3, g4, g5⟩ := hx k hlt
          obtain rfl : a = some ⟨bl, offl, none⟩ := e1.trans ha
          have hwk := HW.out _ (List.getElem_mem hlt)
          clear hx e1 e2 e3 ha
          generalize l[k] = c at *
          obtain ⟨nd, ix, ce, ae, ne, cae, ax, nx, cax, off⟩ := c
          simp only at g0 g1 g2 g3 g4 g5 hwk
          have HWK := Lib.hid hwk
          have HF2 := Lib.hid fun W (q : Grew w W) => HFI.out nd W q
          obtain ⟨fi, hfi⟩ : ∃ fi, findI g nd = fi := ⟨_, rfl⟩
          rw [hfi] at HF2
          have HFE := Lib.hid hfi
          obtain ⟨r, hr⟩ : ∃ r, addR (Gr.normG g) ep m ⟨nd, ix, ce, ae, ne, cae, ax, nx, cax, off⟩ = r := ⟨_, rfl⟩
          have HRR := Lib.hid hr
          clear hfi hr hwk
          go_upto_block 5 with (go_at_call 18; refine (HF2.out _ (HG2.out.trans (by repeat (first | with_reducible exact Grew.refl _ | apply Grew.more | apply Grew.alloc | apply Grew.drew | apply Grew.drewN)))).mono ?_; rintro e w1 ⟨rfl, rfl⟩)
          go_cut [16] (fun s16 wx => s16 = .int .i64 r ∧ Grew (wb.alloc (.cells #[.int .i64 nd, .int .i64 ix, .int .i64 ce, .slice ae ne cae, .slice ax nx cax, .int .i64 off] 59)) wx)
          case first =>
            cases hf : Gr.find g nd with
            | none =>
              obtain rfl : fi = -1 := HFE.out.symm.trans (findI_none hf)
              obtain rfl : r = 12 := by rw [← HRR.out]; unfold addR; simp only; rw [HNO.out, nodeOf_nofind hf]
              clear hf
              go_wp2
              refine wp_region_seq 18 Tryz.mixed (by kernel_rfl) (by kernel_rfl) ?_
              iterate 18
                apply Seq.val
                focus
                  rintro w1 u ⟨R1, n1, rfl⟩ hF
                  simp [moreFacts, Fact.more, Oper.deps, Region.binds, List.filter_cons, World.more_drew] at hF
                  simp [putFacts, Oper.deps, Region.binds, List.filter_cons, Region.dstOf, Fact.at, Act.put, World.more_drew]
                  go_wp2
                  exact ⟨by repeat (first | with_reducible exact Grew.refl _ | apply Grew.more | apply Grew.alloc | apply Grew.drew | apply Grew.drewN), rfl, _, _, rfl, rfl, rfl⟩
              rintro u w1 ⟨R1, n1, rfl⟩ hF
              clear hF
              simp [putFacts, Region.dstOf, Fact.at, Act.put, List.range_succ, World.more_drew]
              go_wp2
              go_meet
              exact ⟨rfl, by repeat (first | with_reducible exact Grew.refl _ | apply Grew.more | apply Grew.alloc | apply Grew.drew | apply Grew.drewN)⟩
            | some i =>
              obtain ⟨hfi2, hil⟩ := findI_some hf
              obtain rfl : fi = (i : Int) := HFE.out.symm.trans hfi2
              obtain ⟨a', cap', e, -, hx⟩ := (HV.out.grew HG2.out).openC
              injection e with e1 e2 e3
              obtain ⟨bn, offn, c, ha, hb, hn, c0, c1, c2, c3, c4, c5, c6, c7, c8, c9, c10, c11, c12⟩ := hx i hil
              obtain rfl : av = some ⟨bn, offn, none⟩ := e1.trans ha
              have hpar := hn.par
              have hno := nodeOf_find hf hil
              have hRd : r = if ix < 0 ∨ c.par ≤ ix then 12 else if ce ≠ ep then 1 else if (mfind m (nd, ix)).isSome then 13 else 0 := by rw [← HRR.out]; unfold addR; simp only; rw [HNO.out, hno]; simp only; rw [hpar]
              obtain ⟨bq, hbq⟩ : ∃ bq, (mfind m (nd, ix)).isSome = bq := ⟨_, rfl⟩
              rw [hbq] at hRd
              have HLM := Lib.hid fun W (q : Grew wb W) => (HM2.out.grew q).look (nd, ix) HWK.out Tryz.underlying57 false (zeroBo W)
              rw [mfind_met, hbq] at HLM
              have HBQ := Lib.hid hbq
              generalize c.par = par at *
              clear hx e1 e2 e3 ha hf hfi2 hpar hno hn hbq c0 c1 c2 c3 c5 c6 c7 c8 c9 c10 c11 c12
              by_cases h1 : ix < 0
              · obtain rfl : r = 12 := hRd.trans (if_pos (.inl h1))
                clear hRd
                go_wp2
                refine wp_region_seq 18 Tryz.mixed (by kernel_rfl) (by kernel_rfl) ?_
                iterate 18
                  apply Seq.val
                  focus
                    rintro w1 u ⟨R1, n1, rfl⟩ hF
                    simp [moreFacts, Fact.more, Oper.deps, Region.binds, List.filter_cons, World.more_drew] at hF
                    simp [putFacts, Oper.deps, Region.binds, List.filter_cons, Region.dstOf, Fact.at, Act.put, World.more_drew]
                    go_wp2
                    exact ⟨by repeat (first | with_reducible exact Grew.refl _ | apply Grew.more | apply Grew.alloc | apply Grew.drew | apply Grew.drewN), rfl, _, _, rfl, rfl, rfl⟩
                rintro u w1 ⟨R1, n1, rfl⟩ hF
                clear hF
                simp [putFacts, Region.dstOf, Fact.at, Act.put, List.range_succ, World.more_drew]
                go_wp2
                go_meet
                exact ⟨rfl, by repeat (first | with_reducible exact Grew.refl _ | apply Grew.more | apply Grew.alloc | apply Grew.drew | apply Grew.drewN)⟩
              by_cases h2 : par ≤ ix
              · obtain rfl : r = 12 := hRd.trans (if_pos (.inr h2))
                clear hRd
                go_wp2
                refine wp_region_seq 18 Tryz.mixed (by kernel_rfl) (by kernel_rfl) ?_
                iterate 18
                  apply Seq.val
                  focus
                    rintro w1 u ⟨R1, n1, rfl⟩ hF
                    simp [moreFacts, Fact.more, Oper.deps, Region.binds, List.filter_cons, World.more_drew] at hF
                    simp [putFacts, Oper.deps, Region.binds, List.filter_cons, Region.dstOf, Fact.at, Act.put, World.more_drew]
                    go_wp2
                    exact ⟨by repeat (first | with_reducible exact Grew.refl _ | apply Grew.more | apply Grew.alloc | apply Grew.drew | apply Grew.drewN), rfl, _, _, rfl, rfl, rfl⟩
                rintro u w1 ⟨R1, n1, rfl⟩ hF
                clear hF
                simp [putFacts, Region.dstOf, Fact.at, Act.put, List.range_succ, World.more_drew]
                go_wp2
                go_meet
                exact ⟨rfl, by repeat (first | with_reducible exact Grew.refl _ | apply Grew.more | apply Grew.alloc | apply Grew.drew | apply Grew.drewN)⟩
              have hRd2 := hRd.trans (if_neg (fun q => q.elim h1 h2))
              clear hRd
              by_cases h3 : ce = ep
              case neg =>
                obtain rfl : r = 1 := hRd2.trans (if_pos h3)
                have hb3 : (ce != ep) = true := by simpa using h3
                clear hRd2 h3
                go_wp2
                refine wp_region_seq 18 Tryz.mixed (by kernel_rfl) (by kernel_rfl) ?_
                iterate 18
                  apply Seq.val
                  focus
                    rintro w1 u ⟨R1, n1, rfl⟩ hF
                    simp [moreFacts, Fact.more, Oper.deps, Region.binds, List.filter_cons, World.more_drew] at hF
                    simp [putFacts, Oper.deps, Region.binds, List.filter_cons, Region.dstOf, Fact.at, Act.put, World.more_drew]
                    go_wp2
                    exact ⟨by repeat (first | with_reducible exact Grew.refl _ | apply Grew.more | apply Grew.alloc | apply Grew.drew | apply Grew.drewN), rfl, _, _, rfl, rfl, rfl⟩
                rintro u w1 ⟨R1, n1, rfl⟩ hF
                clear hF
                simp [putFacts, Region.dstOf, Fact.at, Act.put, List.range_succ, World.more_drew]
                go_wp2
                go_meet
                exact ⟨rfl, by repeat (first | with_reducible exact Grew.refl _ | apply Grew.more | apply Grew.alloc | apply Grew.drew | apply Grew.drewN)⟩
              subst h3
              have hRd3 := hRd2.trans (if_neg (fun q => q rfl))
              clear hRd2
              cases bq
              case true =>
                obtain rfl : r = 13 := hRd3.trans (if_pos rfl)
                clear hRd3
                go_wp2
                refine wp_region_seq 18 Tryz.mixed (by kernel_rfl) (by kernel_rfl) ?_
                iterate 18
                  apply Seq.val
                  focus
                    rintro w1 u ⟨R1, n1, rfl⟩ hF
                    simp [moreFacts, Fact.more, Oper.deps, Region.binds, List.filter_cons, World.more_drew] at hF
                    simp [putFacts, Oper.deps, Region.binds, List.filter_cons, Region.dstOf, Fact.at, Act.put, World.more_drew]
                    go_wp2
                    exact ⟨by repeat (first | with_reducible exact Grew.refl _ | apply Grew.more | apply Grew.alloc | apply Grew.drew | apply Grew.drewN), rfl, _, _, rfl, rfl, rfl⟩
                rintro u w1 ⟨R1, n1, rfl⟩ hF
                clear hF
                simp [putFacts, Region.dstOf, Fact.at, Act.put, List.range_succ, World.more_drew]
                have hlk := HLM.out ((wb.alloc (.cells #[.int .i64 nd, .int .i64 ix, .int .i64 ce, .slice ae ne cae, .slice ax nx cax, .int .i64 off] 59)).more R1 n1) (by repeat (first | with_reducible exact Grew.refl _ | apply Grew.more | apply Grew.alloc | apply Grew.drew | apply Grew.drewN))
                simp only [metS, whK] at hlk
                go_wp2
                go_meet
                exact ⟨rfl, by repeat (first | with_reducible exact Grew.refl _ | apply Grew.more | apply Grew.alloc | apply Grew.drew | apply Grew.drewN)⟩
              obtain rfl : r = 0 := hRd3.trans (if_neg (by decide))
              clear hRd3
              go_wp2
              refine wp_region_seq 18 Tryz.mixed (by kernel_rfl) (by kernel_rfl) ?_
              iterate 18
                apply Seq.val
                focus
                  rintro w1 u ⟨R1, n1, rfl⟩ hF
                  simp [moreFacts, Fact.more, Oper.deps, Region.binds, List.filter_cons, World.more_drew] at hF
                  simp [putFacts, Oper.deps, Region.binds, List.filter_cons, Region.dstOf, Fact.at, Act.put, World.more_drew]
                  go_wp2
                  exact ⟨by repeat (first | with_reducible exact Grew.refl _ | apply Grew.more | apply Grew.alloc | apply Grew.drew | apply Grew.drewN), rfl, _, _, rfl, rfl, rfl⟩
              rintro u w1 ⟨R1, n1, rfl⟩ hF
              clear hF
              simp [putFacts, Region.dstOf, Fact.at, Act.put, List.range_succ, World.more_drew]
              have hlk := HLM.out ((wb.alloc (.cells #[.int .i64 nd, .int .i64 ix, .int .i64 ce, .slice ae ne cae, .slice ax nx cax, .int .i64 off] 59)).more R1 n1) (by repeat (first | with_reducible exact Grew.refl _ | apply Grew.more | apply Grew.alloc | apply Grew.drew | apply Grew.drewN))
              simp only [metS, whK] at hlk
              go_wp2
              go_meet
              exact ⟨rfl, by repeat (first | with_reducible exact Grew.refl _ | apply Grew.more | apply Grew.alloc | apply Grew.drew | apply Grew.drewN)⟩
          case rest =>
            obtain ⟨rfl, hg6⟩ := hcut
            generalize wc = W7 at *
            clear wc
            have hbx : W7.heap[wb.heap.size]? = some (.cells #[.int .i64 nd, .int .i64 ix, .int .i64 ce, .slice ae ne cae, .slice ax nx cax, .int .i64 off] 59) := grew_heap hg6 (heap_new_at _ _ _ rfl)
            have HG7 := Lib.hid (HG2.out.trans (((Grew.refl wb).alloc _).trans hg6))
            have HA7 := Lib.hid (HA2.out.grew (((Grew.refl wb).alloc _).trans hg6))
            have HM7 := Lib.hid (HM2.out.grew (((Grew.refl wb).alloc _).trans hg6))
            have HBX := Lib.hid hbx
            have k0 := cell_of (o := 0) hbx
            have k1 := cell_of (o := 1) hbx
            have k2 := cell_of (o := 2) hbx
            have k3 := cell_of (o := 3) hbx
            have k4 := cell_of (o := 4) hbx
            have k5 := cell_of (o := 5) hbx
            simp at k0 k1 k2 k3 k4 k5
            have pk := Pre.mk (heap_lt hbx)
            clear hg6 hbx g0 g1 g2 g3 g4 g5
            go_wp2_with fail
            refine (add_any' w _ x b k (Gr.normG g) ep m ⟨nd, ix, ce, ae, ne, cae, ax, nx, cax, off⟩ HA7.out HG7.out hbw (by omega) HWK.out).mono ?_
            rintro e w4 ⟨rfl, h0, h1⟩
            rw [HRR.out] at h0 h1
            rw [HRR.out]
            have hml : (metOf m).length = m.length := List.length_map ..
            by_cases hz : r = 0
            case neg =>
              obtain ⟨R4, n4, rfl⟩ := h0 hz
              have hzb : (r == 0) = false := by simpa using hz
              clear h0 h1 hz
              go_wp2_with fail
              refine (missing_any x b k (Gr.normG g) ep m _ (HA7.out.grew (by repeat (first | with_reducible exact Grew.refl _ | apply Grew.more | apply Grew.alloc | apply Grew.drew | apply Grew.drewN))) (by omega)).mono ?_
              rintro e w5 ⟨rfl, R5, n5, rfl⟩
              rw [HTN.out]
              have hlm := (HM7.out.grew (by repeat (first | with_reducible exact Grew.refl _ | apply Grew.more | apply Grew.alloc | apply Grew.drew | apply Grew.drewN) : Grew W7 ((W7.more R4 n4).more R5 n5))).len Tryz.underlying57 3
              rw [hml] at hlm
              go_wp2
              go_roundg (l.length - (k + 1))
              case measure => omega
              case rel => exact ⟨k + 1, m, by omega, by omega, by go_num, by omega, Lib.hid ((HA7.out.grew (by repeat (first | with_reducible exact Grew.refl _ | apply Grew.more | apply Grew.alloc | apply Grew.drew | apply Grew.drewN))).moren (by omega)), Lib.hid ((HM7.out.grew (by repeat (first | with_reducible exact Grew.refl _ | apply Grew.more | apply Grew.alloc | apply Grew.drew | apply Grew.drewN))).more (by omega)), Lib.hid (HG7.out.trans (by repeat (first | with_reducible exact Grew.refl _ | apply Grew.more | apply Grew.alloc | apply Grew.drew | apply Grew.drewN)))⟩
            subst hz
            obtain ⟨h5, h6, h7⟩ := h1 rfl
            have hfr := addR_zero HRR.out
            have HFR := Lib.hid hfr
            have hbne : wb.heap.size ≠ b := fun q => map_nocells HA7.out.map _ _ _ (q ▸ HBX.out)
            have hbx8 := (h7.2 _ (heap_lt HBX.out) hbne).trans HBX.out
            have HM8 := Lib.hid (HM7.out.same (h7.2 b2 HM7.out.lt (fun q => hbb2 q.symm)))
            have HA8 := Lib.hid h5
            have HG8 := Lib.hid h6
            have b0 := cell_of (o := 0) hbx8
            have b1 := cell_of (o := 1) hbx8
            simp at b0 b1
            have pb := Pre.mk (heap_lt hbx8)
            clear h0 h1 h5 h6 h7 hfr hbne hbx8 k0 k1 k2 k3 k4 k5 pk
            go_wp2_with (refine wpList_mapPut (S := metS) (w0 := w) (M := metOf m) rfl (.tmp 126) (.tmp 131) (.const (.bool true)) 57 rfl Tryz.underlying57 (HG8.out.trans (by repeat (first | with_reducible exact Grew.refl _ | apply Grew.more | apply Grew.alloc | apply Grew.drew | apply Grew.drewN))) hb2w rfl (HM8.out.grew (by repeat (first | with_reducible exact Grew.refl _ | apply Grew.more | apply Grew.alloc | apply Grew.drew | apply Grew.drewN))) (by unfold maxLen; omega) (nd, ix) true HWK.out (metOf_fresh HFR.out) rfl rfl ?_; intro W9 h9 g9 k9; (have H9 := Lib.hid h9); (have G9 := Lib.hid g9); (have K9 := Lib.hid k9); clear h9 g9 k9)
            have HA9 := Lib.hid (HA8.out.keep K9.out hxb2 hbb2 (map_nocells HM8.out))
            go_wp2_with fail
            refine (missing_any x b (k + 1) (Gr.normG g) ep _ _ HA9.out (by omega)).mono ?_
            rintro e w5 ⟨rfl, R5, n5, rfl⟩
            rw [HTN.out]
            have hlm := (H9.out.grew (by repeat (first | with_reducible exact Grew.refl _ | apply Grew.more | apply Grew.alloc | apply Grew.drew | apply Grew.drewN) : Grew W9 (W9.more R5 n5))).len Tryz.underlying57 3
            rw [List.length_cons, hml] at hlm
            rw [List.length_cons]
            go_wp2
            go_roundg (l.length - (k + 1))
            case measure => omega
            case rel => exact ⟨k + 1, ((nd, ix), ⟨nd, ix, ce, ae, ne, cae, ax, nx, cax, off⟩) :: m, by omega, by omega, by go_num, by simp; omega, Lib.hid (HA9.out.grew (by repeat (first | with_reducible exact Grew.refl _ | apply Grew.more | apply Grew.alloc | apply Grew.drew | apply Grew.drewN))), Lib.hid (H9.out.grew (by repeat (first | with_reducible exact Grew.refl _ | apply Grew.more | apply Grew.alloc | apply Grew.drew | apply Grew.drewN))), Lib.hid (G9.out.trans (by repeat (first | with_reducible exact Grew.refl _ | apply Grew.more | apply Grew.alloc | apply Grew.drew | apply Grew.drewN)))⟩
        · obtain rfl : k = l.length := by omega
          go_wp2_with (first
            | (go_at_call 21; refine (makeNil_any _).mono ?_; rintro e w1 ⟨rfl, R6, n6, rfl⟩)
            | (go_at_call 19; refine (addNil_any _).mono ?_; rintro e w1 ⟨rfl, R7, n7, rfl⟩)
            | (go_at_call 20; refine (missNil_any _).mono ?_; rintro e w1 ⟨rfl, R8, n8, rfl⟩)
            | (go_at_call 17; refine (epochNil_any _).mono ?_; rintro e w1 ⟨rfl, R9, n9, rfl⟩))
          go_ret
          exact ⟨rfl, HG2.out.trans (by repeat (first | with_reducible exact Grew.refl _ | apply Grew.more | apply Grew.alloc | apply Grew.drew | apply Grew.drewN))⟩
theorem snapAdds_any (v vl : Value) (g : List Gr.Nd) (ep : Int) (l : List AkC) (w : World) (hv : NodesAt w v g) (hl : AcksAt w vl l) (hw : ∀ c ∈ l, okWho (c.node, c.ix)) : Calls Tryz.prog 4 #[v, .int .i64 ep, vl] w (Gives (.bool true) w) := by
  cases hq : greatL g [] l
  · by_cases hr : Gr.RightR g
    · by_cases he : 1 ≤ ep ∧ ep ≤ 2147483647
      · exact snapAdds_main v vl g ep l w hv hl hw hq hr he
      · exact snapAdds_out v vl g ep l w hv hl (.inr ⟨hq, .inr ⟨hr, he⟩⟩)
    · exact snapAdds_out v vl g ep l w hv hl (.inr ⟨hq, .inl hr⟩)
  · exact snapAdds_out v vl g ep l w hv hl (.inl hq)
end Go.Proofs.YtmdmbimfdpngaaaGreat

/-! Acknowledgements as arguments. -/
namespace Go.Proofs.YtmdmbimfdpngaaaGreat
set_option linter.unusedSimpArgs false
set_option maxRecDepth 100000
set_option linter.unusedVariables false
open Go.RowKit Ga Go.ChangeShapes Go.WideShapes

theorem cells_slice {t e : TypeId} {P : Program} {w : World} {r : Reach} {b : Nat} {v u : Value} (ht : P.underlying t = some (.slice e)) (hv : Value.okWide P w r b t v) (h : v.cells.toList = [u]) : v = u := by
  obtain ⟨a, len, cap, rfl⟩ := okWide_slice ht hv
  simpa [Value.cells] using h
theorem arg_nodes {H : Type} {enc : TypeId × Value → H} {w : World} {v : Value} {d : DataW H} {ps : List MemPlace} {r : Reach} {b : Nat} (ho : Value.okWide Tryz.prog w r b 23 v) (h : DataW.Trod enc Tryz.prog w 0 (fun _ => true) true 23 v d ps) : ∃ l, NodesAt w v l := by
  obtain ⟨l, u, h1, h2⟩ := (Opens.slice Tryz.underlying23 cells_node (by decide) opens_node).arg h
  obtain rfl := cells_slice Tryz.underlying23 ho h1
  exact ⟨_, nodes_of h2⟩
theorem cells_ack : Tryz.prog.cellsOf 59 = 6 := by kernel_rfl
theorem opens_ack : Opens Tryz.prog 59 (fun w cs (x : AkC) => cs = encAk x ∧ okWho (x.node, x.ix)) := by
  intro H enc w fuel cs x hx
  obtain ⟨hl, hf⟩ := Opens.fields Tryz.underlying59 hx
  rw [cells_ack] at hl
  match cs, hl with
  | [c0, c1, c2, c3, c4, c5], _ =>
    obtain ⟨n0, y0, h0⟩ := hf 0 _ rfl
    obtain ⟨n1, y1, h1⟩ := hf 1 _ rfl
    obtain ⟨n2, y2, h2⟩ := hf 2 _ rfl
    obtain ⟨n3, y3, h3⟩ := hf 3 _ rfl
    obtain ⟨n4, y4, h4⟩ := hf 4 _ rfl
    obtain ⟨n5, y5, h5⟩ := hf 5 _ rfl
    have h0' : DataW.trod enc Tryz.prog w 0 (fun _ => true) true n0 3 (([c0, c1, c2, c3, c4, c5].drop 0).take (Tryz.prog.cellsOf 3)) = some y0 := h0
    rw [cells_int1] at h0'
    have h1' : DataW.trod enc Tryz.prog w 0 (fun _ => true) true n1 3 (([c0, c1, c2, c3, c4, c5].drop 1).take (Tryz.prog.cellsOf 3)) = some y1 := h1
    rw [cells_int1] at h1'
    have h2' : DataW.trod enc Tryz.prog w 0 (fun _ => true) true n2 3 (([c0, c1, c2, c3, c4, c5].drop 2).take (Tryz.prog.cellsOf 3)) = some y2 := h2
    rw [cells_int1] at h2'
    have h3' : DataW.trod enc Tryz.prog w 0 (fun _ => true) true n3 24 (([c0, c1, c2, c3, c4, c5].drop 3).take (Tryz.prog.cellsOf 24)) = some y3 := h3
    rw [cells_slEntry] at h3'
    have h4' : DataW.trod enc Tryz.prog w 0 (fun _ => true) true n4 25 (([c0, c1, c2, c3, c4, c5].drop 4).take (Tryz.prog.cellsOf 25)) = some y4 := h4
    rw [cells_slLine] at h4'
    have h5' : DataW.trod enc Tryz.prog w 0 (fun _ => true) true n5 3 (([c0, c1, c2, c3, c4, c5].drop 5).take (Tryz.prog.cellsOf 3)) = some y5 := h5
    rw [cells_int1] at h5'
    obtain ⟨i0, e0, g0⟩ := Opens.i64 Tryz.underlying3 H enc w n0 _ _ h0'
    obtain ⟨i1, e1, g1⟩ := Opens.i64 Tryz.underlying3 H enc w n1 _ _ h1'
    obtain ⟨i2, e2, g2⟩ := Opens.i64 Tryz.underlying3 H enc w n2 _ _ h2'
    obtain ⟨i5, e5, g5⟩ := Opens.i64 Tryz.underlying3 H enc w n5 _ _ h5'
    obtain ⟨l3, v3, e3, s3⟩ := Opens.slice Tryz.underlying24 cells_ent (by decide) opens_ent H enc w n3 _ _ h3'
    obtain ⟨l4, v4, e4, s4⟩ := Opens.slice Tryz.underlying25 cells_line (by decide) opens_line H enc w n4 _ _ h4'
    obtain ⟨a3, k3, rfl⟩ := slice_form s3
    obtain ⟨a4, k4, rfl⟩ := slice_form s4
    simp at e0 e1 e2 e3 e4 e5
    subst e0 e1 e2 e3 e4 e5
    exact ⟨⟨i0, i1, i2, a3, l3.length, k3, a4, l4.length, k4, i5⟩, rfl, g0, g1⟩
theorem arg_acks {H : Type} {enc : TypeId × Value → H} {w : World} {v : Value} {d : DataW H} {ps : List MemPlace} {r : Reach} {b : Nat} (ho : Value.okWide Tryz.prog w r b 51 v) (h : DataW.Trod enc Tryz.prog w 0 (fun _ => true) true 51 v d ps) : ∃ l, AcksAt w v l ∧ ∀ c ∈ l, okWho (c.node, c.ix) := by
  obtain ⟨l, u, h1, h2⟩ := (Opens.slice Tryz.underlying51 cells_ack (by decide) opens_ack).arg h
  obtain rfl := cells_slice Tryz.underlying51 ho h1
  exact ⟨l, SlAt.rows (enc := encAk) h2⟩
theorem arg_int0 {w : World} {v : Value} {r : Reach} {b : Nat} (ho : Value.okWide Tryz.prog w r b 3 v) : ∃ x : Int, v = .int .i64 x := by
  unfold Value.okWide at ho
  rw [Tryz.underlying3] at ho
  cases v with
  | int k x =>
    obtain ⟨rfl, _⟩ := ho
    exact ⟨x, rfl⟩
  | _ => exact (show False from ho).elim
end Go.Proofs.YtmdmbimfdpngaaaGreat

/-
  The statement SnapAdds: called with any graph, epoch and acknowledgements the law returns true, and each argument reads afterwards as it read before. Conditions: none.
-/
namespace Go.Proofs.YtmdmbimfdpngaaaGreat.snapAdds
set_option linter.unusedSimpArgs false
set_option linter.unusedVariables false
open Go.ChangeShapes Go.WideShapes Go.ChangeAt Go.RowKit

theorem own : ownKnob Tryz.prog.godebug = none := by kernel_rfl

set_option maxRecDepth 100000 in
theorem lifted (os : Os) (started : os.Started) (H : Type) (enc : TypeId × Value → H) :
    ReturnsInHanded {} Tryz.checked os 4 .any (Rows.snapAddsSpec.pre6 enc Tryz.prog Tryz.f4 Rows.snapAddsRow.domain false) (Rows.snapAddsSpec.post enc Tryz.prog Tryz.f4 false true false false) := by
  refine returnsInHanded_of_change (C := Tryz.checked) own started (by kernel_rfl) Tryz.func4
    (ChangeSpec.witness6 (enc := enc) (C := Tryz.checked) false ⟨#[], #[.slice none 0 0, .int .i64 0, .slice none 0 0], []⟩ 8 (by kernel_rfl) (by kernel_rfl) (by kernel_rfl) (by kernel_rfl)) ?_
  intro W base args ds gs before hval0 hW _ _
  have hval : ∀ (j : Nat) t v, Tryz.f4.params[j]? = some t → args[j]? = some v → Value.okWide Tryz.prog W .any base t v := hval0
  have hW' := hW
  obtain ⟨p, q, hA0, hV, rfl, _, _⟩ := hW
  have hA : DataW.TrodAll enc Tryz.prog W 0 (fun _ => true) true Tryz.f4.params.toList args.toList ds p := hA0
  rw [Tryz.params4] at hA hval
  obtain ⟨v0, v1, v2, d0, d1, d2, p0, p1, p2, hargs, rfl, rfl, h0, h1, h2⟩ := trodAll_three hA
  obtain rfl : args = #[v0, v1, v2] := by cases args; simp_all
  obtain ⟨g, hg0⟩ := arg_nodes (hval 0 _ _ rfl rfl) h0
  obtain ⟨ep, rfl⟩ := arg_int0 (hval 1 _ _ rfl rfl)
  obtain ⟨l, hl, hok⟩ := arg_acks (hval 2 _ _ rfl rfl) h2
  refine (snapAdds_any v0 v2 g ep l W hg0 hl hok).mono fun e W' he => ?_
  obtain ⟨rfl, hg⟩ := he
  exact ⟨_, rfl, law_post laidOut (by kernel_rfl) rfl rfl Tryz.underlying4 hW' (fun gs h => by subst h; rfl) hg⟩

theorem holds : Rows.SnapAddsSaid :=
  OpenClaim.holds_of_wide 4 Tryz.f4 rfl rfl rfl rfl rfl rfl rfl ⟨rfl, rfl, rfl, rfl, rfl⟩ rfl rfl rfl rfl rfl (by kernel_rfl) Tryz.func4 (by kernel_rfl)
    (of_decide_eq_true (by kernel_rfl)) (by unfold Func.isWrapper; rw [if_neg (of_decide_eq_false (by kernel_rfl))]; exact ⟨rfl, rfl⟩)
    (fun os started H enc _ => lifted os started H enc)
#print axioms holds
end Go.Proofs.YtmdmbimfdpngaaaGreat.snapAdds
