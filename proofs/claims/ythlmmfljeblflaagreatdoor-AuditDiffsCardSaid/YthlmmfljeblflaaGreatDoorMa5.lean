import Derived.Test.YthlmmfljeblflaaGreatDoorMa0
/-! AuditDiffs, cut: what Diff tells. -/
namespace Go.Proofs.YthlmmfljeblflaaGreatDoor
set_option linter.unusedSimpArgs false
set_option linter.unusedVariables false
open Go.RowKit Ga
set_option maxRecDepth 100000

theorem strs_at {w : World} {v : Value} {l : List (List UInt8)} {k : Nat} (h : RowsAt 1 encS w v l) (hk : k < l.length) : ∃ b off cap, v = .slice (some ⟨b, off, none⟩) l.length cap ∧ Pre b w ∧ w.cell? ⟨b, off + k, none⟩ = some (.string ⟨l[k].toArray⟩) := by
  obtain ⟨a, cap, rfl, hm, hx⟩ := h
  obtain ⟨b, off, rfl, hc⟩ := hx (by intro e; subst e; simp at hk)
  have h0 := hc k l[k] (List.getElem?_eq_getElem hk) 0 _ rfl
  rw [Nat.mul_one, Nat.add_zero] at h0
  exact ⟨b, off, cap, rfl, Pre.ofCell h0, h0⟩
set_option maxHeartbeats 32000000 in
theorem ad_p7 (w0 W : World) (x y : Nat) (c d : MfC) (ma mb : Gr.Mf) (Q : Exit → Act → World → Prop) (a0 : Act) (v7 : Value)
    (h0 : Pre28 w0 x y c d a0 W) (hm : MfIs w0 c ma) (hm2 : MfIs w0 d mb) (h7 : a0.tmps.getD 7 undef = v7) (ho : OwnAt w0.heap.size 9 1 encS W v7 (diffA ma mb)) (hdl : (diffA ma mb).length ≤ 1000) (hD : ∀ W2, Grew w0 W2 → Calls Tryz.prog 13 #[.agg #[.int .i64 c.epoch, .int .i64 c.plans, .slice c.ao c.no c.co, .slice c.ag c.ng c.cg, .slice c.ae c.ne c.ce, .slice c.ax c.nx c.cx, .slice c.ap c.np c.cp], .agg #[.int .i64 d.epoch, .int .i64 d.plans, .slice d.ao d.no d.co, .slice d.ag d.ng d.cg, .slice d.ae d.ne d.ce, .slice d.ax d.nx d.cx, .slice d.ap d.np d.cp]] W2 (StrsPost W2 (diffA ma mb))) (hD2 : ∀ W2, Grew w0 W2 → Calls Tryz.prog 13 #[.agg #[.int .i64 c.epoch, .int .i64 c.plans, .slice c.ao c.no c.co, .slice c.ag c.ng c.cg, .slice c.ae c.ne c.ce, .slice c.ax c.nx c.cx, .slice c.ap c.np c.cp], .agg #[.int .i64 c.epoch, .int .i64 c.plans, .slice c.ao c.no c.co, .slice c.ag c.ng c.cg, .slice c.ae c.ne c.ce, .slice c.ax c.nx c.cx, .slice c.ap c.np c.cp]] W2 (StrsPost W2 []))
    (hret : ∀ a' w', Ret28 w0 a' w' → Q .ret a' w')
    (hnext : True) :
    Code.wp Tryz.prog (tail28 57) Q a0 W := by
  obtain ⟨hfr, h2, h3, hg, hbx, hby⟩ := h0
  obtain ⟨u, hu⟩ : ∃ u : Nat → Value, u = fun i => a0.tmps.getD i undef := ⟨_, rfl⟩
  rw [← hu] at hfr
  have u2 : u 2 = _ := (congrFun hu 2).trans h2
  have u3 : u 3 = _ := (congrFun hu 3).trans h3
  have u7 : u 7 = _ := (congrFun hu 7).trans h7
  clear hu h2 h3 h7
  subst hfr
  conv => arg 2; whnf
  unfold frame28
  rw [u2, u3, u7]
  clear u2 u3 u7
  have HG := Lib.hid hg
  have HBX := Lib.hid hbx
  have HBY := Lib.hid hby
  have HM := Lib.hid hm
  have HM2 := Lib.hid hm2
  have HRET := Lib.hid hret
  have HNX := Lib.hid hnext
  clear hg hbx hby hm hm2 hret hnext
  clear HNX HM HM2
  obtain ⟨ep, pl, ao, no, co, ag, ng, cg, ae, ne, ce, ax, nx, cx, ap, np, cp⟩ := c
  obtain ⟨ep2, pl2, ao2, no2, co2, ag2, ng2, cg2, ae2, ne2, ce2, ax2, nx2, cx2, ap2, np2, cp2⟩ := d
  simp only at hD hD2
  have HD := Lib.hid hD
  have HD2 := Lib.hid hD2
  have HR := Lib.hid (OwnAt.rows ho encS_len)
  clear ho hD hD2
  generalize diffA ma mb = l at *
  obtain ⟨a7, c7, rfl⟩ := HR.out.len
  have x0 := cell_of (o := 0) (W := W) (grew_heap (HG.out) HBX.out)
  have x1 := cell_of (o := 1) (W := W) (grew_heap (HG.out) HBX.out)
  have x2 := cell_of (o := 2) (W := W) (grew_heap (HG.out) HBX.out)
  have x3 := cell_of (o := 3) (W := W) (grew_heap (HG.out) HBX.out)
  have x4 := cell_of (o := 4) (W := W) (grew_heap (HG.out) HBX.out)
  have x5 := cell_of (o := 5) (W := W) (grew_heap (HG.out) HBX.out)
  have x6 := cell_of (o := 6) (W := W) (grew_heap (HG.out) HBX.out)
  have y0 := cell_of (o := 0) (W := W) (grew_heap (HG.out) HBY.out)
  have y1 := cell_of (o := 1) (W := W) (grew_heap (HG.out) HBY.out)
  have y2 := cell_of (o := 2) (W := W) (grew_heap (HG.out) HBY.out)
  have y3 := cell_of (o := 3) (W := W) (grew_heap (HG.out) HBY.out)
  have y4 := cell_of (o := 4) (W := W) (grew_heap (HG.out) HBY.out)
  have y5 := cell_of (o := 5) (W := W) (grew_heap (HG.out) HBY.out)
  have y6 := cell_of (o := 6) (W := W) (grew_heap (HG.out) HBY.out)
  simp [encMf] at x0 y0 x1 y1 x2 y2 x3 y3 x4 y4 x5 y5 x6 y6
  have px := Pre.mk (W := W) (heap_lt (grew_heap (HG.out) HBX.out))
  have py := Pre.mk (W := W) (heap_lt (grew_heap (HG.out) HBY.out))
  go_wp2_with fail
  refine (HD.out _ (HG.out.trans (by repeat (first | with_reducible exact Grew.refl _ | apply Grew.more | apply Grew.alloc | apply Grew.drew | apply Grew.drewN)))).mono ?_
  rintro e w1 ⟨v8, rfl, ho8, R8, N8, rfl⟩
  have HR8 := Lib.hid (OwnAt.rows ho8 encS_len)
  obtain ⟨a8, c8, rfl⟩ := HR8.out.len
  clear ho8 x0 x1 x2 x3 x4 x5 x6 y0 y1 y2 y3 y4 y5 y6 px py
  have x0 := cell_of (o := 0) (W := (W.more R8 N8)) (grew_heap (HG.out.trans (by repeat (first | with_reducible exact Grew.refl _ | apply Grew.more | apply Grew.alloc | apply Grew.drew | apply Grew.drewN))) HBX.out)
  have x1 := cell_of (o := 1) (W := (W.more R8 N8)) (grew_heap (HG.out.trans (by repeat (first | with_reducible exact Grew.refl _ | apply Grew.more | apply Grew.alloc | apply Grew.drew | apply Grew.drewN))) HBX.out)
  have x2 := cell_of (o := 2) (W := (W.more R8 N8)) (grew_heap (HG.out.trans (by repeat (first | with_reducible exact Grew.refl _ | apply Grew.more | apply Grew.alloc | apply Grew.drew | apply Grew.drewN))) HBX.out)
  have x3 := cell_of (o := 3) (W := (W.more R8 N8)) (grew_heap (HG.out.trans (by repeat (first | with_reducible exact Grew.refl _ | apply Grew.more | apply Grew.alloc | apply Grew.drew | apply Grew.drewN))) HBX.out)
  have x4 := cell_of (o := 4) (W := (W.more R8 N8)) (grew_heap (HG.out.trans (by repeat (first | with_reducible exact Grew.refl _ | apply Grew.more | apply Grew.alloc | apply Grew.drew | apply Grew.drewN))) HBX.out)
  have x5 := cell_of (o := 5) (W := (W.more R8 N8)) (grew_heap (HG.out.trans (by repeat (first | with_reducible exact Grew.refl _ | apply Grew.more | apply Grew.alloc | apply Grew.drew | apply Grew.drewN))) HBX.out)
  have x6 := cell_of (o := 6) (W := (W.more R8 N8)) (grew_heap (HG.out.trans (by repeat (first | with_reducible exact Grew.refl _ | apply Grew.more | apply Grew.alloc | apply Grew.drew | apply Grew.drewN))) HBX.out)
  have y0 := cell_of (o := 0) (W := (W.more R8 N8)) (grew_heap (HG.out.trans (by repeat (first | with_reducible exact Grew.refl _ | apply Grew.more | apply Grew.alloc | apply Grew.drew | apply Grew.drewN))) HBY.out)
  have y1 := cell_of (o := 1) (W := (W.more R8 N8)) (grew_heap (HG.out.trans (by repeat (first | with_reducible exact Grew.refl _ | apply Grew.more | apply Grew.alloc | apply Grew.drew | apply Grew.drewN))) HBY.out)
  have y2 := cell_of (o := 2) (W := (W.more R8 N8)) (grew_heap (HG.out.trans (by repeat (first | with_reducible exact Grew.refl _ | apply Grew.more | apply Grew.alloc | apply Grew.drew | apply Grew.drewN))) HBY.out)
  have y3 := cell_of (o := 3) (W := (W.more R8 N8)) (grew_heap (HG.out.trans (by repeat (first | with_reducible exact Grew.refl _ | apply Grew.more | apply Grew.alloc | apply Grew.drew | apply Grew.drewN))) HBY.out)
  have y4 := cell_of (o := 4) (W := (W.more R8 N8)) (grew_heap (HG.out.trans (by repeat (first | with_reducible exact Grew.refl _ | apply Grew.more | apply Grew.alloc | apply Grew.drew | apply Grew.drewN))) HBY.out)
  have y5 := cell_of (o := 5) (W := (W.more R8 N8)) (grew_heap (HG.out.trans (by repeat (first | with_reducible exact Grew.refl _ | apply Grew.more | apply Grew.alloc | apply Grew.drew | apply Grew.drewN))) HBY.out)
  have y6 := cell_of (o := 6) (W := (W.more R8 N8)) (grew_heap (HG.out.trans (by repeat (first | with_reducible exact Grew.refl _ | apply Grew.more | apply Grew.alloc | apply Grew.drew | apply Grew.drewN))) HBY.out)
  simp [encMf] at x0 y0 x1 y1 x2 y2 x3 y3 x4 y4 x5 y5 x6 y6
  have px := Pre.mk (W := (W.more R8 N8)) (heap_lt (grew_heap (HG.out.trans (by repeat (first | with_reducible exact Grew.refl _ | apply Grew.more | apply Grew.alloc | apply Grew.drew | apply Grew.drewN))) HBX.out))
  have py := Pre.mk (W := (W.more R8 N8)) (heap_lt (grew_heap (HG.out.trans (by repeat (first | with_reducible exact Grew.refl _ | apply Grew.more | apply Grew.alloc | apply Grew.drew | apply Grew.drewN))) HBY.out))
  go_wp2_with (go_at_call 13; refine (HD2.out _ (HG.out.trans (by repeat (first | with_reducible exact Grew.refl _ | apply Grew.more | apply Grew.alloc | apply Grew.drew | apply Grew.drewN)))).mono ?_; rintro e w1 ⟨v9, rfl, ho9, R9, N9, rfl⟩; obtain ⟨a9, c9, rfl⟩ := (OwnAt.rows ho9 encS_len).len; clear ho9)
  go_loopg [263] l.length (fun gg s263 wr => ∃ k : Nat, k ≤ l.length ∧ l.length - k ≤ gg ∧ s263 = .int .i64 k ∧ Hid (Grew (W.more R8 N8) wr))
  case atStart => exact ⟨0, by omega, by omega, rfl, Lib.hid (by repeat (first | with_reducible exact Grew.refl _ | apply Grew.more | apply Grew.alloc | apply Grew.drew | apply Grew.drewN))⟩
  case round =>
    obtain ⟨k, hk, hgg, rfl, HW⟩ := hrel
    rename World => wa
    have HW2 : Hid (Grew W wa) := Lib.hid (Grew.trans (by repeat (first | with_reducible exact Grew.refl _ | apply Grew.more | apply Grew.alloc | apply Grew.drew | apply Grew.drewN)) HW.out)
    by_cases hlt : k < l.length
    · obtain ⟨b8, off8, cq8, e8, pb8, q8⟩ := strs_at (HR8.out.grew HW.out) hlt
      obtain ⟨b7, off7, cq7, e7, pb7, q7⟩ := strs_at (HR.out.grew HW2.out) hlt
      cases e8
      cases e7
      generalize l[k] = s at *
      go_upto_region 63 with fail
      go_quiet (fail)
      go_wp2
      go_roundg (l.length - (k + 1))
      case measure => omega
      case rel => exact ⟨k + 1, by omega, by omega, by go_num, Lib.hid (HW.out.trans (by repeat (first | with_reducible exact Grew.refl _ | apply Grew.more | apply Grew.alloc | apply Grew.drew | apply Grew.drewN)))⟩
    · obtain rfl : k = l.length := by omega
      go_wp2
      exact HRET.out _ _ ⟨rfl, rfl, HG.out.trans (HW2.out.trans (by repeat (first | with_reducible exact Grew.refl _ | apply Grew.more | apply Grew.alloc | apply Grew.drew | apply Grew.drewN)))⟩
end Go.Proofs.YthlmmfljeblflaaGreatDoor

/-! audit.Diff. -/
namespace Go.Proofs.YthlmmfljeblflaaGreatDoor
set_option linter.unusedSimpArgs false
set_option linter.unusedVariables false
open Go.RowKit Ga
set_option maxRecDepth 100000

set_option maxHeartbeats 16000000 in
theorem diff28_any (c d : MfC) (a b : Gr.Mf) (w : World) (ha : MfIs w c a) (hb : MfIs w d b) (n1 : NilOr (.slice c.ag c.ng c.cg) a.graph.length) (n2 : NilOr (.slice d.ag d.ng d.cg) b.graph.length) (l1 : a.graph.length ≤ 100) (l2 : b.graph.length ≤ 100) (sa : Small a.graph) (sb : Small b.graph) (ea : a.ents.length ≤ 100) (eb : b.ents.length ≤ 100)
    (hid : ∀ x ∈ (a.graph ++ b.graph).map (·.id), -1099511627776 ≤ x ∧ x ≤ 1099511627776) (hP : Pow w) :
    Calls Tryz.prog 13 #[.agg #[.int .i64 c.epoch, .int .i64 c.plans, .slice c.ao c.no c.co, .slice c.ag c.ng c.cg, .slice c.ae c.ne c.ce, .slice c.ax c.nx c.cx, .slice c.ap c.np c.cp], .agg #[.int .i64 d.epoch, .int .i64 d.plans, .slice d.ao d.no d.co, .slice d.ag d.ng d.cg, .slice d.ae d.ne d.ce, .slice d.ax d.nx d.cx, .slice d.ap d.np d.cp]] w (StrsPost w (diffA a b)) := by
  have HU := Lib.hid fun W (q : Grew w W) => unlG_any _ _ _ _ W (ha.g.grew q) (hb.g.grew q) n1 n2 l1 l2 sa sb hid (hP.grew q)
  have HC := Lib.hid fun W (q : Grew w W) => aCells_any _ _ _ _ W (ha.e.grew q) (hb.e.grew q) ea eb (hP.grew q)
  have hl1 := unlG_len a.graph b.graph l1 l2
  have hl2 := cellsA_len a.ents b.ents
  have hD : diffA a b = unlG a.graph b.graph ++ cellsA a.ents b.ents := rfl
  rw [hD]
  clear ha hb n1 n2 l1 l2 sa sb ea eb hid hP hD
  generalize unlG a.graph b.graph = us at *
  generalize cellsA a.ents b.ents = cs at *
  obtain ⟨ep, pl, ao, no, co, ag, ng, cg, ae, ne, ce, ax, nx, cx, ap, np, cp⟩ := c
  obtain ⟨ep2, pl2, ao2, no2, co2, ag2, ng2, cg2, ae2, ne2, ce2, ax2, nx2, cx2, ap2, np2, cp2⟩ := d
  simp only at HU HC
  show Calls Tryz.prog 13 #[.agg #[.int .i64 ep, .int .i64 pl, .slice ao no co, .slice ag ng cg, .slice ae ne ce, .slice ax nx cx, .slice ap np cp], .agg #[.int .i64 ep2, .int .i64 pl2, .slice ao2 no2 co2, .slice ag2 ng2 cg2, .slice ae2 ne2 ce2, .slice ax2 nx2 cx2, .slice ap2 np2 cp2]] w _
  go_enter Tryz.func13, Tryz.ntmps13
  go_upto_region 1 with fail
  refine wp_region_noPanic ?_
  go_region_law (first
    | (go_simp; go_at_call 23; refine (HU.out _ (by repeat (first | with_reducible exact Grew.refl _ | apply Grew.more | apply Grew.alloc | apply Grew.drew | apply Grew.drewN))).mono ?_; rintro e w1 ⟨v1, rfl, ho1, R3, n3, rfl⟩; (have HO1 := Lib.hid (OwnAt.low ho1 (base' := w.heap.size) (by simp [World.size_alloc]; omega))); clear ho1)
    | (go_simp; go_at_call 24; refine (HC.out _ (by repeat (first | with_reducible exact Grew.refl _ | apply Grew.more | apply Grew.alloc | apply Grew.drew | apply Grew.drewN))).mono ?_; rintro e w1 ⟨v2, rfl, ho2, R4, n4, rfl⟩; (have HO2 := Lib.hid ho2); clear ho2)
    | (refine if_wanted (wanted_none rfl) ?_; apply wp_ownL (w0 := w) (l := us) (l2 := cs) (s := .tmp 9) (x := .tmp 14) (t := 42) (ho := rfl) (ht := Tryz.underlying42) (hinfo := infoStr) (henc := encS_len) (hone := encS_one) (hz := rfl) (hs := rfl) (hx := rfl) (hk := by decide) (hby := by decide); (case hlen => first | omega | fail "OMEGA"); (case hown => first | exact OwnAt.grew (own_undrew HO1.out) (by repeat (first | with_reducible exact Grew.refl _ | apply Grew.more | apply Grew.alloc | apply Grew.drew | apply Grew.drewN)) | exact OwnAt.grew HO1.out (by repeat (first | with_reducible exact Grew.refl _ | apply Grew.more | apply Grew.alloc | apply Grew.drew | apply Grew.drewN)) | fail "G1"); (case hg => first | exact (by repeat (first | with_reducible exact Grew.refl _ | apply Grew.more | apply Grew.alloc | apply Grew.drew | apply Grew.drewN)) | exact (((Grew.refl _).alloc _).more _ _).more _ _ | (trace_state; fail "G2")); (case hown2 => first | exact own_undrew2 HO2.out | exact HO2.out | exact own_undrew HO2.out | fail "G3"); intro v7 W7 hA; (have HA7 := Lib.hid hA); clear hA))
  all_goals
    refine NoPanic.normal ?_
    go_wp2
    go_ret
    exact ⟨_, rfl, HA7.out.2.1, HA7.out.1⟩
end Go.Proofs.YthlmmfljeblflaaGreatDoor
