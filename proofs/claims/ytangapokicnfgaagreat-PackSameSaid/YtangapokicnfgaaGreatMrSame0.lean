import Derived.Test.YtangapokicnfgaaGreatMr53
import Derived.Test.YtangapokicnfgaaGreatMr11
import Derived.Test.YtangapokicnfgaaGreatMr54
import Derived.Test.YtangapokicnfgaaGreatRows
/-! forebaylaw13.PackSame. -/
namespace Go.Proofs.YtangapokicnfgaaGreat
set_option linter.unusedSimpArgs false
set_option linter.unusedVariables false
open Go.RowKit Ga
set_option maxRecDepth 100000

theorem eqMf_no {a b : Gr.Mf} (h : a ≠ b) : eqMf a b = false := by unfold eqMf; simp [h]
/-- pack.Manifest, whatever it is -/
def ManRes (m : Gr.Mf) (r : List UInt8 × Int) : Prop := Gr.RightM fitsP m ∧ r = (Gr.putM putI m, 0) ∨ ¬ Gr.RightM fitsP m ∧ r = ([], 1)
theorem packMan_any (c : MfC) (m : Gr.Mf) (w : World) (h : MfIs w c m) (hs : SmallM m) : ∃ r, ManRes m r ∧ ∀ W, Grew w W → Calls Tryz.prog 23 #[.agg #[.int .i64 c.epoch, .int .i64 c.plans, .slice c.ao c.no c.co, .slice c.ag c.ng c.cg, .slice c.ae c.ne c.ce, .slice c.ax c.nx c.cx, .slice c.ap c.np c.cp]] W (Gives (.tuple #[str r.1, .int .i64 r.2]) W) := by
  by_cases hr : Gr.RightM fitsP m
  · exact ⟨_, .inl ⟨hr, rfl⟩, fun W g => packMan_ok c m W (h.grew g) hs.s hs.p (by have := hs.o; omega) hr⟩
  · exact ⟨_, .inr ⟨hr, rfl⟩, fun W g => packMan_bad c m W (h.grew g) hs.s hs.p (by have := hs.e; omega) (rightB_no hr).symm⟩
theorem putM_same {a b : Gr.Mf} (ha : Gr.RightM fitsP a) (hb : Gr.RightM fitsP b) (ra : ∀ n ∈ a.graph, n.route.length = 8) (rb : ∀ n ∈ b.graph, n.route.length = 8) : Gr.putM putI a = Gr.putM putI b ↔ a = b :=
  Gr.same_bytes codecI fits_nil (fun p hp => safe_fits hp) (fun l hl => putI_len l hl) ha hb ra rb
set_option maxHeartbeats 16000000 in
theorem packSames_any (c d : MfC) (a b : Gr.Mf) (w : World) (ha : MfIs w c a) (hb : MfIs w d b) : Calls Tryz.prog 7 #[.agg #[.int .i64 c.epoch, .int .i64 c.plans, .slice c.ao c.no c.co, .slice c.ag c.ng c.cg, .slice c.ae c.ne c.ce, .slice c.ax c.nx c.cx, .slice c.ap c.np c.cp], .agg #[.int .i64 d.epoch, .int .i64 d.plans, .slice d.ao d.no d.co, .slice d.ag d.ng d.cg, .slice d.ae d.ne d.ce, .slice d.ax d.nx d.cx, .slice d.ap d.np d.cp]] w (Gives (.bool true) w) := by
  have hga := fun W (g : Grew w W) => great13_any c a W (ha.grew g)
  have hgb := fun W (g : Grew w W) => great13_any d b W (hb.grew g)
  have ra := nodes_route ha.g
  have rb := nodes_route hb.g
  cases h1 : greatM a
  case true =>
    rw [h1] at hga
    have HGA := Lib.hid hga
    clear hga hgb h1 ra rb
    go_enter Tryz.func7, Tryz.ntmps7
    go_wp2_with (first
      | (go_at_call 8; refine (awake13_any _).mono ?_; rintro e w1 ⟨rfl, R1, n1, rfl⟩)
      | (go_at_call 21; refine (HGA.out _ (by repeat (first | with_reducible exact Grew.refl _ | apply Grew.more | apply Grew.alloc | apply Grew.drew | apply Grew.drewN))).mono ?_; rintro e w1 ⟨rfl, R2, n2, rfl⟩))
    go_ret
    exact ⟨rfl, by repeat (first | with_reducible exact Grew.refl _ | apply Grew.more | apply Grew.alloc | apply Grew.drew | apply Grew.drewN)⟩
  cases h2 : greatM b
  case true =>
    rw [h1] at hga
    rw [h2] at hgb
    have HGA := Lib.hid hga
    have HGB := Lib.hid hgb
    clear hga hgb h1 h2 ra rb
    go_enter Tryz.func7, Tryz.ntmps7
    go_wp2_with (go_at_call 8; refine (awake13_any _).mono ?_; rintro e w1 ⟨rfl, R1, n1, rfl⟩; go_wp2_with fail)
    refine (HGA.out _ (by repeat (first | with_reducible exact Grew.refl _ | apply Grew.more | apply Grew.alloc | apply Grew.drew | apply Grew.drewN))).mono ?_
    rintro e w1 ⟨rfl, R2, n2, rfl⟩
    go_wp2_with fail
    refine (HGB.out _ (by repeat (first | with_reducible exact Grew.refl _ | apply Grew.more | apply Grew.alloc | apply Grew.drew | apply Grew.drewN))).mono ?_
    rintro e w1 ⟨rfl, R3, n3, rfl⟩
    go_wp2
    go_ret
    exact ⟨rfl, by repeat (first | with_reducible exact Grew.refl _ | apply Grew.more | apply Grew.alloc | apply Grew.drew | apply Grew.drewN)⟩
  rw [h1] at hga
  rw [h2] at hgb
  have hsa := greatM_small h1
  have hsb := greatM_small h2
  have HGA := Lib.hid hga
  have HGB := Lib.hid hgb
  obtain ⟨⟨ta, xa⟩, hra, hma⟩ := packMan_any c a w ha hsa
  obtain ⟨⟨tb, xb⟩, hrb, hmb⟩ := packMan_any d b w hb hsb
  simp only at hma hmb
  have HMA := Lib.hid hma
  have HMB := Lib.hid hmb
  clear hga hgb h1 h2 hma hmb
  rcases hra with ⟨qa, ea⟩ | ⟨qa, ea⟩
  case inr =>
    cases ea
    clear qa hrb ra rb hsa hsb
    go_enter Tryz.func7, Tryz.ntmps7
    go_wp2_with fail
    refine (awake13_any _).mono ?_
    rintro e w1 ⟨rfl, R1, n1, rfl⟩
    go_wp2_with fail
    refine (HGA.out _ (by repeat (first | with_reducible exact Grew.refl _ | apply Grew.more | apply Grew.alloc | apply Grew.drew | apply Grew.drewN))).mono ?_
    rintro e w1 ⟨rfl, R2, n2, rfl⟩
    go_wp2_with fail
    refine (HGB.out _ (by repeat (first | with_reducible exact Grew.refl _ | apply Grew.more | apply Grew.alloc | apply Grew.drew | apply Grew.drewN))).mono ?_
    rintro e w1 ⟨rfl, R3, n3, rfl⟩
    go_wp2_with fail
    refine (HMA.out _ (by repeat (first | with_reducible exact Grew.refl _ | apply Grew.more | apply Grew.alloc | apply Grew.drew | apply Grew.drewN))).mono ?_
    rintro e w1 ⟨rfl, R4, n4, rfl⟩
    go_wp2_with fail
    refine (HMB.out _ (by repeat (first | with_reducible exact Grew.refl _ | apply Grew.more | apply Grew.alloc | apply Grew.drew | apply Grew.drewN))).mono ?_
    rintro e w1 ⟨rfl, R5, n5, rfl⟩
    go_wp2
    go_ret
    exact ⟨rfl, by repeat (first | with_reducible exact Grew.refl _ | apply Grew.more | apply Grew.alloc | apply Grew.drew | apply Grew.drewN)⟩
  cases ea
  rcases hrb with ⟨qb, eb⟩ | ⟨qb, eb⟩
  case inr =>
    cases eb
    clear qa qb ra rb hsa hsb
    go_enter Tryz.func7, Tryz.ntmps7
    go_wp2_with fail
    refine (awake13_any _).mono ?_
    rintro e w1 ⟨rfl, R1, n1, rfl⟩
    go_wp2_with fail
    refine (HGA.out _ (by repeat (first | with_reducible exact Grew.refl _ | apply Grew.more | apply Grew.alloc | apply Grew.drew | apply Grew.drewN))).mono ?_
    rintro e w1 ⟨rfl, R2, n2, rfl⟩
    go_wp2_with fail
    refine (HGB.out _ (by repeat (first | with_reducible exact Grew.refl _ | apply Grew.more | apply Grew.alloc | apply Grew.drew | apply Grew.drewN))).mono ?_
    rintro e w1 ⟨rfl, R3, n3, rfl⟩
    go_wp2_with fail
    refine (HMA.out _ (by repeat (first | with_reducible exact Grew.refl _ | apply Grew.more | apply Grew.alloc | apply Grew.drew | apply Grew.drewN))).mono ?_
    rintro e w1 ⟨rfl, R4, n4, rfl⟩
    go_wp2_with fail
    refine (HMB.out _ (by repeat (first | with_reducible exact Grew.refl _ | apply Grew.more | apply Grew.alloc | apply Grew.drew | apply Grew.drewN))).mono ?_
    rintro e w1 ⟨rfl, R5, n5, rfl⟩
    go_wp2
    go_ret
    exact ⟨rfl, by repeat (first | with_reducible exact Grew.refl _ | apply Grew.more | apply Grew.alloc | apply Grew.drew | apply Grew.drewN)⟩
  cases eb
  have hsame := putM_same qa qb ra rb
  have hlena := putM_len qa hsa ra
  have hlenb := putM_len qb hsb rb
  have hgm := getM_put qa ra
  have hGM := fun W => getMan_any (Gr.putM putI a) W (by omega)
  rw [hgm] at hGM
  have HGM := Lib.hid hGM
  have HSM := Lib.hid fun W (g : Grew w W) => packSameM_any c d a b W (ha.grew g) (hb.grew g) (okMf_of qa hsa) (okMf_of qb hsb)
  have HA := Lib.hid ha
  have hb1 : (Gr.putM putI a == Gr.putM putI b) = eqMf a b := by
    by_cases e : a = b
    · subst e
      rw [eqMf_self]
      exact beq_self_eq_true _
    · rw [eqMf_no e]
      exact beq_eq_false_iff_ne.2 fun q => e (hsame.1 q)
  clear hsame hgm hGM qa qb ra rb hsa hsb
  generalize Gr.putM putI a = ta at *
  generalize Gr.putM putI b = tb at *
  generalize eqMf a b = q at *
  go_enter Tryz.func7, Tryz.ntmps7
  go_wp2_with fail
  refine (awake13_any _).mono ?_
  rintro e w1 ⟨rfl, R1, n1, rfl⟩
  go_wp2_with fail
  refine (HGA.out _ (by repeat (first | with_reducible exact Grew.refl _ | apply Grew.more | apply Grew.alloc | apply Grew.drew | apply Grew.drewN))).mono ?_
  rintro e w1 ⟨rfl, R2, n2, rfl⟩
  go_wp2_with fail
  refine (HGB.out _ (by repeat (first | with_reducible exact Grew.refl _ | apply Grew.more | apply Grew.alloc | apply Grew.drew | apply Grew.drewN))).mono ?_
  rintro e w1 ⟨rfl, R3, n3, rfl⟩
  go_wp2_with fail
  refine (HMA.out _ (by repeat (first | with_reducible exact Grew.refl _ | apply Grew.more | apply Grew.alloc | apply Grew.drew | apply Grew.drewN))).mono ?_
  rintro e w1 ⟨rfl, R4, n4, rfl⟩
  go_wp2_with fail
  refine (HMB.out _ (by repeat (first | with_reducible exact Grew.refl _ | apply Grew.more | apply Grew.alloc | apply Grew.drew | apply Grew.drewN))).mono ?_
  rintro e w1 ⟨rfl, R5, n5, rfl⟩
  go_wp2_with fail
  refine (HSM.out _ (by repeat (first | with_reducible exact Grew.refl _ | apply Grew.more | apply Grew.alloc | apply Grew.drew | apply Grew.drewN))).mono ?_
  rintro e w1 ⟨rfl, R6, n6, rfl⟩
  have hqq : (!(q == (ta == tb))) = false := by rw [hb1]; simp
  go_wp2_with fail
  refine (HGM.out _).mono ?_
  rintro e w1 ⟨cx, rfl, hx, R7, n7, rfl⟩
  simp only at hx
  have HX := Lib.hid hx
  obtain ⟨ep2, pl2, ao2, co2, ag2, cg2, ae2, ce2, ax2, cx2, ap2, cp2, rfl⟩ := hx.lit
  have HXG := Lib.hid hx.g
  have HAG := Lib.hid ha.g
  obtain ⟨ep, pl, ao, co, ag, cg, ae, ce, ax, cx, ap, cp, rfl⟩ := ha.lit
  simp only at HXG HAG
  clear hx ha hb hqq hb1
  go_wp2
  go_loopg [51] a.graph.length (fun gg s51 wr => ∃ g : Nat, g ≤ a.graph.length ∧ a.graph.length - g ≤ gg ∧ s51 = .int .i64 g ∧ Hid (Grew w wr) ∧ Hid (wr.heap[w.heap.size]? = some (.cells #[.int .i64 ep, .int .i64 pl, .slice ao a.offs.length co, .slice ag a.graph.length cg, .slice ae a.ents.length ce, .slice ax a.out.length cx, .slice ap a.plan.length cp] 55)) ∧ Hid (wr.heap[(w.heap.size + 1 + 1 + R1.size + R2.size + R3.size + R4.size + R5.size + R6.size + R7.size)]? = some (.cells #[.int .i64 ep2, .int .i64 pl2, .slice ao2 a.offs.length co2, .slice ag2 a.graph.length cg2, .slice ae2 a.ents.length ce2, .slice ax2 a.out.length cx2, .slice ap2 a.plan.length cp2] 55)) ∧ Hid (NodesAt wr (.slice ag2 a.graph.length cg2) a.graph))
  case atStart => exact ⟨0, by omega, by omega, rfl, Lib.hid (by repeat (first | with_reducible exact Grew.refl _ | apply Grew.more | apply Grew.alloc | apply Grew.drew | apply Grew.drewN)), Lib.hid (grew_heap (by repeat (first | with_reducible exact Grew.refl _ | apply Grew.more | apply Grew.alloc | apply Grew.drew | apply Grew.drewN)) (heap_new_at w _ _ rfl)), Lib.hid (heap_new_at _ _ _ (by simp [go_sem])), Lib.hid (HXG.out.grew (by repeat (first | with_reducible exact Grew.refl _ | apply Grew.more | apply Grew.alloc | apply Grew.drew | apply Grew.drewN)))⟩
  case round =>
    obtain ⟨g, hg8, hgg, rfl, HGR, HBA, HBX, HXR⟩ := hrel
    by_cases hlt : g < a.graph.length
    · have x3 := cell_of (o := 3) HBA.out
      have y3 := cell_of (o := 3) HBX.out
      simp at x3 y3
      have px := Pre.mk (heap_lt HBA.out)
      have py := Pre.mk (heap_lt HBX.out)
      obtain ⟨av, cv, e, hmg, hx⟩ := (HAG.out.grew HGR.out).openC
      cases e
      obtain ⟨av2, cv2, e, -, hx2⟩ := HXR.out.openC
      cases e
      obtain ⟨b1, off1, c1, rfl, hb1, hn1, -, -, -, c3, -⟩ := hx g hlt
      obtain ⟨b2, off2, c2, rfl, hb2, hn2, -, -, -, d3, -⟩ := hx2 g hlt
      clear hx hx2
      have HS := Lib.hid fun W (gw : Grew wr W) => refSame_any _ _ _ _ W (hn2.p.grew gw) (hn1.p.grew gw)
      rw [decide_eq_true rfl] at HS
      unfold NdC.vp at HS
      clear hn1 hn2
      generalize c1.ap = p1 at *
      generalize c1.np = p2 at *
      generalize c1.cp = p3 at *
      generalize c2.ap = q1 at *
      generalize c2.np = q2 at *
      generalize c2.cp = q3 at *
      go_upto_region 15 with fail
      refine wp_region_seq 14 Tryz.mixed (by kernel_rfl) (by kernel_rfl) ?_
      iterate 14
        apply Seq.val
        focus
          rintro w1 u ⟨R11, n11, rfl⟩ hF
          simp [moreFacts, Fact.more, Oper.deps, Region.binds, List.filter_cons, World.more_drew] at hF
          simp [putFacts, Oper.deps, Region.binds, List.filter_cons, Region.dstOf, Fact.at, Act.put, World.more_drew]
          go_wp2_with (go_at_call 28; refine (HS.out _ (by repeat (first | with_reducible exact Grew.refl _ | apply Grew.more | apply Grew.alloc | apply Grew.drew | apply Grew.drewN))).mono ?_; rintro e w2 ⟨rfl, R12, n12, rfl⟩)
          exact ⟨by repeat (first | with_reducible exact Grew.refl _ | apply Grew.more | apply Grew.alloc | apply Grew.drew | apply Grew.drewN), rfl, _, _, rfl, rfl, rfl⟩
      rintro u w1 ⟨R1, n1, rfl⟩ hF
      clear hF
      simp [putFacts, Region.dstOf, Fact.at, Act.put, List.range_succ, World.more_drew]
      go_wp2
      go_roundg (a.graph.length - (g + 1))
      case measure => omega
      case rel => exact ⟨g + 1, by omega, by omega, by go_num, Lib.hid (HGR.out.trans (by repeat (first | with_reducible exact Grew.refl _ | apply Grew.more | apply Grew.alloc | apply Grew.drew | apply Grew.drewN))), Lib.hid (grew_heap (by repeat (first | with_reducible exact Grew.refl _ | apply Grew.more | apply Grew.alloc | apply Grew.drew | apply Grew.drewN)) HBA.out), Lib.hid (grew_heap (by repeat (first | with_reducible exact Grew.refl _ | apply Grew.more | apply Grew.alloc | apply Grew.drew | apply Grew.drewN)) HBX.out), Lib.hid (HXR.out.grew (by repeat (first | with_reducible exact Grew.refl _ | apply Grew.more | apply Grew.alloc | apply Grew.drew | apply Grew.drewN)))⟩
    · obtain rfl : g = a.graph.length := by omega
      go_wp2
      go_ret
      exact ⟨rfl, HGR.out.trans (by repeat (first | with_reducible exact Grew.refl _ | apply Grew.more | apply Grew.alloc | apply Grew.drew | apply Grew.drewN))⟩
end Go.Proofs.YtangapokicnfgaaGreat

/-
  The statement PackSame: called with any two manifests the law returns true, and each argument reads afterwards as it read before. Conditions: none.
-/
namespace Go.Proofs.YtangapokicnfgaaGreat.packSame
set_option linter.unusedSimpArgs false
set_option linter.unusedVariables false
open Go.ChangeShapes Go.WideShapes Go.ChangeAt Go.RowKit

theorem own : ownKnob Tryz.prog.godebug = none := by kernel_rfl

set_option maxRecDepth 100000 in
theorem lifted (os : Os) (started : os.Started) (H : Type) (enc : TypeId × Value → H) :
    ReturnsInHanded {} Tryz.checked os 7 .any (Rows.packSameSpec.pre6 enc Tryz.prog Tryz.f7 Rows.packSameRow.domain false) (Rows.packSameSpec.post enc Tryz.prog Tryz.f7 false true false false) := by
  refine returnsInHanded_of_change (C := Tryz.checked) own started (by kernel_rfl) Tryz.func7
    (ChangeSpec.witness6 (enc := enc) (C := Tryz.checked) false ⟨#[], #[.agg #[.int .i64 0, .int .i64 0, .slice none 0 0, .slice none 0 0, .slice none 0 0, .slice none 0 0, .slice none 0 0], .agg #[.int .i64 0, .int .i64 0, .slice none 0 0, .slice none 0 0, .slice none 0 0, .slice none 0 0, .slice none 0 0]], []⟩ 8 (by kernel_rfl) (by kernel_rfl) (by kernel_rfl) (by kernel_rfl)) ?_
  intro W base args ds gs before hval0 hW _ _
  have hval : ∀ (j : Nat) t v, Tryz.f7.params[j]? = some t → args[j]? = some v → Value.okWide Tryz.prog W .any base t v := hval0
  have hW' := hW
  obtain ⟨p, q, hA0, hV, rfl, _, _⟩ := hW
  have hA : DataW.TrodAll enc Tryz.prog W 0 (fun _ => true) true Tryz.f7.params.toList args.toList ds p := hA0
  rw [Tryz.params7] at hA hval
  obtain ⟨v0, v1, d0, d1, p0, p1, rfl, rfl, rfl, h0, h1⟩ := trodAll_two hA
  obtain ⟨c, a, rfl, hc⟩ := arg_man (hval 0 _ _ rfl rfl) h0
  obtain ⟨d, b, rfl, hd⟩ := arg_man (hval 1 _ _ rfl rfl) h1
  refine (packSames_any c d a b W hc hd).mono fun e W' he => ?_
  obtain ⟨rfl, hg⟩ := he
  exact ⟨_, rfl, law_post laidOut (by kernel_rfl) rfl rfl Tryz.underlying4 hW' (fun gs h => by subst h; rfl) hg⟩

theorem holds : Rows.PackSameSaid :=
  OpenClaim.holds_of_wide 7 Tryz.f7 rfl rfl rfl rfl rfl rfl rfl ⟨rfl, rfl, rfl, rfl, rfl⟩ rfl rfl rfl rfl rfl (by kernel_rfl) Tryz.func7 (by kernel_rfl)
    (of_decide_eq_true (by kernel_rfl)) (by unfold Func.isWrapper; rw [if_neg (of_decide_eq_false (by kernel_rfl))]; exact ⟨rfl, rfl⟩)
    (fun os started H enc _ => lifted os started H enc)
#print axioms holds
end Go.Proofs.YtangapokicnfgaaGreat.packSame
