import Derived.Test.YtangapokicnfgaaGreatMr44
import Derived.Test.YtangapokicnfgaaGreatMr28
import Derived.Deep.QuietTactic
import Derived.BigQuiet
import Derived.Test.YtangapokicnfgaaGreatMr49
import Derived.Test.YtangapokicnfgaaGreatMr43
/-! forebayref07.Val, Right, Rec; forebayref13.fits; forebayref01.Text. -/
namespace Go.Proofs.YtangapokicnfgaaGreat
set_option linter.unusedSimpArgs false
set_option linter.unusedVariables false
open Go.RowKit Ga
set_option maxRecDepth 100000

theorem fits50_any (n m : Int) (w : World) : Calls Tryz.prog 50 #[.int .i64 n, .int .i64 m] w fun e w' => e = .returned (.bool (numB n m)) ∧ w = w' := by
  by_cases h1 : 0 ≤ n
  · have hb : numB n m = decide (n ≤ m) := by unfold numB; simp [h1]
    rw [hb]
    clear hb
    go_enter Tryz.func50, Tryz.ntmps50
    go_wp2
    go_ret
    exact ⟨rfl, rfl⟩
  · have hb : numB n m = false := by unfold numB; simp [h1]
    rw [hb]
    clear hb
    go_enter Tryz.func50, Tryz.ntmps50
    go_wp2
    go_ret
    exact ⟨rfl, rfl⟩
set_option maxHeartbeats 1000000 in
theorem refVal07_any (x y : Int) (w : World) : Calls Tryz.prog 92 #[.agg #[.int .i64 x, .int .i64 y]] w (Gives (.bool (rightV (x, y))) w) := by
  have H : rightV (x, y) = (decide (into x = x) && decide (into y = y)) := by
    unfold rightV; simp only [eq_comm]
  by_cases h1 : into x = x <;> by_cases h2 : into y = y
  all_goals
    rw [H]
    simp only [h1, h2, decide_true, decide_false, Bool.and_true, Bool.and_false, Bool.and_self]
    clear H
    try (have h1' : ¬ x = into x := fun e => h1 e.symm)
    try (have h2' : ¬ y = into y := fun e => h2 e.symm)
    go_enter Tryz.func92, Tryz.ntmps92
    go_wp2
    refine wp_region_seq 8 Tryz.mixed (by kernel_rfl) (by kernel_rfl) ?_
    iterate 8
      apply Seq.val
      focus
        rintro w1 u ⟨R1, n1, rfl⟩ -
        simp [putFacts, Oper.deps, Region.binds, List.filter_cons, Region.dstOf, Fact.at, Act.put, World.more_drew]
        go_wp2_with (first
        | (go_at_call 119; refine (refOf_any _ _ _).mono ?_; rintro e w1 ⟨rfl, R1, n1, rfl⟩))
        exact ⟨by repeat (first | exact Grew.refl _ | apply Grew.more | apply Grew.alloc | apply Grew.drew), rfl, _, _, rfl, rfl, rfl⟩
    rintro u w1 ⟨R1, n1, rfl⟩ -
    simp [putFacts, Region.dstOf, Fact.at, Act.put, List.range_succ, World.more_drew]
    go_wp2
    go_ret
    refine ⟨by simp [h1, h2], ?_⟩
    repeat (first | exact Grew.refl _ | apply Grew.more | apply Grew.alloc | apply Grew.drew)
set_option maxHeartbeats 4000000 in
theorem refRight07_any (nd ky p0 q0 p1 q1 : Int) (w : World) : Calls Tryz.prog 51 #[.agg #[.int .i64 nd, .int .i64 ky, .int .i64 p0, .int .i64 q0, .int .i64 p1, .int .i64 q1]] w (Gives (.bool (okEn ⟨nd, ky, (p0, q0), (p1, q1)⟩)) w) := by
  obtain ⟨r, hr⟩ : ∃ r, okEn ⟨nd, ky, (p0, q0), (p1, q1)⟩ = r := ⟨_, rfl⟩
  rw [hr]
  have hr2 : r = (decide (0 ≤ nd) && decide (nd < 8) && decide (0 ≤ ky) && decide (ky < 64) && (rightV (p0, q0) && rightV (p1, q1))) := hr.symm
  clear hr
  have HV0 := Lib.hid fun W => refVal07_any p0 q0 W
  have HV1 := Lib.hid fun W => refVal07_any p1 q1 W
  generalize rightV (p0, q0) = b0 at *
  generalize rightV (p1, q1) = b1 at *
  by_cases h1 : 0 ≤ nd
  case neg =>
    have hr3 : r = false := by rw [hr2]; simp [h1]
    subst hr3
    clear HV0 HV1 hr2
    go_enter Tryz.func51, Tryz.ntmps51
    go_wp2
    go_ret
    exact ⟨rfl, by repeat (first | with_reducible exact Grew.refl _ | apply Grew.more | apply Grew.alloc | apply Grew.drew | apply Grew.drewN)⟩
  by_cases h2 : nd < 8
  case neg =>
    have hr3 : r = false := by rw [hr2]; simp [h2]
    subst hr3
    clear HV0 HV1 hr2
    go_enter Tryz.func51, Tryz.ntmps51
    go_wp2
    go_ret
    exact ⟨rfl, by repeat (first | with_reducible exact Grew.refl _ | apply Grew.more | apply Grew.alloc | apply Grew.drew | apply Grew.drewN)⟩
  by_cases h3 : 0 ≤ ky
  case neg =>
    have hr3 : r = false := by rw [hr2]; simp [h3]
    subst hr3
    clear HV0 HV1 hr2
    go_enter Tryz.func51, Tryz.ntmps51
    go_wp2
    go_ret
    exact ⟨rfl, by repeat (first | with_reducible exact Grew.refl _ | apply Grew.more | apply Grew.alloc | apply Grew.drew | apply Grew.drewN)⟩
  by_cases h4 : ky < 64
  case neg =>
    have hr3 : r = false := by rw [hr2]; simp [h4]
    subst hr3
    clear HV0 HV1 hr2
    go_enter Tryz.func51, Tryz.ntmps51
    go_wp2
    go_ret
    exact ⟨rfl, by repeat (first | with_reducible exact Grew.refl _ | apply Grew.more | apply Grew.alloc | apply Grew.drew | apply Grew.drewN)⟩
  simp only [h1, h2, h3, h4, decide_true, Bool.true_and] at hr2
  cases b0
  · subst hr2
    go_enter Tryz.func51, Tryz.ntmps51
    go_wp2_with (go_at_call 92; refine (HV0.out _).mono ?_; rintro e w1 ⟨rfl, R1, n1, rfl⟩)
    go_ret
    exact ⟨rfl, by repeat (first | with_reducible exact Grew.refl _ | apply Grew.more | apply Grew.alloc | apply Grew.drew | apply Grew.drewN)⟩
  · obtain rfl : r = b1 := by simpa using hr2
    clear hr2
    go_enter Tryz.func51, Tryz.ntmps51
    go_wp2_with fail
    refine (HV0.out _).mono ?_
    rintro e w1 ⟨rfl, R1, n1, rfl⟩
    go_wp2_with fail
    refine (HV1.out _).mono ?_
    rintro e w1 ⟨rfl, R2, n2, rfl⟩
    go_wp2
    go_ret
    exact ⟨rfl, by repeat (first | with_reducible exact Grew.refl _ | apply Grew.more | apply Grew.alloc | apply Grew.drew | apply Grew.drewN)⟩
def recB (k : Int) (v : Val) : Bool := decide (0 ≤ k) && decide (k < 64) && rightV v
set_option maxHeartbeats 4000000 in
theorem refRec07_any (ky p q : Int) (w : World) : Calls Tryz.prog 52 #[.agg #[.int .i64 ky, .int .i64 p, .int .i64 q]] w (Gives (.bool (recB ky (p, q))) w) := by
  obtain ⟨r, hr⟩ : ∃ r, recB ky (p, q) = r := ⟨_, rfl⟩
  rw [hr]
  have hr2 : r = (decide (0 ≤ ky) && decide (ky < 64) && rightV (p, q)) := hr.symm
  clear hr
  have HV0 := Lib.hid fun W => refVal07_any p q W
  generalize rightV (p, q) = b0 at *
  by_cases h3 : 0 ≤ ky
  case neg =>
    have hr3 : r = false := by rw [hr2]; simp [h3]
    subst hr3
    clear HV0 hr2
    go_enter Tryz.func52, Tryz.ntmps52
    go_wp2
    go_ret
    exact ⟨rfl, by repeat (first | with_reducible exact Grew.refl _ | apply Grew.more | apply Grew.alloc | apply Grew.drew | apply Grew.drewN)⟩
  by_cases h4 : ky < 64
  case neg =>
    have hr3 : r = false := by rw [hr2]; simp [h4]
    subst hr3
    clear HV0 hr2
    go_enter Tryz.func52, Tryz.ntmps52
    go_wp2
    go_ret
    exact ⟨rfl, by repeat (first | with_reducible exact Grew.refl _ | apply Grew.more | apply Grew.alloc | apply Grew.drew | apply Grew.drewN)⟩
  simp only [h3, h4, decide_true, Bool.true_and] at hr2
  subst hr2
  go_enter Tryz.func52, Tryz.ntmps52
  go_wp2_with fail
  refine (HV0.out _).mono ?_
  rintro e w1 ⟨rfl, R1, n1, rfl⟩
  go_wp2
  go_ret
  exact ⟨rfl, by repeat (first | with_reducible exact Grew.refl _ | apply Grew.more | apply Grew.alloc | apply Grew.drew | apply Grew.drewN)⟩
theorem refText01_any (t : List UInt8) (ht : t.length ≤ 1000000) (w : World) : Calls Tryz.prog 67 #[.string ⟨t.toArray⟩] w (Gives (str (Oc.be t.length ++ t)) w) := by
  have HP := Lib.hid fun W => refPut01_any (t.length : Int) (fits_of (by omega) (by omega)) W
  have hl : ¬ 9223372036854775807 < (Oc.be (t.length : Int)).length + t.length := by rw [Oc.be_len]; omega
  have he : (⟨(Oc.be (t.length : Int)).toArray⟩ : ByteArray) ++ ⟨t.toArray⟩ = ⟨(Oc.be (t.length : Int) ++ t).toArray⟩ := by apply ByteArray.ext; simp
  go_enter Tryz.func67, Tryz.ntmps67
  go_wp2_with (go_at_call 84; refine (HP.out _).mono ?_; rintro e w1 ⟨rfl, R1, n1, rfl⟩)
  go_ret
  exact ⟨by simp [str, he], by repeat (first | with_reducible exact Grew.refl _ | apply Grew.more | apply Grew.alloc | apply Grew.drew | apply Grew.drewN)⟩
end Go.Proofs.YtangapokicnfgaaGreat

/-! forebayref13.Manifest. -/
namespace Go.Proofs.YtangapokicnfgaaGreat
set_option linter.unusedSimpArgs false
set_option linter.unusedVariables false
open Go.RowKit Ga
set_option maxRecDepth 100000

set_option maxHeartbeats 16000000 in
theorem refMan13_any (c : MfC) (m : Gr.Mf) (w : World) (h : MfIs w c m) (ho : m.out.length ≤ 3000) (hr : Gr.RightM fitsP m) : Calls Tryz.prog 26 #[.agg #[.int .i64 c.epoch, .int .i64 c.plans, .slice c.ao c.no c.co, .slice c.ag c.ng c.cg, .slice c.ae c.ne c.ce, .slice c.ax c.nx c.cx, .slice c.ap c.np c.cp]] w (Gives (str (Gr.putM putI m)) w) := by
  have h8 := nodes_route h.g
  have he512 := ents_512 hr
  obtain ⟨ho1, ho3⟩ := offs_len hr h8
  have HEF := Lib.hid (ents_fit hr)
  have HLF := Lib.hid (lns_fit hr)
  have HOF : Hid (∀ x ∈ m.offs, Oc.fitsN x = true) := Lib.hid fun x hx => by have := hr.o4 x hx; exact fits_of (by omega) (by omega)
  have f1 : Oc.fitsN m.epoch = true := by have := hr.ep; exact fits_of (by omega) (by omega)
  have f2 : Oc.fitsN m.plans = true := by have := hr.pl; exact fits_of (by omega) (by omega)
  have f3 : Oc.fitsN (m.offs.length : Int) = true := fits_of (by omega) (by omega)
  have f4 : Oc.fitsN (m.ents.length : Int) = true := fits_of (by omega) (by omega)
  have f5 : Oc.fitsN (m.out.length : Int) = true := fits_of (by omega) (by omega)
  have HOKB := Lib.hid (right_okB hr.gr h8)
  have HGS := Lib.hid (graph_self hr)
  have HPN := Lib.hid (show m.plan = [] ∨ Gr.OkPl fitsP m.plan from hr.pn.imp id fun q => q.1)
  have HEQ := Lib.hid (putM_eq m)
  have hgl := hr.gr.len
  have HGL : (Gr.putG putI m.graph).length ≤ 3000 := putG_len hr.gr h8
  have e1 := h.epoch
  have e2 := h.plans
  have HO := Lib.hid h.o
  have HG := Lib.hid h.g
  have HE := Lib.hid h.e
  have HX := Lib.hid h.x
  have HP := Lib.hid h.p
  obtain ⟨ep, pl, ao, co, ag, cg, ae, ce, ax, cx, ap, cp, rfl⟩ := h.lit
  simp only at e1 e2 HO HG HE HX HP
  rw [e1] at HEQ f1
  rw [e2] at HEQ f2
  clear h hr h8 e1 e2
  show Calls Tryz.prog _ #[.agg #[.int .i64 ep, .int .i64 pl, .slice ao m.offs.length co, .slice ag m.graph.length cg, .slice ae m.ents.length ce, .slice ax m.out.length cx, .slice ap m.plan.length cp]] w _
  have HBX0 := Lib.hid (heap_new_at w (.cells #[.int .i64 ep, .int .i64 pl, .slice ao m.offs.length co, .slice ag m.graph.length cg, .slice ae m.ents.length ce, .slice ax m.out.length cx, .slice ap m.plan.length cp] 55) _ rfl)
  have b1 : (Oc.be ep).length ≤ 4 := Nat.le_of_eq (Oc.be_len _)
  have b2 : (Oc.be pl).length ≤ 4 := Nat.le_of_eq (Oc.be_len _)
  have b3 : (Oc.be (m.offs.length : Int)).length ≤ 4 := Nat.le_of_eq (Oc.be_len _)
  have b4 : (Oc.be (m.ents.length : Int)).length ≤ 4 := Nat.le_of_eq (Oc.be_len _)
  have b5 : (Oc.be (m.out.length : Int)).length ≤ 4 := Nat.le_of_eq (Oc.be_len _)
  go_enter Tryz.func26, Tryz.ntmps26
  go_wp2_with fail
  refine wp_region_seq 13 Tryz.mixed (by kernel_rfl) (by kernel_rfl) ?_
  iterate 13
    apply Seq.val
    focus
      rintro w1 u ⟨R1, n1, rfl⟩ hF
      simp [moreFacts, Fact.more, Oper.deps, Region.binds, List.filter_cons, World.more_drew] at hF
      simp [putFacts, Oper.deps, Region.binds, List.filter_cons, Region.dstOf, Fact.at, Act.put, World.more_drew]
      go_wp2_with (first
        | (go_at_call 41; refine (num13_any _ (by assumption) _).mono ?_; rintro e w1 ⟨rfl, R3, n3, rfl⟩)
        )
      exact ⟨by repeat (first | with_reducible exact Grew.refl _ | apply Grew.more | apply Grew.alloc | apply Grew.drew | apply Grew.drewN), rfl, _, _, rfl, rfl, rfl⟩
  rintro u w1 ⟨R1, n1, rfl⟩ hF
  clear hF
  simp [putFacts, Region.dstOf, Fact.at, Act.put, List.range_succ, World.more_drew]
  go_wp2
  have hT0 : (Oc.be ep ++ (Oc.be pl ++ Oc.be (m.offs.length : Int))).length ≤ 12 := by simp only [List.length_append, Oc.be_len]; omega
  have hbe : (⟨(Oc.be ep).toArray⟩ ++ ⟨(Oc.be pl).toArray⟩ ++ ⟨(Oc.be (m.offs.length : Int)).toArray⟩ : ByteArray) = ⟨(Oc.be ep ++ (Oc.be pl ++ Oc.be (m.offs.length : Int))).toArray⟩ := by rw [str_cat, str_cat, List.append_assoc]
  rw [hbe]
  generalize hT0e : Oc.be ep ++ (Oc.be pl ++ Oc.be (m.offs.length : Int)) = T0 at *
  have HT0 := Lib.hid hT0e
  clear hbe hT0e
  go_loopg [3, 4] m.offs.length (fun gg s3 s4 wr => ∃ g : Nat, g ≤ m.offs.length ∧ m.offs.length - g ≤ gg ∧ s4 = .int .i64 g ∧ s3 = str (T0 ++ Oc.bes (m.offs.take g)) ∧ Hid (Grew w wr) ∧ Hid (wr.heap[w.heap.size]? = some (.cells #[.int .i64 ep, .int .i64 pl, .slice ao m.offs.length co, .slice ag m.graph.length cg, .slice ae m.ents.length ce, .slice ax m.out.length cx, .slice ap m.plan.length cp] 55)))
  case atStart => exact ⟨0, by omega, by omega, rfl, by simp [Oc.bes], Lib.hid (by repeat (first | with_reducible exact Grew.refl _ | apply Grew.more | apply Grew.alloc | apply Grew.drew | apply Grew.drewN)), Lib.hid (grew_heap (by repeat (first | with_reducible exact Grew.refl _ | apply Grew.more | apply Grew.alloc | apply Grew.drew | apply Grew.drewN)) HBX0.out)⟩
  case round =>
    obtain ⟨g, hg8, hgg, rfl, rfl, HGR, HBX⟩ := hrel
    have hbl := Oc.bes_len (m.offs.take g)
    rw [List.length_take_of_le hg8] at hbl
    have hTl : (T0 ++ Oc.bes (m.offs.take g)).length ≤ 100 := by rw [List.length_append, hbl]; omega
    have x0 := cell_of (o := 0) HBX.out
    have x1 := cell_of (o := 1) HBX.out
    have x2 := cell_of (o := 2) HBX.out
    have x3 := cell_of (o := 3) HBX.out
    have x4 := cell_of (o := 4) HBX.out
    have x5 := cell_of (o := 5) HBX.out
    have x6 := cell_of (o := 6) HBX.out
    simp at x0 x1 x2 x3 x4 x5 x6
    have px := Pre.mk (heap_lt HBX.out)
    by_cases hlt : g < m.offs.length
    · obtain ⟨af', cf', e, -, hx⟩ := ints_open (HO.out.grew HGR.out)
      cases e
      obtain ⟨bf, offf, rfl, hpf, cx⟩ := hx g hlt
      have hbs := Oc.bes_succ m.offs g hlt
      have fx := HOF.out _ (List.getElem_mem hlt)
      clear hx
      generalize m.offs[g] = x at *
      have bx : (Oc.be x).length ≤ 4 := Nat.le_of_eq (Oc.be_len _)
      have HNS := Lib.hid (show T0 ++ Oc.bes (m.offs.take (g + 1)) = (T0 ++ Oc.bes (m.offs.take g)) ++ Oc.be x by rw [hbs, List.append_assoc])
      clear hbs hbl
      generalize T0 ++ Oc.bes (m.offs.take g) = T at *
      go_wp2_with (go_at_call 41; refine (num13_any _ fx _).mono ?_; rintro e w2 ⟨rfl, R5, n5, rfl⟩)
      go_roundg (m.offs.length - (g + 1))
      case measure => omega
      case rel => exact ⟨g + 1, by omega, by omega, by go_num, by rw [HNS.out]; exact congrArg Value.string (str_cat _ _), Lib.hid (HGR.out.trans (by repeat (first | with_reducible exact Grew.refl _ | apply Grew.more | apply Grew.alloc | apply Grew.drew | apply Grew.drewN))), Lib.hid (grew_heap (by repeat (first | with_reducible exact Grew.refl _ | apply Grew.more | apply Grew.alloc | apply Grew.drew | apply Grew.drewN)) HBX.out)⟩
    · obtain rfl : g = m.offs.length := by omega
      rw [List.take_length] at *
      generalize hT1 : T0 ++ Oc.bes m.offs = T1 at *
      have HT1 := Lib.hid hT1
      clear hT1 hbl
      have HGG := Lib.hid fun W (g : Grew wr W) => graph13_any _ m.graph W ((HG.out.grew HGR.out).grew g) HOKB.out (by omega)
      generalize hTG : Gr.putG putI m.graph = TG at *
      have HTG := Lib.hid hTG
      clear hTG
      go_wp2_with fail
      refine wp_region_seq 10 Tryz.mixed (by kernel_rfl) (by kernel_rfl) ?_
      iterate 10
        apply Seq.val
        focus
          rintro w1 u ⟨R1, n1, rfl⟩ hF
          simp [moreFacts, Fact.more, Oper.deps, Region.binds, List.filter_cons, World.more_drew] at hF
          simp [putFacts, Oper.deps, Region.binds, List.filter_cons, Region.dstOf, Fact.at, Act.put, World.more_drew]
          go_wp2_with (first
            | (go_at_call 13; refine (HGG.out _ (by repeat (first | with_reducible exact Grew.refl _ | apply Grew.more | apply Grew.alloc | apply Grew.drew | apply Grew.drewN))).mono ?_; rintro e w2 ⟨rfl, R5, n5, rfl⟩)
            | (go_at_call 41; refine (num13_any _ f4 _).mono ?_; rintro e w2 ⟨rfl, R5, n5, rfl⟩))
          exact ⟨by repeat (first | with_reducible exact Grew.refl _ | apply Grew.more | apply Grew.alloc | apply Grew.drew | apply Grew.drewN), rfl, _, _, rfl, rfl, rfl⟩
      rintro u w1 ⟨R1, n1, rfl⟩ hF
      clear hF
      simp [putFacts, Region.dstOf, Fact.at, Act.put, List.range_succ, World.more_drew]
      go_wp2
      have hbe2 : (⟨T1.toArray⟩ ++ ⟨TG.toArray⟩ ++ ⟨(Oc.be (m.ents.length : Int)).toArray⟩ : ByteArray) = ⟨((T1 ++ TG) ++ Oc.be (m.ents.length : Int)).toArray⟩ := by rw [str_cat, str_cat]
      rw [hbe2]
      have hT2l : ((T1 ++ TG) ++ Oc.be (m.ents.length : Int)).length ≤ 3200 := by simp only [List.length_append, Oc.be_len]; omega
      generalize hT2 : (T1 ++ TG) ++ Oc.be (m.ents.length : Int) = T2 at *
      have HT2 := Lib.hid hT2
      clear hbe2 hT2 x0 x1 x2 x3 x4 x5 x6 px
      go_loopg [3, 5] m.ents.length (fun gg s3 s5 wz => ∃ g : Nat, g ≤ m.ents.length ∧ m.ents.length - g ≤ gg ∧ s5 = .int .i64 g ∧ s3 = str (T2 ++ (m.ents.take g).flatMap Gr.putE) ∧ Hid (Grew w wz) ∧ Hid (wz.heap[w.heap.size]? = some (.cells #[.int .i64 ep, .int .i64 pl, .slice ao m.offs.length co, .slice ag m.graph.length cg, .slice ae m.ents.length ce, .slice ax m.out.length cx, .slice ap m.plan.length cp] 55)))
      case atStart => exact ⟨0, by omega, by omega, rfl, by simp, Lib.hid (HGR.out.trans (by repeat (first | with_reducible exact Grew.refl _ | apply Grew.more | apply Grew.alloc | apply Grew.drew | apply Grew.drewN))), Lib.hid (grew_heap (by repeat (first | with_reducible exact Grew.refl _ | apply Grew.more | apply Grew.alloc | apply Grew.drew | apply Grew.drewN)) HBX.out)⟩
      case round =>
        obtain ⟨g, hg8, hgg, rfl, rfl, HGS1, HBS1⟩ := hrel
        have hfl := flat_lenE Gr.putE 24 putE_len (m.ents.take g)
        rw [List.length_take, Nat.min_eq_left hg8] at hfl
        have hTl : (T2 ++ (m.ents.take g).flatMap Gr.putE).length ≤ 16000 := by rw [List.length_append, hfl]; omega
        have x0 := cell_of (o := 0) HBS1.out
        have x1 := cell_of (o := 1) HBS1.out
        have x2 := cell_of (o := 2) HBS1.out
        have x3 := cell_of (o := 3) HBS1.out
        have x4 := cell_of (o := 4) HBS1.out
        have x5 := cell_of (o := 5) HBS1.out
        have x6 := cell_of (o := 6) HBS1.out
        simp at x0 x1 x2 x3 x4 x5 x6
        have px := Pre.mk (heap_lt HBS1.out)
        by_cases hlt : g < m.ents.length
        · obtain ⟨a', cap', e, -, hx⟩ := EntsAt.open6 (HE.out.grew HGS1.out)
          cases e
          obtain ⟨b, off, rfl, hb, c0, c1, c2, c3, c4, c5⟩ := hx g hlt
          have HTF := Lib.hid (take_flatG Gr.putE m.ents g hlt)
          have hfx := HEF.out _ (List.getElem_mem hlt)
          clear hx hfl
          generalize m.ents[g] = x at *
          obtain ⟨nd, ky, ⟨p0, q0⟩, ⟨p1, q1⟩⟩ := x
          simp only at c0 c1 c2 c3 c4 c5 hfx
          simp only [List.all_cons, List.all_nil, Bool.and_true, Bool.and_eq_true] at hfx
          obtain ⟨fx_nd, fx_ky, fx_p0, fx_q0, fx_p1, fx_q1⟩ := hfx
          have bx_nd : (Oc.be nd).length ≤ 4 := Nat.le_of_eq (Oc.be_len _)
          have bx_ky : (Oc.be ky).length ≤ 4 := Nat.le_of_eq (Oc.be_len _)
          have bx_p0 : (Oc.be p0).length ≤ 4 := Nat.le_of_eq (Oc.be_len _)
          have bx_q0 : (Oc.be q0).length ≤ 4 := Nat.le_of_eq (Oc.be_len _)
          have bx_p1 : (Oc.be p1).length ≤ 4 := Nat.le_of_eq (Oc.be_len _)
          have bx_q1 : (Oc.be q1).length ≤ 4 := Nat.le_of_eq (Oc.be_len _)
          generalize hTe : T2 ++ (m.ents.take g).flatMap Gr.putE = T at *
          have HTE := Lib.hid hTe
          clear hTe
          go_upto_region 11 with fail
          refine wp_region_seq 33 Tryz.mixed (by kernel_rfl) (by kernel_rfl) ?_
          iterate 33
            apply Seq.val
            focus
              rintro w1 u ⟨R1, n1, rfl⟩ hF
              simp [moreFacts, Fact.more, Oper.deps, Region.binds, List.filter_cons, World.more_drew] at hF
              simp [putFacts, Oper.deps, Region.binds, List.filter_cons, Region.dstOf, Fact.at, Act.put, World.more_drew]
              go_wp2_with (go_at_call 41; refine (num13_any _ (by assumption) _).mono ?_; rintro e w2 ⟨rfl, R5, n5, rfl⟩)
              exact ⟨by repeat (first | with_reducible exact Grew.refl _ | apply Grew.more | apply Grew.alloc | apply Grew.drew | apply Grew.drewN), rfl, _, _, rfl, rfl, rfl⟩
          rintro u w1 ⟨R1, n1, rfl⟩ hF
          clear hF
          simp [putFacts, Region.dstOf, Fact.at, Act.put, List.range_succ, World.more_drew]
          go_wp2
          go_roundg (m.ents.length - (g + 1))
          case measure => omega
          case rel => exact ⟨g + 1, by omega, by omega, by go_num, by rw [HTF.out, ← List.append_assoc, HTE.out]; exact congrArg Value.string (by simp only [str_cat]; simp [Gr.putE, Gr.putLn, Gr.putV]), Lib.hid (HGS1.out.trans (by repeat (first | with_reducible exact Grew.refl _ | apply Grew.more | apply Grew.alloc | apply Grew.drew | apply Grew.drewN))), Lib.hid (grew_heap (by repeat (first | with_reducible exact Grew.refl _ | apply Grew.more | apply Grew.alloc | apply Grew.drew | apply Grew.drewN)) HBS1.out)⟩
        · obtain rfl : g = m.ents.length := by omega
          rw [List.take_length] at *
          generalize hT3 : T2 ++ m.ents.flatMap Gr.putE = T3 at *
          have HT3 := Lib.hid hT3
          clear hT3 hfl
          go_wp2_with (go_at_call 41; refine (num13_any _ f5 _).mono ?_; rintro e w2 ⟨rfl, R5, n5, rfl⟩)
          rw [str_cat]
          have hT4l : (T3 ++ Oc.be (m.out.length : Int)).length ≤ 16100 := by rw [List.length_append]; omega
          generalize hT4 : T3 ++ Oc.be (m.out.length : Int) = T4 at *
          have HT4 := Lib.hid hT4
          clear hT4 x0 x1 x2 x3 x4 x5 x6 px
          go_loopg [3, 7] m.out.length (fun gg s3 s7 wz => ∃ g : Nat, g ≤ m.out.length ∧ m.out.length - g ≤ gg ∧ s7 = .int .i64 g ∧ s3 = str (T4 ++ (m.out.take g).flatMap Gr.putLn) ∧ Hid (Grew w wz) ∧ Hid (wz.heap[w.heap.size]? = some (.cells #[.int .i64 ep, .int .i64 pl, .slice ao m.offs.length co, .slice ag m.graph.length cg, .slice ae m.ents.length ce, .slice ax m.out.length cx, .slice ap m.plan.length cp] 55)))
          case atStart => exact ⟨0, by omega, by omega, rfl, by simp, Lib.hid (HGS1.out.trans (by repeat (first | with_reducible exact Grew.refl _ | apply Grew.more | apply Grew.alloc | apply Grew.drew | apply Grew.drewN))), Lib.hid (grew_heap (by repeat (first | with_reducible exact Grew.refl _ | apply Grew.more | apply Grew.alloc | apply Grew.drew | apply Grew.drewN)) HBS1.out)⟩
          case round =>
            obtain ⟨g, hg8, hgg, rfl, rfl, HGS2, HBS2⟩ := hrel
            have hfl := flat_lenE Gr.putLn 20 putLn_len (m.out.take g)
            rw [List.length_take, Nat.min_eq_left hg8] at hfl
            have hTl : (T4 ++ (m.out.take g).flatMap Gr.putLn).length ≤ 80000 := by rw [List.length_append, hfl]; omega
            have x0 := cell_of (o := 0) HBS2.out
            have x1 := cell_of (o := 1) HBS2.out
            have x2 := cell_of (o := 2) HBS2.out
            have x3 := cell_of (o := 3) HBS2.out
            have x4 := cell_of (o := 4) HBS2.out
            have x5 := cell_of (o := 5) HBS2.out
            have x6 := cell_of (o := 6) HBS2.out
            simp at x0 x1 x2 x3 x4 x5 x6
            have px := Pre.mk (heap_lt HBS2.out)
            by_cases hlt : g < m.out.length
            · obtain ⟨a', cap', e, -, hx⟩ := LnsAt.open5 (HX.out.grew HGS2.out)
              cases e
              obtain ⟨b, off, rfl, hb, c0, c1, c2, c3, c4⟩ := hx g hlt
              have HTF := Lib.hid (take_flatG Gr.putLn m.out g hlt)
              have hfx := HLF.out _ (List.getElem_mem hlt)
              clear hx hfl
              generalize m.out[g] = x at *
              obtain ⟨si, fr, ky, ⟨p0, q0⟩⟩ := x
              simp only at c0 c1 c2 c3 c4 hfx
              simp only [List.all_cons, List.all_nil, Bool.and_true, Bool.and_eq_true] at hfx
              obtain ⟨fx_si, fx_fr, fx_ky, fx_p0, fx_q0⟩ := hfx
              have bx_si : (Oc.be si).length ≤ 4 := Nat.le_of_eq (Oc.be_len _)
              have bx_fr : (Oc.be fr).length ≤ 4 := Nat.le_of_eq (Oc.be_len _)
              have bx_ky : (Oc.be ky).length ≤ 4 := Nat.le_of_eq (Oc.be_len _)
              have bx_p0 : (Oc.be p0).length ≤ 4 := Nat.le_of_eq (Oc.be_len _)
              have bx_q0 : (Oc.be q0).length ≤ 4 := Nat.le_of_eq (Oc.be_len _)
              generalize hTe : T4 ++ (m.out.take g).flatMap Gr.putLn = T at *
              have HTE := Lib.hid hTe
              clear hTe
              go_upto_region 17 with fail
              refine wp_region_seq 23 Tryz.mixed (by kernel_rfl) (by kernel_rfl) ?_
              iterate 23
                apply Seq.val
                focus
                  rintro w1 u ⟨R1, n1, rfl⟩ hF
                  simp [moreFacts, Fact.more, Oper.deps, Region.binds, List.filter_cons, World.more_drew] at hF
                  simp [putFacts, Oper.deps, Region.binds, List.filter_cons, Region.dstOf, Fact.at, Act.put, World.more_drew]
                  go_wp2_with (go_at_call 41; refine (num13_any _ (by assumption) _).mono ?_; rintro e w2 ⟨rfl, R5, n5, rfl⟩)
                  exact ⟨by repeat (first | with_reducible exact Grew.refl _ | apply Grew.more | apply Grew.alloc | apply Grew.drew | apply Grew.drewN), rfl, _, _, rfl, rfl, rfl⟩
              rintro u w1 ⟨R1, n1, rfl⟩ hF
              clear hF
              simp [putFacts, Region.dstOf, Fact.at, Act.put, List.range_succ, World.more_drew]
              go_wp2
              go_roundg (m.out.length - (g + 1))
              case measure => omega
              case rel => exact ⟨g + 1, by omega, by omega, by go_num, by rw [HTF.out, ← List.append_assoc, HTE.out]; exact congrArg Value.string (by simp only [str_cat]; simp [Gr.putE, Gr.putLn, Gr.putV]), Lib.hid (HGS2.out.trans (by repeat (first | with_reducible exact Grew.refl _ | apply Grew.more | apply Grew.alloc | apply Grew.drew | apply Grew.drewN))), Lib.hid (grew_heap (by repeat (first | with_reducible exact Grew.refl _ | apply Grew.more | apply Grew.alloc | apply Grew.drew | apply Grew.drewN)) HBS2.out)⟩
            · obtain rfl : g = m.out.length := by omega
              rw [List.take_length] at *
              generalize hT5 : T4 ++ m.out.flatMap Gr.putLn = T5 at *
              have HT5 := Lib.hid hT5
              clear hT5 hfl
              have HFIN : Hid (∀ t, t = planBy m.plan → T5 ++ (Oc.be t.length ++ t) = Gr.putM putI m) := Lib.hid fun t ht => by
                subst ht
                rw [HEQ.out, ← HT5.out, ← HT4.out, ← HT3.out, ← HT2.out, ← HT1.out, ← HT0.out]
                rw [← HTG.out]
                unfold Gr.putG
                rw [HGS.out, be_three]
              have HPL := Lib.hid fun W (g : Grew w W) => plan13_any _ m.plan W (HP.out.grew g)
              go_wp2_with fail
              refine (HPL.out _ (HGS2.out.trans (by repeat (first | with_reducible exact Grew.refl _ | apply Grew.more | apply Grew.alloc | apply Grew.drew | apply Grew.drewN)))).mono ?_
              rintro e w8 ⟨t, b, rfl, hg8, ht1, ht2⟩
              have HG8 := Lib.hid hg8
              have ht : t = planBy m.plan ∧ t.length ≤ 8000 := by
                rcases HPN.out with e | e
                · rw [e] at ht2 ⊢
                  rw [(ht2 (fun q => by have := q.1; simp at this)).1, planBy_nil]
                  exact ⟨rfl, by simp⟩
                · rw [(ht1 e).1, planBy_ne (fun q => by have := e.1; rw [q] at this; simp at this)]
                  exact ⟨rfl, Gr.putPl_len (fun l hl => putI_len l hl) e⟩
              have HT9 := Lib.hid (HFIN.out t ht.1)
              have htl := ht.2
              clear hg8 ht1 ht2 ht
              have htb : (Oc.be (t.length : Int)).length = 4 := Oc.be_len _
              have hcl : (Oc.be (t.length : Int) ++ t).length ≤ 8004 := by rw [List.length_append, htb]; omega
              have HX9 := Lib.hid fun W => refText01_any t (by omega) W
              generalize Oc.be (t.length : Int) ++ t = t9 at *
              clear htb
              go_wp2_with (go_at_call 67; refine (HX9.out _).mono ?_; rintro e w9 ⟨rfl, R9, n9, rfl⟩)
              go_ret
              exact ⟨by rw [← HT9.out]; simp [str_cat], HGS2.out.trans ((show Grew _ _ by repeat (first | with_reducible exact Grew.refl _ | apply Grew.more | apply Grew.alloc | apply Grew.drew | apply Grew.drewN)).trans (HG8.out.trans (by repeat (first | with_reducible exact Grew.refl _ | apply Grew.more | apply Grew.alloc | apply Grew.drew | apply Grew.drewN))))⟩
end Go.Proofs.YtangapokicnfgaaGreat
