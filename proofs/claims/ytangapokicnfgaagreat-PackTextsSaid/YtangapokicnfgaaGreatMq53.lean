import Derived.Test.YtangapokicnfgaaGreatMq50
import Derived.Test.YtangapokicnfgaaGreatMq52
import Derived.Test.YtangapokicnfgaaGreatMq36
import Derived.Test.YtangapokicnfgaaGreatMq6
import Derived.Test.YtangapokicnfgaaGreatMq14
import Derived.Test.YtangapokicnfgaaGreatMq7
/-! forebaylaw13.PackPlans. -/
namespace Go.Proofs.YtangapokicnfgaaGreat
set_option linter.unusedSimpArgs false
set_option linter.unusedVariables false
open Go.RowKit Ga
set_option maxRecDepth 100000

theorem greatP_small {p : List Gr.Stp} (h : greatP p = false) : ∀ s ∈ p, s.nd.frm.length ≤ 100 ∧ s.nd.prog.length ≤ 1000 := by
  unfold greatP at h
  simp only [Bool.or_eq_false_iff, decide_eq_false_iff_not, List.any_eq_false] at h
  intro s hs
  have h1 := h.2 s hs
  unfold greatG greatN at h1
  simp at h1
  omega
theorem great10_p (u : Value) (p : List Gr.Stp) (w : World) (hu : StepsAt w u p) : Calls Tryz.prog 15 #[.slice none 0 0, u] w (Gives (.bool (greatP p)) w) := by
  have h := great10_any (.slice none 0 0) u [] p w (NodesAt.nil w) hu
  rw [show (greatG [] || greatP p) = greatP p from Bool.false_or _] at h
  exact h
theorem ref13_ok (v : Value) (p : List Gr.Stp) (w : World) (hv : StepsAt w v p) (h : Gr.OkPl fitsP p) : Calls Tryz.prog 17 #[v] w (Gives (.tuple #[str (Gr.putPl putI p), .bool true]) w) := by
  refine (plan13_any v p w hv).mono ?_
  rintro e w' ⟨t, b, rfl, g, h1, h2⟩
  obtain ⟨rfl, rfl⟩ := h1 h
  exact ⟨rfl, g⟩
theorem ref13_no (v : Value) (p : List Gr.Stp) (w : World) (hv : StepsAt w v p) (h : ¬ Gr.OkPl fitsP p) : Calls Tryz.prog 17 #[v] w (Gives (.tuple #[.string ⟨#[]⟩, .bool false]) w) := by
  refine (plan13_any v p w hv).mono ?_
  rintro e w' ⟨t, b, rfl, g, h1, h2⟩
  obtain ⟨rfl, rfl⟩ := h2 h
  exact ⟨rfl, g⟩
theorem putPl_len {p : List Gr.Stp} (h : Gr.OkPl fitsP p) : (Gr.putPl putI p).length ≤ 10000 := by
  obtain ⟨h1, h6, hs⟩ := h
  have hf : ∀ l : List Gr.Stp, (∀ s ∈ l, Gr.OkS fitsP s) → (l.flatMap (Gr.putSt putI)).length ≤ l.length * 400 := by
    intro l
    induction l with
    | nil => intro _; simp
    | cons x l ih =>
      intro h
      have h1 := ih fun s hs => h s (List.mem_cons_of_mem _ hs)
      have h2 := putNd_len (h x (List.mem_cons_self ..)).2
      rw [List.flatMap_cons, List.length_append, List.length_cons]
      unfold Gr.putSt at *
      simp only [List.length_append, Oc.be_len] at *
      omega
  have := hf p hs
  unfold Gr.putPl
  rw [List.length_append, Oc.be_len]
  omega
set_option maxHeartbeats 16000000 in
theorem packPlans_any (v : Value) (p : List Gr.Stp) (s : List UInt8) (w : World) (hv : StepsAt w v p) : Calls Tryz.prog 4 #[v, .string ⟨s.toArray⟩] w (Gives (.bool true) w) := by
  have HV := Lib.hid hv
  obtain ⟨a, cap, rfl, hm, -⟩ := hv.openC
  have hgr := fun W (g : Grew w W) => great10_p _ p W (HV.out.grew g)
  clear hv
  cases hgt : greatP p
  case true =>
    rw [hgt] at hgr
    have HGR := Lib.hid hgr
    clear hgr hgt
    go_enter Tryz.func4, Tryz.ntmps4
    go_wp2_with (first
      | (go_at_call 8; refine (awake13_any _).mono ?_; rintro e w1 ⟨rfl, R1, n1, rfl⟩)
      | (go_at_call 15; refine (HGR.out _ (by repeat (first | with_reducible exact Grew.refl _ | apply Grew.more | apply Grew.alloc | apply Grew.drew | apply Grew.drewN))).mono ?_; rintro e w1 ⟨rfl, R2, n2, rfl⟩))
    go_ret
    exact ⟨rfl, by repeat (first | with_reducible exact Grew.refl _ | apply Grew.more | apply Grew.alloc | apply Grew.drew | apply Grew.drewN)⟩
  have hsm := greatP_small hgt
  rw [hgt] at hgr
  have HGR := Lib.hid hgr
  have HSM := Lib.hid hsm
  clear hgr hsm hgt
  by_cases hlen : s.length ≤ 3000
  case neg =>
    have h3 : (3000 : Int) < (s.length : Int) := by omega
    clear hlen
    go_enter Tryz.func4, Tryz.ntmps4
    go_wp2_with (first
      | (go_at_call 8; refine (awake13_any _).mono ?_; rintro e w1 ⟨rfl, R1, n1, rfl⟩)
      | (go_at_call 15; refine (HGR.out _ (by repeat (first | with_reducible exact Grew.refl _ | apply Grew.more | apply Grew.alloc | apply Grew.drew | apply Grew.drewN))).mono ?_; rintro e w1 ⟨rfl, R2, n2, rfl⟩))
    go_ret
    exact ⟨rfl, by repeat (first | with_reducible exact Grew.refl _ | apply Grew.more | apply Grew.alloc | apply Grew.drew | apply Grew.drewN)⟩
  have h3 : ¬ (3000 : Int) < (s.length : Int) := by omega
  obtain ⟨m, x, hgsE⟩ : ∃ m x, Gr.getPl getL s = (m, x) := ⟨_, _, rfl⟩
  have hgs := fun W => getPlan_any s W (by omega)
  rw [hgsE] at hgs
  have HGS := Lib.hid hgs
  have HGSE := Lib.hid hgsE
  have hpl := fun W (g : Grew w W) => plan16_any _ p W (HV.out.grew g) HSM.out
  clear hgs hgsE hlen
  by_cases hok : Gr.OkPl fitsP p
  case neg =>
    rw [planR_no hok] at hpl
    have HP := Lib.hid hpl
    have HR13 := Lib.hid fun W (g : Grew w W) => ref13_no _ p W (HV.out.grew g) hok
    clear hpl hok
    go_enter Tryz.func4, Tryz.ntmps4
    go_wp2_with (first
      | (go_at_call 8; refine (awake13_any _).mono ?_; rintro e w1 ⟨rfl, R1, n1, rfl⟩)
      | (go_at_call 15; refine (HGR.out _ (by repeat (first | with_reducible exact Grew.refl _ | apply Grew.more | apply Grew.alloc | apply Grew.drew | apply Grew.drewN))).mono ?_; rintro e w1 ⟨rfl, R2, n2, rfl⟩)
      | (go_at_call 16; refine (HP.out _ (by repeat (first | with_reducible exact Grew.refl _ | apply Grew.more | apply Grew.alloc | apply Grew.drew | apply Grew.drewN))).mono ?_; rintro e w1 ⟨rfl, R3, n3, rfl⟩)
      | (go_at_call 17; refine (HR13.out _ (by repeat (first | with_reducible exact Grew.refl _ | apply Grew.more | apply Grew.alloc | apply Grew.drew | apply Grew.drewN))).mono ?_; rintro e w1 ⟨rfl, R4, n4, rfl⟩)
      | fail)
    cases hx : (x != 0)
    · obtain rfl : x = 0 := by simpa using hx
      obtain ⟨hmok, hmput, -⟩ := Gr.getPl_can codecI HGSE.out
      have HM := Lib.hid fun W u (hu : StepsAt W u m) => ref13_ok u m W hu hmok
      rw [hmput] at HM
      clear hx hmok hmput
      go_wp2_with (first
        | (go_at_call 18; refine (HGS.out _).mono ?_; rintro e w1 ⟨v3, rfl, hv3, R8, n8, rfl⟩; simp only at hv3; obtain ⟨a3, c3, rfl, -, -⟩ := hv3.openC; (have HV3 := Lib.hid hv3); clear hv3; simp only)
        | (go_at_call 17; refine (HM.out _ _ (HV3.out.grew (by repeat (first | with_reducible exact Grew.refl _ | apply Grew.more | apply Grew.alloc | apply Grew.drew | apply Grew.drewN)))).mono ?_; rintro e w1 ⟨rfl, R9, n9, rfl⟩))
      go_ret
      exact ⟨by simp, by repeat (first | with_reducible exact Grew.refl _ | apply Grew.more | apply Grew.alloc | apply Grew.drew | apply Grew.drewN)⟩
    · have hm0 : m = [] := by have := Gr.getPl_bad (s := s) (gp := getL) (by rw [HGSE.out]; simpa using hx); rw [HGSE.out] at this; exact this
      subst hm0
      go_wp2_with (go_at_call 18; refine (HGS.out _).mono ?_; rintro e w1 ⟨v3, rfl, hv3, R8, n8, rfl⟩; simp only at hv3; obtain ⟨a3, c3, rfl, -, -⟩ := hv3.openC; clear hv3; simp only)
      go_ret
      exact ⟨by simp, by repeat (first | with_reducible exact Grew.refl _ | apply Grew.more | apply Grew.alloc | apply Grew.drew | apply Grew.drewN)⟩

  rw [planR_ok hok] at hpl
  have hgt := fun W => getPlan_any (Gr.putPl putI p) W (by have := putPl_len hok; omega)
  rw [Gr.getPl_put codecI hok] at hgt
  have HP := Lib.hid hpl
  have HR13 := Lib.hid fun W (g : Grew w W) => ref13_ok _ p W (HV.out.grew g) hok
  have HGT := Lib.hid hgt
  have HKIND := Lib.hid fun s hs => (hok.2.2 s hs).1
  have hql : (p.map Gr.cleanS).length = p.length := List.length_map ..
  have hqi : ∀ (i : Nat) (h : i < p.length) (h2 : i < (p.map Gr.cleanS).length), (p.map Gr.cleanS)[i] = Gr.cleanS p[i] := fun i h h2 => by simp
  generalize Gr.putPl putI p = t at *
  generalize p.map Gr.cleanS = q at *
  have hlq : ((q.length : Int) != (p.length : Int)) = false := by rw [hql]; simp
  have HQL := Lib.hid hql
  have HQI := Lib.hid hqi
  clear hpl hgt hql hqi hok
  go_enter Tryz.func4, Tryz.ntmps4
  go_wp2_with (first
    | (go_at_call 8; refine (awake13_any _).mono ?_; rintro e w1 ⟨rfl, R1, n1, rfl⟩)
    | (go_at_call 15; refine (HGR.out _ (by repeat (first | with_reducible exact Grew.refl _ | apply Grew.more | apply Grew.alloc | apply Grew.drew | apply Grew.drewN))).mono ?_; rintro e w1 ⟨rfl, R2, n2, rfl⟩)
    | (go_at_call 16; refine (HP.out _ (by repeat (first | with_reducible exact Grew.refl _ | apply Grew.more | apply Grew.alloc | apply Grew.drew | apply Grew.drewN))).mono ?_; rintro e w1 ⟨rfl, R3, n3, rfl⟩)
    | (go_at_call 17; refine (HR13.out _ (by repeat (first | with_reducible exact Grew.refl _ | apply Grew.more | apply Grew.alloc | apply Grew.drew | apply Grew.drewN))).mono ?_; rintro e w1 ⟨rfl, R4, n4, rfl⟩)
    | (go_at_call 18; refine (HGT.out _).mono ?_; rintro e w1 ⟨v2, rfl, hv2, R5, n5, rfl⟩; simp only at hv2; obtain ⟨a2, c2, rfl, -, -⟩ := hv2.openC; (have HV2 := Lib.hid hv2); clear hv2; simp only))
  go_loopg [70] p.length (fun gg s70 wr => ∃ k : Nat, k ≤ p.length ∧ p.length - k ≤ gg ∧ s70 = .int .i64 k ∧ Hid (Grew w wr) ∧ Hid (StepsAt wr (.slice a2 q.length c2) q))
  case atStart => exact ⟨0, by omega, by omega, rfl, Lib.hid (by repeat (first | with_reducible exact Grew.refl _ | apply Grew.more | apply Grew.alloc | apply Grew.drew | apply Grew.drewN)), Lib.hid (HV2.out.grew (by repeat (first | with_reducible exact Grew.refl _ | apply Grew.more | apply Grew.alloc | apply Grew.drew | apply Grew.drewN)))⟩
  case round =>
    obtain ⟨k, hk, hgg, rfl, HGW, HQ⟩ := hrel
    by_cases hlt : k < p.length
    · have hlt2 : k < q.length := by have := HQL.out; omega
      obtain ⟨av, cv, e, -, hx1⟩ := (HV.out.grew HGW.out).openC
      cases e
      obtain ⟨av2, cv2, e, -, hx2⟩ := HQ.out.openC
      cases e
      obtain ⟨b, off, c, rfl, hb, hn, c0, c1, c2, c3, c4, c5, c6, c7, c8, c9, c10, c11, c12, c13, c14⟩ := hx1 k hlt
      obtain ⟨b2, off2, d, rfl, hb2, hn2, d0, d1, d2, d3, d4, d5, d6, d7, d8, d9, d10, d11, d12, d13, d14⟩ := hx2 k hlt2
      have hki := HKIND.out _ (List.getElem_mem hlt)
      have hqk := HQI.out k hlt hlt2
      clear hx1 hx2
      rw [hqk] at hn2
      generalize p[k] = y at *
      have hcl := hn.clean
      have hk15 : 1 ≤ c.kind ∧ c.kind ≤ 5 := by rw [← hn.kind]; exact hki
      have HC := Lib.hid fun W => clean13_any c W hk15
      generalize Gr.cleanS y = z at *
      generalize cleanC c = x0 at *
      obtain ⟨kd, rs, cid, kind, af, cf, ap, cp, par, r0, r1, r2, r3, r4, r5, r6, r7, rfl⟩ := hn.lit
      obtain ⟨kd2, rs2, id2, kind2, af2, cf2, ap2, cp2, par2, s0, s1, s2, s3, s4, s5, s6, s7, rfl⟩ := hn2.lit
      obtain ⟨kd3, rs3, id3, kind3, af3, cf3, ap3, cp3, par3, t0, t1, t2, t3, t4, t5, t6, t7, rfl⟩ := hcl.lit
      obtain rfl : kd2 = kd3 := by have e1 := hn2.kind; have e2 := hcl.kind; simp only at e1 e2; omega
      obtain rfl : rs2 = rs3 := by have e1 := hn2.reset; have e2 := hcl.reset; simp only at e1 e2; rw [← e1, ← e2]
      have HND := Lib.hid fun W (g : Grew wr W) => refNode08_any _ _ z.nd z.nd W (hn2.nd.grew g) (hcl.nd.grew g)
      rw [eqNd_true (rfl : z.nd = z.nd)] at HND
      simp only at c0 c1 c2 c3 c4 c5 c6 c7 c8 c9 c10 c11 c12 c13 c14 d0 d1 d2 d3 d4 d5 d6 d7 d8 d9 d10 d11 d12 d13 d14 HC
      clear hn hn2 hcl hki hk15 hqk
      go_upto_region 17 with (go_at_call 19; refine (HC.out _).mono ?_; rintro e w1 ⟨rfl, R6, n6, rfl⟩)
      refine wp_region_seq 29 Tryz.mixed (by kernel_rfl) (by kernel_rfl) ?_
      iterate 26
        apply Seq.val
        focus
          rintro w1 u ⟨R1, n1, rfl⟩ hF
          simp [moreFacts, Fact.more, Oper.deps, Region.binds, List.filter_cons, World.more_drew] at hF
          simp [putFacts, Oper.deps, Region.binds, List.filter_cons, Region.dstOf, Fact.at, Act.put, World.more_drew]
          go_wp2
          exact ⟨by repeat (first | with_reducible exact Grew.refl _ | apply Grew.more | apply Grew.alloc | apply Grew.drew | apply Grew.drewN), rfl, _, _, rfl, rfl, rfl⟩
      apply Seq.val
      focus
        rintro w1 u ⟨R1, n1, rfl⟩ hF
        simp [moreFacts, Fact.more, Oper.deps, Region.binds, List.filter_cons, World.more_drew] at hF
        simp [putFacts, Oper.deps, Region.binds, List.filter_cons, Region.dstOf, Fact.at, Act.put, World.more_drew]
        go_wp2_with (first
          | (go_at_call 20; refine (HND.out _ (by repeat (first | with_reducible exact Grew.refl _ | apply Grew.more | apply Grew.alloc | apply Grew.drew | apply Grew.drewN))).mono ?_; rintro e w2 ⟨rfl, R7, n7, rfl⟩)
          )
        exact ⟨by repeat (first | with_reducible exact Grew.refl _ | apply Grew.more | apply Grew.alloc | apply Grew.drew | apply Grew.drewN), rfl, _, _, rfl, rfl, rfl⟩
      iterate 2
        apply Seq.val
        focus
          rintro w1 u ⟨R1, n1, rfl⟩ hF
          simp [moreFacts, Fact.more, Oper.deps, Region.binds, List.filter_cons, World.more_drew] at hF
          simp [putFacts, Oper.deps, Region.binds, List.filter_cons, Region.dstOf, Fact.at, Act.put, World.more_drew]
          go_wp2
          exact ⟨by repeat (first | with_reducible exact Grew.refl _ | apply Grew.more | apply Grew.alloc | apply Grew.drew | apply Grew.drewN), rfl, _, _, rfl, rfl, rfl⟩
      rintro u w1 ⟨R1, n1, rfl⟩ hF
      clear hF
      simp [putFacts, Region.dstOf, Fact.at, Act.put, List.range_succ, World.more_drew]
      go_wp2
      go_roundg (p.length - (k + 1))
      case measure => omega
      case rel => exact ⟨k + 1, by omega, by omega, by go_num, Lib.hid (HGW.out.trans (by repeat (first | with_reducible exact Grew.refl _ | apply Grew.more | apply Grew.alloc | apply Grew.drew | apply Grew.drewN))), Lib.hid (HQ.out.grew (by repeat (first | with_reducible exact Grew.refl _ | apply Grew.more | apply Grew.alloc | apply Grew.drew | apply Grew.drewN)))⟩
    · obtain rfl : k = p.length := by omega
      cases hx : (x != 0)
      · obtain rfl : x = 0 := by simpa using hx
        obtain ⟨hmok, hmput, -⟩ := Gr.getPl_can codecI HGSE.out
        have HM := Lib.hid fun W u (hu : StepsAt W u m) => ref13_ok u m W hu hmok
        rw [hmput] at HM
        clear hx hmok hmput
        go_wp2_with (first
          | (go_at_call 18; refine (HGS.out _).mono ?_; rintro e w1 ⟨v3, rfl, hv3, R8, n8, rfl⟩; simp only at hv3; obtain ⟨a3, c3, rfl, -, -⟩ := hv3.openC; (have HV3 := Lib.hid hv3); clear hv3; simp only)
          | (go_at_call 17; refine (HM.out _ _ (HV3.out.grew (by repeat (first | with_reducible exact Grew.refl _ | apply Grew.more | apply Grew.alloc | apply Grew.drew | apply Grew.drewN)))).mono ?_; rintro e w1 ⟨rfl, R9, n9, rfl⟩))
        go_ret
        exact ⟨by simp, HGW.out.trans (by repeat (first | with_reducible exact Grew.refl _ | apply Grew.more | apply Grew.alloc | apply Grew.drew | apply Grew.drewN))⟩
      · have hm0 : m = [] := by have := Gr.getPl_bad (s := s) (gp := getL) (by rw [HGSE.out]; simpa using hx); rw [HGSE.out] at this; exact this
        subst hm0
        go_wp2_with (go_at_call 18; refine (HGS.out _).mono ?_; rintro e w1 ⟨v3, rfl, hv3, R8, n8, rfl⟩; simp only at hv3; obtain ⟨a3, c3, rfl, -, -⟩ := hv3.openC; clear hv3; simp only)
        go_ret
        exact ⟨by simp, HGW.out.trans (by repeat (first | with_reducible exact Grew.refl _ | apply Grew.more | apply Grew.alloc | apply Grew.drew | apply Grew.drewN))⟩
end Go.Proofs.YtangapokicnfgaaGreat

/-! Nodes as arguments. -/
namespace Go.Proofs.YtangapokicnfgaaGreat
set_option linter.unusedSimpArgs false
set_option maxRecDepth 100000
set_option linter.unusedVariables false
open Go.RowKit Ga Go.ChangeShapes Go.WideShapes

theorem cells_int1 : Tryz.prog.cellsOf 3 = 1 := by kernel_rfl
theorem cells_ints1 : Tryz.prog.cellsOf 41 = 1 := by kernel_rfl
theorem cells_ins : Tryz.prog.cellsOf 123 = 2 := by kernel_rfl
theorem cells_inss1 : Tryz.prog.cellsOf 42 = 1 := by kernel_rfl
theorem cells_arr8 : Tryz.prog.cellsOf 43 = 8 := by kernel_rfl
theorem cells_node : Tryz.prog.cellsOf 45 = 13 := by kernel_rfl
theorem laidOut : laidOutB Tryz.prog = true := by kernel_rfl
theorem opens_int1 : Opens Tryz.prog 3 (fun _ cs (n : Int) => cs = [Value.int .i64 n] ∧ True) := (Opens.i64 Tryz.underlying3).mono fun _ _ n h => ⟨n, h.1, trivial⟩
theorem opens_insN : Opens Tryz.prog 123 (fun _ cs (a : Ga.Val) => cs = [Value.int .i64 a.1, Value.int .i64 a.2] ∧ True) := by
  intro H enc w fuel cs x hx
  obtain ⟨hl, hf⟩ := Opens.fields Tryz.underlying123 hx
  rw [cells_ins] at hl
  match cs, hl with
  | [c0, c1], _ =>
    obtain ⟨n0, y0, h0⟩ := hf 0 _ rfl
    obtain ⟨n1, y1, h1⟩ := hf 1 _ rfl
    have h0' : DataW.trod enc Tryz.prog w 0 (fun _ => true) true n0 3 (([c0, c1].drop 0).take (Tryz.prog.cellsOf 3)) = some y0 := h0
    have h1' : DataW.trod enc Tryz.prog w 0 (fun _ => true) true n1 3 (([c0, c1].drop 1).take (Tryz.prog.cellsOf 3)) = some y1 := h1
    rw [cells_int1] at h0' h1'
    obtain ⟨i0, e0, -⟩ := opens_int1 H enc w n0 _ _ h0'
    obtain ⟨i1, e1, -⟩ := opens_int1 H enc w n1 _ _ h1'
    simp at e0 e1
    subst e0 e1
    exact ⟨(i0, i1), rfl, trivial⟩
/-- a slice and how far it may grow -/
theorem SlAt.rowsC {α : Type} {k : Nat} {enc : α → List Value} {w : World} {v : Value} {l : List α} (h : SlAt k (fun _ cs (a : α) => cs = enc a ∧ True) w v l) : RowsAt k enc w v l ∧ ∃ a cap, v = .slice a l.length cap ∧ l.length ≤ cap := by
  refine ⟨h.rows.1, ?_⟩
  obtain ⟨a, cap, rfl, hl, -⟩ := h
  exact ⟨a, cap, rfl, hl⟩
theorem opens_node : Opens Tryz.prog 45 (fun w cs (x : NdC × Gr.Nd) => cs = encNd x.1 ∧ NodeIs w x.1 x.2) := by
  intro H enc w fuel cs x hx
  obtain ⟨hl, hf⟩ := Opens.fields Tryz.underlying45 hx
  rw [cells_node] at hl
  match cs, hl with
  | [c0, c1, c2, c3, c4, c5, c6, c7, c8, c9, c10, c11, c12], _ =>
    obtain ⟨n0, y0, h0⟩ := hf 0 _ rfl
    obtain ⟨n1, y1, h1⟩ := hf 1 _ rfl
    obtain ⟨n2, y2, h2⟩ := hf 2 _ rfl
    obtain ⟨n3, y3, h3⟩ := hf 3 _ rfl
    obtain ⟨n4, y4, h4⟩ := hf 4 _ rfl
    obtain ⟨n5, y5, h5⟩ := hf 5 _ rfl
    have h0' : DataW.trod enc Tryz.prog w 0 (fun _ => true) true n0 3 (([c0, c1, c2, c3, c4, c5, c6, c7, c8, c9, c10, c11, c12].drop 0).take (Tryz.prog.cellsOf 3)) = some y0 := h0
    have h1' : DataW.trod enc Tryz.prog w 0 (fun _ => true) true n1 3 (([c0, c1, c2, c3, c4, c5, c6, c7, c8, c9, c10, c11, c12].drop 1).take (Tryz.prog.cellsOf 3)) = some y1 := h1
    have h2' : DataW.trod enc Tryz.prog w 0 (fun _ => true) true n2 41 (([c0, c1, c2, c3, c4, c5, c6, c7, c8, c9, c10, c11, c12].drop 2).take (Tryz.prog.cellsOf 41)) = some y2 := h2
    have h3' : DataW.trod enc Tryz.prog w 0 (fun _ => true) true n3 42 (([c0, c1, c2, c3, c4, c5, c6, c7, c8, c9, c10, c11, c12].drop 3).take (Tryz.prog.cellsOf 42)) = some y3 := h3
    have h4' : DataW.trod enc Tryz.prog w 0 (fun _ => true) true n4 3 (([c0, c1, c2, c3, c4, c5, c6, c7, c8, c9, c10, c11, c12].drop 4).take (Tryz.prog.cellsOf 3)) = some y4 := h4
    have h5' : DataW.trod enc Tryz.prog w 0 (fun _ => true) true n5 43 (([c0, c1, c2, c3, c4, c5, c6, c7, c8, c9, c10, c11, c12].drop 5).take (Tryz.prog.cellsOf 43)) = some y5 := h5
    rw [cells_int1] at h0' h1' h4'
    rw [cells_ints1] at h2'
    rw [cells_inss1] at h3'
    rw [cells_arr8] at h5'
    obtain ⟨i0, e0, -⟩ := opens_int1 H enc w n0 _ _ h0'
    obtain ⟨i1, e1, -⟩ := opens_int1 H enc w n1 _ _ h1'
    obtain ⟨i4, e4, -⟩ := opens_int1 H enc w n4 _ _ h4'
    obtain ⟨l2, v2, e2, s2⟩ := Opens.slice Tryz.underlying41 cells_int1 (by decide) opens_int1 H enc w n2 _ _ h2'
    obtain ⟨l3, v3, e3, s3⟩ := Opens.slice Tryz.underlying42 cells_ins (by decide) opens_insN H enc w n3 _ _ h3'
    obtain ⟨hl5, hf5⟩ := Opens.elems Tryz.underlying43 h5'
    obtain ⟨r2, a2, k2, rfl, hk2⟩ := SlAt.rowsC (enc := fun (x : Int) => [Value.int .i64 x]) s2
    obtain ⟨r3, a3, k3, rfl, hk3⟩ := SlAt.rowsC (enc := fun (a : Ga.Val) => [Value.int .i64 a.1, Value.int .i64 a.2]) s3
    have hr : ∀ i, i < 8 → ∃ r : Int, (([c5, c6, c7, c8, c9, c10, c11, c12].drop i).take 1) = [Value.int .i64 r] := fun i hi => by
      obtain ⟨m, y, h⟩ := hf5 i hi
      rw [cells_int1, Nat.mul_one] at h
      obtain ⟨r, e, -⟩ := opens_int1 H enc w m _ _ h
      exact ⟨r, e⟩
    obtain ⟨q0, g0⟩ := hr 0 (by decide)
    obtain ⟨q1, g1⟩ := hr 1 (by decide)
    obtain ⟨q2, g2⟩ := hr 2 (by decide)
    obtain ⟨q3, g3⟩ := hr 3 (by decide)
    obtain ⟨q4, g4⟩ := hr 4 (by decide)
    obtain ⟨q5, g5⟩ := hr 5 (by decide)
    obtain ⟨q6, g6⟩ := hr 6 (by decide)
    obtain ⟨q7, g7⟩ := hr 7 (by decide)
    simp at e0 e1 e2 e3 e4 g0 g1 g2 g3 g4 g5 g6 g7
    subst e0 e1 e2 e3 e4 g0 g1 g2 g3 g4 g5 g6 g7
    exact ⟨(⟨i0, i1, a2, l2.length, k2, a3, l3.length, k3, i4, q0, q1, q2, q3, q4, q5, q6, q7⟩, ⟨i0, i1, l2, l3, i4, [q0, q1, q2, q3, q4, q5, q6, q7]⟩), rfl, rfl, rfl, r2, r3, rfl, rfl, hk2⟩
theorem nodes_of {w : World} {v : Value} {l : List (NdC × Gr.Nd)} (h : SlAt 13 (fun w cs (x : NdC × Gr.Nd) => cs = encNd x.1 ∧ NodeIs w x.1 x.2) w v l) : NodesAt w v (l.map (·.2)) := by
  obtain ⟨a, cap, rfl, hl, hm, hnil, hx⟩ := h
  refine ⟨l.map (·.1), ⟨a, cap, by simp, Nat.le_trans (by simpa using hl) hm, fun hne => ?_⟩, by simp, ?_⟩
  · obtain ⟨b, off, rfl, hc⟩ := hx (by intro e; subst e; exact hne rfl)
    refine ⟨b, off, rfl, fun i c hi j u hu => ?_⟩
    rw [List.getElem?_map] at hi
    obtain ⟨y, hy, rfl⟩ := Option.map_eq_some_iff.1 hi
    obtain ⟨cs, -, ⟨rfl, -⟩, h2⟩ := hc i y hy
    exact h2 j u hu
  · intro i c n hc hn
    rw [List.getElem?_map] at hc hn
    obtain ⟨y, hy, rfl⟩ := Option.map_eq_some_iff.1 hc
    obtain ⟨z, hz, rfl⟩ := Option.map_eq_some_iff.1 hn
    obtain rfl := Option.some.inj (hy.symm.trans hz)
    obtain ⟨b, off, rfl, hx2⟩ := hx (by intro e; subst e; simp at hy)
    obtain ⟨cs, -, ⟨-, h1⟩, -⟩ := hx2 i y hy
    exact h1
theorem arg_nodes {H : Type} {enc : TypeId × Value → H} {w : World} {v : Value} {d : DataW H} {ps : List MemPlace} {r : Reach} {b : Nat} (ho : Value.okWide Tryz.prog w r b 22 v) (h : DataW.Trod enc Tryz.prog w 0 (fun _ => true) true 22 v d ps) : ∃ l, NodesAt w v l := by
  obtain ⟨l, u, h1, h2⟩ := (Opens.slice Tryz.underlying22 cells_node (by decide) opens_node).arg h
  obtain rfl := cells_slice Tryz.underlying22 ho h1
  exact ⟨_, nodes_of h2⟩
theorem arg_str {H : Type} {enc : TypeId × Value → H} {w : World} {v : Value} {d : DataW H} {ps : List MemPlace} {r : Reach} {b : Nat} (ho : Value.okWide Tryz.prog w r b 9 v) (h : DataW.Trod enc Tryz.prog w 0 (fun _ => true) true 9 v d ps) : ∃ l : List UInt8, v = .string ⟨l.toArray⟩ := by
  obtain ⟨s, h1, -⟩ := (Opens.string Tryz.underlying9).arg h
  obtain rfl := cells_string Tryz.underlying9 ho h1
  exact ⟨s.data.toList, rfl⟩
end Go.Proofs.YtangapokicnfgaaGreat

/-! Steps as arguments. -/
namespace Go.Proofs.YtangapokicnfgaaGreat
set_option linter.unusedSimpArgs false
set_option maxRecDepth 100000
set_option linter.unusedVariables false
open Go.RowKit Ga Go.ChangeShapes Go.WideShapes

theorem cells_step : Tryz.prog.cellsOf 47 = 15 := by kernel_rfl
theorem cells_bool1 : Tryz.prog.cellsOf 4 = 1 := by kernel_rfl
theorem opens_bool1 : Opens Tryz.prog 4 (fun _ cs (b : Bool) => cs = [Value.bool b] ∧ True) := (Opens.bool Tryz.underlying4).mono fun _ _ n h => ⟨n, h, trivial⟩
theorem opens_step : Opens Tryz.prog 47 (fun w cs (x : StC × Gr.Stp) => cs = encSt x.1 ∧ StepIs w x.1 x.2) := by
  intro H enc w fuel cs x hx
  obtain ⟨hl, hf⟩ := Opens.fields Tryz.underlying47 hx
  rw [cells_step] at hl
  match cs, hl with
  | [c0, c1, c2, c3, c4, c5, c6, c7, c8, c9, c10, c11, c12, c13, c14], _ =>
    obtain ⟨n0, y0, h0⟩ := hf 0 _ rfl
    obtain ⟨n1, y1, h1⟩ := hf 1 _ rfl
    obtain ⟨n2, y2, h2⟩ := hf 2 _ rfl
    have h0' : DataW.trod enc Tryz.prog w 0 (fun _ => true) true n0 3 (([c0, c1, c2, c3, c4, c5, c6, c7, c8, c9, c10, c11, c12, c13, c14].drop 0).take (Tryz.prog.cellsOf 3)) = some y0 := h0
    have h1' : DataW.trod enc Tryz.prog w 0 (fun _ => true) true n1 45 (([c0, c1, c2, c3, c4, c5, c6, c7, c8, c9, c10, c11, c12, c13, c14].drop 1).take (Tryz.prog.cellsOf 45)) = some y1 := h1
    have h2' : DataW.trod enc Tryz.prog w 0 (fun _ => true) true n2 4 (([c0, c1, c2, c3, c4, c5, c6, c7, c8, c9, c10, c11, c12, c13, c14].drop 14).take (Tryz.prog.cellsOf 4)) = some y2 := h2
    rw [cells_int1] at h0'
    rw [cells_node] at h1'
    rw [cells_bool1] at h2'
    obtain ⟨i0, e0, -⟩ := opens_int1 H enc w n0 _ _ h0'
    obtain ⟨⟨c, n⟩, e1, hn⟩ := opens_node H enc w n1 _ _ h1'
    obtain ⟨b2, e2, -⟩ := opens_bool1 H enc w n2 _ _ h2'
    simp [encNd] at e0 e1 e2
    obtain ⟨g0, g1, g2, g3, g4, g5, g6, g7, g8, g9, g10, g11, g12⟩ := e1
    subst e0 e2 g0 g1 g2 g3 g4 g5 g6 g7 g8 g9 g10 g11 g12
    exact ⟨(⟨i0, c, b2⟩, ⟨i0, n, b2⟩), rfl, ⟨rfl, hn, rfl⟩⟩
theorem steps_of {w : World} {v : Value} {l : List (StC × Gr.Stp)} (h : SlAt 15 (fun w cs (x : StC × Gr.Stp) => cs = encSt x.1 ∧ StepIs w x.1 x.2) w v l) : StepsAt w v (l.map (·.2)) := by
  obtain ⟨a, cap, rfl, hl, hm, hnil, hx⟩ := h
  refine ⟨l.map (·.1), ⟨a, cap, by simp, Nat.le_trans (by simpa using hl) hm, fun hne => ?_⟩, by simp, ?_⟩
  · obtain ⟨b, off, rfl, hc⟩ := hx (by intro e; subst e; exact hne rfl)
    refine ⟨b, off, rfl, fun i c hi j u hu => ?_⟩
    rw [List.getElem?_map] at hi
    obtain ⟨y, hy, rfl⟩ := Option.map_eq_some_iff.1 hi
    obtain ⟨cs, -, ⟨rfl, -⟩, h2⟩ := hc i y hy
    exact h2 j u hu
  · intro i c n hc hn
    rw [List.getElem?_map] at hc hn
    obtain ⟨y, hy, rfl⟩ := Option.map_eq_some_iff.1 hc
    obtain ⟨z, hz, rfl⟩ := Option.map_eq_some_iff.1 hn
    obtain rfl := Option.some.inj (hy.symm.trans hz)
    obtain ⟨b, off, rfl, hx2⟩ := hx (by intro e; subst e; simp at hy)
    obtain ⟨cs, -, ⟨-, h1⟩, -⟩ := hx2 i y hy
    exact h1
theorem arg_steps {H : Type} {enc : TypeId × Value → H} {w : World} {v : Value} {d : DataW H} {ps : List MemPlace} {r : Reach} {b : Nat} (ho : Value.okWide Tryz.prog w r b 34 v) (h : DataW.Trod enc Tryz.prog w 0 (fun _ => true) true 34 v d ps) : ∃ l, StepsAt w v l := by
  obtain ⟨l, u, h1, h2⟩ := (Opens.slice Tryz.underlying34 cells_step (by decide) opens_step).arg h
  obtain rfl := cells_slice Tryz.underlying34 ho h1
  exact ⟨_, steps_of h2⟩
end Go.Proofs.YtangapokicnfgaaGreat
