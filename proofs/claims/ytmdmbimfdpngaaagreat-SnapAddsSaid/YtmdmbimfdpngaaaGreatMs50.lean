import Derived.Test.YtmdmbimfdpngaaaGreatMs49
import Derived.Test.YtmdmbimfdpngaaaGreatMs42
import Derived.Test.YtmdmbimfdpngaaaGreatMs30
import Derived.Test.YtmdmbimfdpngaaaGreatMs31
/-! forebayref13.Right, cut: the entries. -/
namespace Go.Proofs.YtmdmbimfdpngaaaGreat
set_option linter.unusedSimpArgs false
set_option linter.unusedVariables false
open Go.RowKit Ga
set_option maxRecDepth 100000

set_option maxHeartbeats 16000000 in
theorem rm_p5 (m : Gr.Mf) (w W : World) (tx : Nat) (c : MfC) (Q : Exit → Act → World → Prop) (a0 : Act)
    (h0 : Pre22 w tx c a0 W) (hm : MfIs W c m)
    (hbad : ¬ Cond5 m → ∀ a' w', Ret22 w false a' w' → Q .ret a' w')
    (hnext : Cond5 m → ∀ a' w', Grew W w' → Pre22 w tx c a' w' → Code.wp Tryz.prog (tail22 26) Q a' w') :
    Code.wp Tryz.prog (tail22 15) Q a0 W := by
  obtain ⟨hfr, h01, hg, hbx⟩ := h0
  obtain ⟨u, hu⟩ : ∃ u : Nat → Value, u = fun i => a0.tmps.getD i undef := ⟨_, rfl⟩
  rw [← hu] at hfr
  have u1 : u 1 = _ := (congrFun hu 1).trans h01
  clear hu h01
  subst hfr
  conv => arg 2; whnf
  unfold frame22
  rw [u1]
  clear u1
  have e1 := hm.epoch
  have e2 := hm.plans
  have HO := Lib.hid hm.o
  have HGR := Lib.hid hm.g
  have HE := Lib.hid hm.e
  have HX := Lib.hid hm.x
  have HP := Lib.hid hm.p
  obtain ⟨ep, pl, ao, co, ag, cg, ae, ce, ax, cx, ap, cp, rfl⟩ := hm.lit
  simp only at e1 e2 HO HGR HE HX HP
  simp only [boxM] at hbx
  have E1 := Lib.hid e1
  have E2 := Lib.hid e2
  have HG := Lib.hid hg
  have HBX := Lib.hid hbx
  have HBAD := Lib.hid hbad
  have HNX := Lib.hid hnext
  clear e1 e2 hm hg hbx hbad hnext
  go_wp2
  go_loopg [5] m.ents.length (fun gg s5 wr => ∃ g : Nat, g ≤ m.ents.length ∧ m.ents.length - g ≤ gg ∧ s5 = .int .i64 g ∧ Hid (Grew W wr) ∧ Hid (∀ j (hj : j < m.ents.length), j < g → EntOk m j hj))
  case atStart => exact ⟨0, by omega, by omega, rfl, Lib.hid (by repeat (first | with_reducible exact Grew.refl _ | apply Grew.more | apply Grew.alloc | apply Grew.drew | apply Grew.drewN)), Lib.hid fun j _ h => by omega⟩
  case round =>
    obtain ⟨g, hg8, hgg, rfl, HGW, HNO⟩ := hrel
    have hbx := grew_heap HGW.out HBX.out
    have x3 := cell_of (o := 3) hbx
    have x4 := cell_of (o := 4) hbx
    simp at x3 x4
    have px := Pre.mk (heap_lt hbx)
    have HBX2 := Lib.hid hbx
    clear hbx
    by_cases hlt : g < m.ents.length
    · obtain ⟨av, cv, e, hmx, hx⟩ := EntsAt.open6 (HE.out.grew HGW.out)
      cases e
      obtain ⟨b, off, rfl, hb, c0, c1, c2, c3, c4, c5⟩ := hx g hlt
      have hpre : g = 0 ∨ ∃ i : Nat, ∃ hi : i + 1 = g, wr.cell? ⟨b, off + i * 6, none⟩ = some (.int .i64 (m.ents[i]'(by omega)).node) ∧ wr.cell? ⟨b, off + i * 6 + 1, none⟩ = some (.int .i64 (m.ents[i]'(by omega)).key) := by
        rcases Nat.eq_zero_or_pos g with h | h
        · exact .inl h
        · refine .inr ⟨g - 1, by omega, ?_⟩
          obtain ⟨b', off', e, hb', d0, d1, -⟩ := hx (g - 1) (by omega)
          cases e
          exact ⟨d0, d1⟩
      have HPRE := Lib.hid hpre
      have HBE := Lib.hid (show ¬ EntOk m g hlt → ¬ Cond5 m from fun q h => q (h g hlt))
      have HEO : Hid (EntOk m g hlt ↔ okEn m.ents[g] = true ∧ Tab.nz m.ents[g] = true ∧ badE m.graph m.ents[g] = false ∧ ∀ i (h : i + 1 = g), ¬ (m.ents[g].node < (m.ents[i]'(by omega)).node ∨ (m.ents[i]'(by omega)).node = m.ents[g].node ∧ m.ents[g].key ≤ (m.ents[i]'(by omega)).key)) := Lib.hid Iff.rfl
      generalize hEO : EntOk m g hlt = EO at *
      have HEOE := Lib.hid hEO
      clear hx hpre hEO
      generalize m.ents[g] = x at *
      obtain ⟨nd, ky, ⟨p0, q0⟩, ⟨p1, q1⟩⟩ := x
      simp only at c0 c1 c2 c3 c4 c5 HEO
      have HRT := Lib.hid fun W' => refRight07_any nd ky p0 q0 p1 q1 W'
      have HFD := Lib.hid fun W' (g : Grew W W') => refFind08_any _ m.graph nd W' (HGR.out.grew g)
      have hceq := fun W' => run_eql_ce p0 q0 p1 q1 W'
      have hnz : (((p0, q0) : Val) == (0, 0) && ((p1, q1) : Val) == (0, 0)) = !(Tab.nz ⟨nd, ky, (p0, q0), (p1, q1)⟩) := by unfold Tab.nz; simp
      rw [hnz] at hceq
      clear hnz
      cases hk : okEn ⟨nd, ky, (p0, q0), (p1, q1)⟩
      · have HK := Lib.hid hk
        clear hk
        go_wp2_with (go_at_call 24; refine (HRT.out _).mono ?_; rintro e w1 ⟨rfl, R1, n1, rfl⟩; rw [HK.out])
        exact HBAD.out (HBE.out fun h => by have := (HEO.out.1 h).1; rw [HK.out] at this; cases this) _ _ ⟨rfl, rfl, HG.out.trans (HGW.out.trans (by repeat (first | with_reducible exact Grew.refl _ | apply Grew.more | apply Grew.alloc | apply Grew.drew | apply Grew.drewN)))⟩
      have HK := Lib.hid hk
      clear hk
      cases hz : Tab.nz ⟨nd, ky, (p0, q0), (p1, q1)⟩
      · have HZ := Lib.hid hz
        rw [hz] at hceq
        clear hz
        go_wp2_with (go_at_call 24; refine (HRT.out _).mono ?_; rintro e w1 ⟨rfl, R1, n1, rfl⟩; rw [HK.out])
        exact HBAD.out (HBE.out fun h => by have := (HEO.out.1 h).2.1; rw [HZ.out] at this; cases this) _ _ ⟨rfl, rfl, HG.out.trans (HGW.out.trans (by repeat (first | with_reducible exact Grew.refl _ | apply Grew.more | apply Grew.alloc | apply Grew.drew | apply Grew.drewN)))⟩
      have HZ := Lib.hid hz
      rw [hz] at hceq
      clear hz
      have hfi : (findI m.graph nd = -1 ∧ badE m.graph ⟨nd, ky, (p0, q0), (p1, q1)⟩ = true) ∨ ∃ k : Nat, ∃ hk : k < m.graph.length, findI m.graph nd = k ∧ badE m.graph ⟨nd, ky, (p0, q0), (p1, q1)⟩ = (m.graph[k].kind != 1) := by
        unfold badE Gr.nodeOf
        simp only
        cases hf : Gr.find m.graph nd with
        | none => exact .inl ⟨findI_none hf, by simp⟩
        | some k =>
          obtain ⟨h1, h2⟩ := findI_some hf
          exact .inr ⟨k, h2, h1, by simp [List.getElem?_eq_getElem h2]⟩
      have HFI := Lib.hid hfi
      generalize badE m.graph ⟨nd, ky, (p0, q0), (p1, q1)⟩ = bad at *
      clear hfi
      rcases HFI.out with ⟨f1, f2⟩ | ⟨k, hkl, f1, f2⟩
      · subst f2
        have F1 := Lib.hid f1
        clear f1
        go_wp2_with (first
          | (go_at_call 24; refine (HRT.out _).mono ?_; rintro e w1 ⟨rfl, R1, n1, rfl⟩; rw [HK.out])
          | (go_at_call 18; refine (HFD.out _ (HGW.out.trans (by repeat (first | with_reducible exact Grew.refl _ | apply Grew.more | apply Grew.alloc | apply Grew.drew | apply Grew.drewN)))).mono ?_; rintro e w1 ⟨rfl, hw1⟩; obtain rfl := hw1.symm; rw [F1.out]))
        exact HBAD.out (HBE.out fun h => by have := (HEO.out.1 h).2.2.1; cases this) _ _ ⟨rfl, rfl, HG.out.trans (HGW.out.trans (by repeat (first | with_reducible exact Grew.refl _ | apply Grew.more | apply Grew.alloc | apply Grew.drew | apply Grew.drewN)))⟩
      · obtain ⟨ag', cg', e, hmg, hxg⟩ := (HGR.out.grew HGW.out).openC
        cases e
        obtain ⟨bg, offg, cc, rfl, hbg, hng, -, k1, -⟩ := hxg k hkl
        have HKD := Lib.hid hng.kind
        rw [hng.kind] at f2
        clear hxg hng HKD
        generalize cc.kind = kd at *
        subst f2
        have F1 := Lib.hid f1
        clear f1 HFI
        by_cases hkd : kd = 1
        case neg =>
          have hkb : (kd != 1) = true := by rw [bne_iff_ne]; exact hkd
          have HKB := Lib.hid hkb
          go_wp2_with (first
            | (go_at_call 24; refine (HRT.out _).mono ?_; rintro e w1 ⟨rfl, R1, n1, rfl⟩; rw [HK.out])
            | (go_at_call 18; refine (HFD.out _ (HGW.out.trans (by repeat (first | with_reducible exact Grew.refl _ | apply Grew.more | apply Grew.alloc | apply Grew.drew | apply Grew.drewN)))).mono ?_; rintro e w1 ⟨rfl, hw1⟩; obtain rfl := hw1.symm; rw [F1.out]))
          exact HBAD.out (HBE.out fun h => by have := (HEO.out.1 h).2.2.1; rw [HKB.out] at this; cases this) _ _ ⟨rfl, rfl, HG.out.trans (HGW.out.trans (by repeat (first | with_reducible exact Grew.refl _ | apply Grew.more | apply Grew.alloc | apply Grew.drew | apply Grew.drewN)))⟩
        subst hkd
        go_upto_region 24 with (first
          | (go_at_call 24; refine (HRT.out _).mono ?_; rintro e w1 ⟨rfl, R1, n1, rfl⟩; rw [HK.out])
          | (go_at_call 18; refine (HFD.out _ (HGW.out.trans (by repeat (first | with_reducible exact Grew.refl _ | apply Grew.more | apply Grew.alloc | apply Grew.drew | apply Grew.drewN)))).mono ?_; rintro e w1 ⟨rfl, hw1⟩; obtain rfl := hw1.symm; rw [F1.out]))
        have HNX2 : Hid (EO → ∀ j (hj : j < m.ents.length), j < g + 1 → EntOk m j hj) := Lib.hid fun h j hj h2 => by
          rcases Nat.lt_or_ge j g with h1 | h1
          · exact HNO.out j hj h1
          · obtain rfl : j = g := by omega
            rw [HEOE.out]
            exact h
        rcases HPRE.out with rfl | ⟨i, rfl, d0, d1⟩
        · have HOK := Lib.hid (HNX2.out (HEO.out.2 ⟨HK.out, HZ.out, by simp, fun i h => by omega⟩))
          go_quiet (fail)
          go_wp2
          go_roundg (m.ents.length - 1)
          case measure => omega
          case rel => exact ⟨1, by omega, by omega, by go_num, Lib.hid (HGW.out.trans (by repeat (first | with_reducible exact Grew.refl _ | apply Grew.more | apply Grew.alloc | apply Grew.drew | apply Grew.drewN))), HOK⟩
        · have hsub : IntKind.i64.wrap ((i : Int) + 1 - 1) = i := by rw [Int.add_sub_cancel]; exact IntWalk.i64_in _ (by omega)
          have hsub2 : IntKind.i64.wrap (i : Int) = i := IntWalk.i64_in _ (by omega)
          have HORD : Hid (EO ↔ ¬ (nd < (m.ents[i]'(by omega)).node ∨ (m.ents[i]'(by omega)).node = nd ∧ ky ≤ (m.ents[i]'(by omega)).key)) := Lib.hid ⟨fun h => (HEO.out.1 h).2.2.2 i rfl, fun h => HEO.out.2 ⟨HK.out, HZ.out, by simp, fun i' h' => by
            obtain rfl : i' = i := by omega
            exact h⟩⟩
          generalize (m.ents[i]'(by omega)).node = pn at *
          generalize (m.ents[i]'(by omega)).key = pk at *
          by_cases o1 : nd < pn
          · go_quiet (fail)
            go_wp2
            exact HBAD.out (HBE.out fun h => HORD.out.1 h (.inl o1)) _ _ ⟨rfl, rfl, HG.out.trans (HGW.out.trans (by repeat (first | with_reducible exact Grew.refl _ | apply Grew.more | apply Grew.alloc | apply Grew.drew | apply Grew.drewN)))⟩
          · by_cases o2 : pn = nd
            · subst o2
              by_cases o3 : ky ≤ pk
              · go_quiet (fail)
                go_wp2
                exact HBAD.out (HBE.out fun h => HORD.out.1 h (.inr ⟨by simp, o3⟩)) _ _ ⟨rfl, rfl, HG.out.trans (HGW.out.trans (by repeat (first | with_reducible exact Grew.refl _ | apply Grew.more | apply Grew.alloc | apply Grew.drew | apply Grew.drewN)))⟩
              · have HOK := Lib.hid (HNX2.out (HORD.out.2 (by omega)))
                go_quiet (fail)
                go_wp2
                go_roundg (m.ents.length - (i + 1 + 1))
                case measure => omega
                case rel => exact ⟨i + 1 + 1, by omega, by omega, by go_num, Lib.hid (HGW.out.trans (by repeat (first | with_reducible exact Grew.refl _ | apply Grew.more | apply Grew.alloc | apply Grew.drew | apply Grew.drewN))), HOK⟩
            · have o2b : (pn == nd) = false := by simpa using o2
              have HOK := Lib.hid (HNX2.out (HORD.out.2 (by omega)))
              clear o2
              go_quiet (fail)
              go_wp2
              go_roundg (m.ents.length - (i + 1 + 1))
              case measure => omega
              case rel => exact ⟨i + 1 + 1, by omega, by omega, by go_num, Lib.hid (HGW.out.trans (by repeat (first | with_reducible exact Grew.refl _ | apply Grew.more | apply Grew.alloc | apply Grew.drew | apply Grew.drewN))), HOK⟩
    · have HOK : Hid (Cond5 m) := Lib.hid fun j hj => HNO.out j hj (by omega)
      go_upto_if 84 with fail
      iterate 4 go_step
      refine HNX.out HOK.out _ _ (HGW.out.trans (by repeat (first | with_reducible exact Grew.refl _ | apply Grew.more | apply Grew.alloc | apply Grew.drew | apply Grew.drewN))) ?_
      exact ⟨rfl, rfl, HG.out.trans (HGW.out.trans (by repeat (first | with_reducible exact Grew.refl _ | apply Grew.more | apply Grew.alloc | apply Grew.drew | apply Grew.drewN))), grew_heap (by repeat (first | with_reducible exact Grew.refl _ | apply Grew.more | apply Grew.alloc | apply Grew.drew | apply Grew.drewN)) HBX2.out⟩
end Go.Proofs.YtmdmbimfdpngaaaGreat

/-! forebayref13.Right, cut: the plan, the lines. -/
namespace Go.Proofs.YtmdmbimfdpngaaaGreat
set_option linter.unusedSimpArgs false
set_option linter.unusedVariables false
open Go.RowKit Ga
set_option maxRecDepth 100000

set_option maxHeartbeats 16000000 in
theorem rm_p6 (m : Gr.Mf) (w W : World) (tx : Nat) (c : MfC) (Q : Exit → Act → World → Prop) (a0 : Act)
    (h0 : Pre22 w tx c a0 W) (hm : MfIs W c m)
    (hbad : ¬ Cond6 m → ∀ a' w', Ret22 w false a' w' → Q .ret a' w')
    (hnext : Cond6 m → ∀ a' w', Grew W w' → Pre22 w tx c a' w' → Code.wp Tryz.prog (tail22 36) Q a' w') :
    Code.wp Tryz.prog (tail22 26) Q a0 W := by
  obtain ⟨hfr, h01, hg, hbx⟩ := h0
  obtain ⟨u, hu⟩ : ∃ u : Nat → Value, u = fun i => a0.tmps.getD i undef := ⟨_, rfl⟩
  rw [← hu] at hfr
  have u1 : u 1 = _ := (congrFun hu 1).trans h01
  clear hu h01
  subst hfr
  conv => arg 2; whnf
  unfold frame22
  rw [u1]
  clear u1
  have e1 := hm.epoch
  have e2 := hm.plans
  have HO := Lib.hid hm.o
  have HGR := Lib.hid hm.g
  have HE := Lib.hid hm.e
  have HX := Lib.hid hm.x
  have HP := Lib.hid hm.p
  obtain ⟨ep, pl, ao, co, ag, cg, ae, ce, ax, cx, ap, cp, rfl⟩ := hm.lit
  simp only at e1 e2 HO HGR HE HX HP
  simp only [boxM] at hbx
  have E1 := Lib.hid e1
  have E2 := Lib.hid e2
  have HG := Lib.hid hg
  have HBX := Lib.hid hbx
  have HBAD := Lib.hid hbad
  have HNX := Lib.hid hnext
  clear e1 e2 hm hg hbx hbad hnext
  have x6 := cell_of (o := 6) HBX.out
  simp at x6
  have px := Pre.mk (heap_lt HBX.out)
  by_cases hp0 : m.plan = []
  · have hz : ¬ (0 : Int) < (m.plan.length : Int) := by rw [hp0]; simp
    have HOK : Hid (Cond6 m) := Lib.hid (.inl hp0)
    clear hp0
    go_upto_if 158 with fail
    iterate 4 go_step
    refine HNX.out HOK.out _ _ (by repeat (first | with_reducible exact Grew.refl _ | apply Grew.more | apply Grew.alloc | apply Grew.drew | apply Grew.drewN)) ?_
    exact ⟨rfl, rfl, HG.out.trans (by repeat (first | with_reducible exact Grew.refl _ | apply Grew.more | apply Grew.alloc | apply Grew.drew | apply Grew.drewN)), grew_heap (by repeat (first | with_reducible exact Grew.refl _ | apply Grew.more | apply Grew.alloc | apply Grew.drew | apply Grew.drewN)) HBX.out⟩
  have hz : (0 : Int) < (m.plan.length : Int) := by
    have : m.plan.length ≠ 0 := fun e => hp0 (List.eq_nil_of_length_eq_zero e)
    omega
  have HP0 := Lib.hid hp0
  have HPL := Lib.hid fun W' (g : Grew W W') => plan13_any _ m.plan W' (HP.out.grew g)
  clear hp0
  by_cases hok : Gr.OkPl fitsP m.plan
  case neg =>
    have HNO := Lib.hid hok
    clear hok
    go_wp2_with (go_at_call 39; refine (HPL.out _ (by repeat (first | with_reducible exact Grew.refl _ | apply Grew.more | apply Grew.alloc | apply Grew.drew | apply Grew.drewN))).mono ?_; rintro e w8 ⟨t, b, rfl, hg8, -, ht2⟩; obtain ⟨rfl, rfl⟩ := ht2 HNO.out; (have HG8 := Lib.hid hg8); clear hg8)
    exact HBAD.out (fun h => h.elim HP0.out fun q => HNO.out q.1) _ _ ⟨rfl, rfl, HG.out.trans ((show Grew _ _ by repeat (first | with_reducible exact Grew.refl _ | apply Grew.more | apply Grew.alloc | apply Grew.drew | apply Grew.drewN)).trans (HG8.out.trans (by repeat (first | with_reducible exact Grew.refl _ | apply Grew.more | apply Grew.alloc | apply Grew.drew | apply Grew.drewN))))⟩
  have HOKP := Lib.hid hok
  have h6 := hok.2.1
  clear hok
  go_wp2_with (go_at_call 39; refine (HPL.out _ (by repeat (first | with_reducible exact Grew.refl _ | apply Grew.more | apply Grew.alloc | apply Grew.drew | apply Grew.drewN))).mono ?_; rintro e w8 ⟨t, b, rfl, hg8, ht1, -⟩; obtain ⟨rfl, rfl⟩ := ht1 HOKP.out; (have HG8 := Lib.hid hg8); clear hg8)
  go_loopg [10] m.plan.length (fun gg s10 wr => ∃ g : Nat, g ≤ m.plan.length ∧ m.plan.length - g ≤ gg ∧ s10 = .int .i64 g ∧ Hid (Grew W wr) ∧ Hid (∀ j (hj : j < m.plan.length), j < g → Gr.cleanS m.plan[j] = m.plan[j]))
  case atStart => exact ⟨0, by omega, by omega, rfl, Lib.hid ((show Grew W _ by repeat (first | with_reducible exact Grew.refl _ | apply Grew.more | apply Grew.alloc | apply Grew.drew | apply Grew.drewN)).trans (HG8.out.trans (by repeat (first | with_reducible exact Grew.refl _ | apply Grew.more | apply Grew.alloc | apply Grew.drew | apply Grew.drewN)))), Lib.hid fun j _ h => by omega⟩
  case round =>
    clear x6 px
    obtain ⟨g, hg8, hgg, rfl, HGW, HNO⟩ := hrel
    have hbx := grew_heap HGW.out HBX.out
    have x6 := cell_of (o := 6) hbx
    simp at x6
    have px := Pre.mk (heap_lt hbx)
    have HBX2 := Lib.hid hbx
    clear hbx
    by_cases hlt : g < m.plan.length
    · obtain ⟨av, cv, e, hmx, hx⟩ := (HP.out.grew HGW.out).openC
      cases e
      obtain ⟨b, off, c, rfl, hb, hn, c0, c1, c2, c3, c4, c5, c6, c7, c8, c9, c10, c11, c12, c13, c14⟩ := hx g hlt
      have hkk := (HOKP.out.2.2 _ (List.getElem_mem hlt)).1
      have HBE := Lib.hid (show Gr.cleanS m.plan[g] ≠ m.plan[g] → ¬ Cond6 m from fun q h => h.elim HP0.out fun r => q (r.2 _ (List.getElem_mem hlt)))
      have HNX2 : Hid (Gr.cleanS m.plan[g] = m.plan[g] → ∀ j (hj : j < m.plan.length), j < g + 1 → Gr.cleanS m.plan[j] = m.plan[j]) := Lib.hid fun h j hj h2 => by
        rcases Nat.lt_or_ge j g with h1 | h1
        · exact HNO.out j hj h1
        · obtain rfl : j = g := by omega
          exact h
      clear hx
      generalize m.plan[g] = y at *
      have hck := Gr.clean_kind hkk
      rw [hn.kind] at hkk
      have hcl := hn.clean
      have hC := fun W' => clean13_any c W' hkk
      obtain ⟨d, hd⟩ : ∃ d, cleanC c = d := ⟨_, rfl⟩
      rw [hd] at hC hcl
      have HC := Lib.hid hC
      have HEQ := Lib.hid (eqSt_iff (s := Gr.cleanS y) (t := y))
      rw [hck, hcl.reset, hn.reset] at HEQ
      have HCL := Lib.hid hcl
      have HN := Lib.hid hn
      have HND := Lib.hid fun W' (g : Grew wr W') => refNode08_any d.c c.c (Gr.cleanS y).nd y.nd W' (hcl.nd.grew g) (hn.nd.grew g)
      obtain ⟨kd, rs, cid, knd, af, cf, ap', cp', par, r0, r1, r2, r3, r4, r5, r6, r7, rfl⟩ := hn.lit
      simp only at c0 c1 c2 c3 c4 c5 c6 c7 c8 c9 c10 c11 c12 c13 c14 HC HEQ HND
      simp only [decide_true, Bool.true_and] at HEQ
      have heqt := eqSt_true (s := Gr.cleanS y) (t := y)
      have HEQT := Lib.hid heqt
      clear hck hcl hC hd hn hkk heqt
      generalize eqSt (Gr.cleanS y) y = q at *
      obtain ⟨dk, dc, dr⟩ := d
      simp only at HC HEQ HND
      generalize eqNd (Gr.cleanS y).nd y.nd = qn at *
      by_cases hr : dr = rs
      case neg =>
        have hrb : (dr != rs) = true := by rw [bne_iff_ne]; exact hr
        have HQ : Hid (q = false) := Lib.hid (by rw [HEQ.out, beq_eq_false_iff_ne.2 hr, Bool.false_and])
        obtain rfl : dr = !rs := by cases dr <;> cases rs <;> simp at hr ⊢
        clear hr hrb
        cases rs
        all_goals simp only [Bool.not_false, Bool.not_true] at *
        all_goals
         go_upto_region 34 with (go_at_call 26; refine (HC.out _).mono ?_; rintro e w1 ⟨rfl, R3, n3, rfl⟩)
         refine wp_region_seq 21 Tryz.mixed (by kernel_rfl) (by kernel_rfl) ?_
         iterate 21
           apply Seq.val
           focus
             rintro w1 u ⟨R1, n1, rfl⟩ hF
             simp [moreFacts, Fact.more, Oper.deps, Region.binds, List.filter_cons, World.more_drew] at hF
             simp [putFacts, Oper.deps, Region.binds, List.filter_cons, Region.dstOf, Fact.at, Act.put, World.more_drew]
             go_wp2_with (go_at_call 40; refine (HND.out _ (by repeat (first | with_reducible exact Grew.refl _ | apply Grew.more | apply Grew.alloc | apply Grew.drew | apply Grew.drewN))).mono ?_; rintro e w2 ⟨rfl, R5, n5, rfl⟩)
             exact ⟨by repeat (first | with_reducible exact Grew.refl _ | apply Grew.more | apply Grew.alloc | apply Grew.drew | apply Grew.drewN), rfl, _, _, rfl, rfl, rfl⟩
         rintro u w1 ⟨R1, n1, rfl⟩ hF
         clear hF
         simp [putFacts, Region.dstOf, Fact.at, Act.put, List.range_succ, World.more_drew]
         go_wp2
         exact HBAD.out (HBE.out fun h => by have := HEQT.out.2 h; rw [HQ.out] at this; cases this) _ _ ⟨rfl, rfl, HG.out.trans (HGW.out.trans (by repeat (first | with_reducible exact Grew.refl _ | apply Grew.more | apply Grew.alloc | apply Grew.drew | apply Grew.drewN)))⟩
      subst hr
      have hrb : (dr != dr) = false := by simp
      go_upto_region 34 with (go_at_call 26; refine (HC.out _).mono ?_; rintro e w1 ⟨rfl, R3, n3, rfl⟩)
      refine wp_region_seq 21 Tryz.mixed (by kernel_rfl) (by kernel_rfl) ?_
      iterate 21
        apply Seq.val
        focus
          rintro w1 u ⟨R1, n1, rfl⟩ hF
          simp [moreFacts, Fact.more, Oper.deps, Region.binds, List.filter_cons, World.more_drew] at hF
          simp [putFacts, Oper.deps, Region.binds, List.filter_cons, Region.dstOf, Fact.at, Act.put, World.more_drew]
          go_wp2_with (go_at_call 40; refine (HND.out _ (by repeat (first | with_reducible exact Grew.refl _ | apply Grew.more | apply Grew.alloc | apply Grew.drew | apply Grew.drewN))).mono ?_; rintro e w2 ⟨rfl, R5, n5, rfl⟩)
          exact ⟨by repeat (first | with_reducible exact Grew.refl _ | apply Grew.more | apply Grew.alloc | apply Grew.drew | apply Grew.drewN), rfl, _, _, rfl, rfl, rfl⟩
      rintro u w1 ⟨R1, n1, rfl⟩ hF
      clear hF
      simp [putFacts, Region.dstOf, Fact.at, Act.put, List.range_succ, World.more_drew]
      cases qn
      · have HQ : Hid (q = false) := Lib.hid (by rw [HEQ.out]; simp)
        go_wp2
        exact HBAD.out (HBE.out fun h => by have := HEQT.out.2 h; rw [HQ.out] at this; cases this) _ _ ⟨rfl, rfl, HG.out.trans (HGW.out.trans (by repeat (first | with_reducible exact Grew.refl _ | apply Grew.more | apply Grew.alloc | apply Grew.drew | apply Grew.drewN)))⟩
      · have HQ : Hid (q = true) := Lib.hid (by rw [HEQ.out]; simp)
        have HOK := Lib.hid (HNX2.out (HEQT.out.1 HQ.out))
        go_wp2
        go_roundg (m.plan.length - (g + 1))
        case measure => omega
        case rel => exact ⟨g + 1, by omega, by omega, by go_num, Lib.hid (HGW.out.trans (by repeat (first | with_reducible exact Grew.refl _ | apply Grew.more | apply Grew.alloc | apply Grew.drew | apply Grew.drewN))), HOK⟩
    · have HOK : Hid (Cond6 m) := Lib.hid (.inr ⟨HOKP.out, fun x hx => by
        obtain ⟨j, hj, rfl⟩ := List.mem_iff_getElem.1 hx
        exact HNO.out j hj (by omega)⟩)
      go_upto_if 171 with fail
      iterate 4 go_step
      refine HNX.out HOK.out _ _ (HGW.out.trans (by repeat (first | with_reducible exact Grew.refl _ | apply Grew.more | apply Grew.alloc | apply Grew.drew | apply Grew.drewN))) ?_
      exact ⟨rfl, rfl, HG.out.trans (HGW.out.trans (by repeat (first | with_reducible exact Grew.refl _ | apply Grew.more | apply Grew.alloc | apply Grew.drew | apply Grew.drewN))), grew_heap (by repeat (first | with_reducible exact Grew.refl _ | apply Grew.more | apply Grew.alloc | apply Grew.drew | apply Grew.drewN)) HBX2.out⟩
set_option maxHeartbeats 16000000 in
theorem rm_p7 (m : Gr.Mf) (w W : World) (tx : Nat) (c : MfC) (Q : Exit → Act → World → Prop) (a0 : Act)
    (h0 : Pre22 w tx c a0 W) (hm : MfIs W c m)
    (hbad : ¬ Cond7 m → ∀ a' w', Ret22 w false a' w' → Q .ret a' w')
    (hnext : Cond7 m → ∀ a' w', Ret22 w true a' w' → Q .ret a' w') :
    Code.wp Tryz.prog (tail22 36) Q a0 W := by
  obtain ⟨hfr, h01, hg, hbx⟩ := h0
  obtain ⟨u, hu⟩ : ∃ u : Nat → Value, u = fun i => a0.tmps.getD i undef := ⟨_, rfl⟩
  rw [← hu] at hfr
  have u1 : u 1 = _ := (congrFun hu 1).trans h01
  clear hu h01
  subst hfr
  conv => arg 2; whnf
  unfold frame22
  rw [u1]
  clear u1
  have e1 := hm.epoch
  have e2 := hm.plans
  have HO := Lib.hid hm.o
  have HGR := Lib.hid hm.g
  have HE := Lib.hid hm.e
  have HX := Lib.hid hm.x
  have HP := Lib.hid hm.p
  obtain ⟨ep, pl, ao, co, ag, cg, ae, ce, ax, cx, ap, cp, rfl⟩ := hm.lit
  simp only at e1 e2 HO HGR HE HX HP
  simp only [boxM] at hbx
  have E1 := Lib.hid e1
  have E2 := Lib.hid e2
  have HG := Lib.hid hg
  have HBX := Lib.hid hbx
  have HBAD := Lib.hid hbad
  have HNX := Lib.hid hnext
  clear e1 e2 hm hg hbx hbad hnext
  go_wp2
  go_loopg [12] m.out.length (fun gg s12 wr => ∃ g : Nat, g ≤ m.out.length ∧ m.out.length - g ≤ gg ∧ s12 = .int .i64 g ∧ Hid (Grew W wr) ∧ Hid (∀ j (hj : j < m.out.length), j < g → lineB m.out[j] = true))
  case atStart => exact ⟨0, by omega, by omega, rfl, Lib.hid (by repeat (first | with_reducible exact Grew.refl _ | apply Grew.more | apply Grew.alloc | apply Grew.drew | apply Grew.drewN)), Lib.hid fun j _ h => by omega⟩
  case round =>
    obtain ⟨g, hg8, hgg, rfl, HGW, HNO⟩ := hrel
    have hbx := grew_heap HGW.out HBX.out
    have x5 := cell_of (o := 5) hbx
    simp at x5
    have px := Pre.mk (heap_lt hbx)
    have HBX2 := Lib.hid hbx
    clear hbx
    by_cases hlt : g < m.out.length
    · obtain ⟨av, cv, e, hmx, hx⟩ := LnsAt.open5 (HX.out.grew HGW.out)
      cases e
      obtain ⟨b, off, rfl, hb, c0, c1, c2, c3, c4⟩ := hx g hlt
      have HBE := Lib.hid (show lineB m.out[g] = false → ¬ Cond7 m from fun q h => by rw [h _ (List.getElem_mem hlt)] at q; cases q)
      have HNX2 : Hid (lineB m.out[g] = true → ∀ j (hj : j < m.out.length), j < g + 1 → lineB m.out[j] = true) := Lib.hid fun h j hj h2 => by
        rcases Nat.lt_or_ge j g with h1 | h1
        · exact HNO.out j hj h1
        · obtain rfl : j = g := by omega
          exact h
      clear hx
      generalize m.out[g] = x at *
      obtain ⟨si, fr, ky, ⟨p0, q0⟩⟩ := x
      simp only at c0 c1 c2 c3 c4
      have hl : lineB ⟨si, fr, ky, (p0, q0)⟩ = (numB si 7 && (numB fr 7 && recB ky (p0, q0))) := by
        unfold lineB recB numB
        simp only
        rw [show decide (ky ≤ 63) = decide (ky < 64) from decide_eq_decide.2 (by omega)]
      rw [hl] at HBE HNX2
      have HRC := Lib.hid fun W' => refRec07_any ky p0 q0 W'
      generalize recB ky (p0, q0) = rb at *
      clear hl
      cases h1 : numB si 7
      · have H1 := Lib.hid h1
        rw [h1] at HBE
        clear h1
        go_wp2_with (go_at_call 38; refine (fits50_any _ _ _).mono ?_; rintro e w1 ⟨rfl, rfl⟩; rw [H1.out])
        exact HBAD.out (HBE.out (by simp)) _ _ ⟨rfl, rfl, HG.out.trans (HGW.out.trans (by repeat (first | with_reducible exact Grew.refl _ | apply Grew.more | apply Grew.alloc | apply Grew.drew | apply Grew.drewN)))⟩
      have H1 := Lib.hid h1
      rw [h1, Bool.true_and] at HBE HNX2
      clear h1
      cases h2 : numB fr 7
      · have H2 := Lib.hid h2
        rw [h2] at HBE
        clear h2
        go_wp2_with fail
        refine (fits50_any _ _ _).mono ?_
        rintro e w1 ⟨rfl, rfl⟩
        rw [H1.out]
        go_wp2_with fail
        refine (fits50_any _ _ _).mono ?_
        rintro e w1 ⟨rfl, rfl⟩
        rw [H2.out]
        go_wp2
        exact HBAD.out (HBE.out (by simp)) _ _ ⟨rfl, rfl, HG.out.trans (HGW.out.trans (by repeat (first | with_reducible exact Grew.refl _ | apply Grew.more | apply Grew.alloc | apply Grew.drew | apply Grew.drewN)))⟩
      have H2 := Lib.hid h2
      rw [h2, Bool.true_and] at HBE HNX2
      clear h2
      go_wp2_with fail
      refine (fits50_any _ _ _).mono ?_
      rintro e w1 ⟨rfl, rfl⟩
      rw [H1.out]
      go_wp2_with fail
      refine (fits50_any _ _ _).mono ?_
      rintro e w1 ⟨rfl, rfl⟩
      rw [H2.out]
      cases rb
      · go_wp2_with (go_at_call 41; refine (HRC.out _).mono ?_; rintro e w1 ⟨rfl, R3, n3, rfl⟩)
        exact HBAD.out (HBE.out (by simp)) _ _ ⟨rfl, rfl, HG.out.trans (HGW.out.trans (by repeat (first | with_reducible exact Grew.refl _ | apply Grew.more | apply Grew.alloc | apply Grew.drew | apply Grew.drewN)))⟩
      · have HOK := Lib.hid (HNX2.out (by simp))
        go_wp2_with (go_at_call 41; refine (HRC.out _).mono ?_; rintro e w1 ⟨rfl, R3, n3, rfl⟩)
        go_roundg (m.out.length - (g + 1))
        case measure => omega
        case rel => exact ⟨g + 1, by omega, by omega, by go_num, Lib.hid (HGW.out.trans (by repeat (first | with_reducible exact Grew.refl _ | apply Grew.more | apply Grew.alloc | apply Grew.drew | apply Grew.drewN))), HOK⟩
    · have HOK : Hid (Cond7 m) := Lib.hid fun x hx => by
        obtain ⟨j, hj, rfl⟩ := List.mem_iff_getElem.1 hx
        exact HNO.out j hj (by omega)
      go_wp2
      exact HNX.out HOK.out _ _ ⟨rfl, rfl, HG.out.trans (HGW.out.trans (by repeat (first | with_reducible exact Grew.refl _ | apply Grew.more | apply Grew.alloc | apply Grew.drew | apply Grew.drewN)))⟩
end Go.Proofs.YtmdmbimfdpngaaaGreat
