import Derived.Test.YthlmmfljeblflaaGreatDoorMc27
import Derived.Test.YthlmmfljeblflaaGreatDoorMc17
import Derived.Test.YthlmmfljeblflaaGreatDoorMc14
/-! forebayref08.Node, Same. -/
namespace Go.Proofs.YthlmmfljeblflaaGreatDoor
set_option linter.unusedSimpArgs false
set_option linter.unusedVariables false
open Go.RowKit Ga
set_option maxRecDepth 100000

open Classical in
/-- two nodes are one -/
noncomputable def eqNd (n m : Gr.Nd) : Bool := decide (n = m)
open Classical in
theorem eqNd_false {n m : Gr.Nd} (h : n ≠ m) : eqNd n m = false := by unfold eqNd; exact decide_eq_false h
open Classical in
theorem eqNd_true {n m : Gr.Nd} (h : n = m) : eqNd n m = true := by unfold eqNd; exact decide_eq_true h
theorem eqNd_iff {n m : Gr.Nd} {p : Prop} [Decidable p] (h : n = m ↔ p) : eqNd n m = decide p := by
  by_cases hp : p
  · rw [eqNd_true (h.2 hp), decide_eq_true hp]
  · rw [eqNd_false (fun q => hp (h.1 q)), decide_eq_false hp]
set_option maxHeartbeats 8000000 in
theorem refNode08_any (c d : NdC) (n m : Gr.Nd) (w : World) (hn : NodeIs w c n) (hm : NodeIs w d m) : Calls Tryz.prog 11 #[.agg #[.int .i64 c.id, .int .i64 c.kind, .slice c.af c.nf c.cf, .slice c.ap c.np c.cp, .int .i64 c.par, .int .i64 c.r0, .int .i64 c.r1, .int .i64 c.r2, .int .i64 c.r3, .int .i64 c.r4, .int .i64 c.r5, .int .i64 c.r6, .int .i64 c.r7], .agg #[.int .i64 d.id, .int .i64 d.kind, .slice d.af d.nf d.cf, .slice d.ap d.np d.cp, .int .i64 d.par, .int .i64 d.r0, .int .i64 d.r1, .int .i64 d.r2, .int .i64 d.r3, .int .i64 d.r4, .int .i64 d.r5, .int .i64 d.r6, .int .i64 d.r7]] w (Gives (.bool (eqNd n m)) w) := by
  have HF := Lib.hid hn.f
  have HF2 := Lib.hid hm.f
  have HS := Lib.hid fun W (g : Grew w W) => refSame_any _ _ n.prog m.prog W (hn.p.grew g) (hm.p.grew g)
  obtain ⟨id, kind, af, cf, ap, cp, par, r0, r1, r2, r3, r4, r5, r6, r7, rfl⟩ := hn.lit
  obtain ⟨id2, kind2, af2, cf2, ap2, cp2, par2, s0, s1, s2, s3, s4, s5, s6, s7, rfl⟩ := hm.lit
  have e1 := hn.id
  have e2 := hn.kind
  have e3 := hn.par
  have e4 := hn.route
  have g1 := hm.id
  have g2 := hm.kind
  have g3 := hm.par
  have g4 := hm.route
  simp only at e1 e2 e3 e4 g1 g2 g3 g4 HF HF2 HS
  have E1 := Lib.hid e1
  have E2 := Lib.hid e2
  have E3 := Lib.hid e3
  have E4 := Lib.hid e4
  have G1 := Lib.hid g1
  have G2 := Lib.hid g2
  have G3 := Lib.hid g3
  have G4 := Lib.hid g4
  obtain ⟨fn, hfn⟩ : ∃ fn, fn = n.frm := ⟨_, rfl⟩
  obtain ⟨fm, hfm⟩ : ∃ fm, fm = m.frm := ⟨_, rfl⟩
  have HFN := Lib.hid hfn
  have HFM := Lib.hid hfm
  rw [← hfn] at HF
  rw [← hfm] at HF2
  rw [← hfn, ← hfm]
  clear e1 e2 e3 e4 g1 g2 g3 g4 hn hm hfn hfm
  have H8 := Lib.hid (eq8 r0 r1 r2 r3 r4 r5 r6 r7 s0 s1 s2 s3 s4 s5 s6 s7)
  show Calls Tryz.prog 11 #[.agg #[.int .i64 id, .int .i64 kind, .slice af fn.length cf, .slice ap n.prog.length cp, .int .i64 par, .int .i64 r0, .int .i64 r1, .int .i64 r2, .int .i64 r3, .int .i64 r4, .int .i64 r5, .int .i64 r6, .int .i64 r7], .agg #[.int .i64 id2, .int .i64 kind2, .slice af2 fm.length cf2, .slice ap2 m.prog.length cp2, .int .i64 par2, .int .i64 s0, .int .i64 s1, .int .i64 s2, .int .i64 s3, .int .i64 s4, .int .i64 s5, .int .i64 s6, .int .i64 s7]] w _
  by_cases hlen : fn.length = fm.length
  · have hne : ((fn.length : Int) != (fm.length : Int)) = false := by simp; omega
    have HLEN := Lib.hid hlen
    clear hlen
    go_enter Tryz.func11, Tryz.ntmps11
    go_wp2
    go_loopg [5] fn.length (fun gg z5 wr => ∃ g : Nat, g ≤ fn.length ∧ fn.length - g ≤ gg ∧ z5 = .int .i64 g ∧ Hid (Grew w wr) ∧ Hid (wr.heap[w.heap.size]? = some (.cells #[.int .i64 id, .int .i64 kind, .slice af fn.length cf, .slice ap n.prog.length cp, .int .i64 par, .int .i64 r0, .int .i64 r1, .int .i64 r2, .int .i64 r3, .int .i64 r4, .int .i64 r5, .int .i64 r6, .int .i64 r7] 41)) ∧ Hid (wr.heap[w.heap.size + 1]? = some (.cells #[.int .i64 id2, .int .i64 kind2, .slice af2 fm.length cf2, .slice ap2 m.prog.length cp2, .int .i64 par2, .int .i64 s0, .int .i64 s1, .int .i64 s2, .int .i64 s3, .int .i64 s4, .int .i64 s5, .int .i64 s6, .int .i64 s7] 41)) ∧ Hid (∀ j (h1 : j < fn.length) (h2 : j < fm.length), j < g → fn[j] = fm[j]))
    case atStart => exact ⟨0, by omega, by omega, rfl, Lib.hid (by repeat (first | with_reducible exact Grew.refl _ | apply Grew.more | apply Grew.alloc | apply Grew.drew | apply Grew.drewN)), Lib.hid (heap_alloc_old (heap_new_at w _ _ rfl) _), Lib.hid (heap_new_at _ _ _ (by rw [World.size_alloc])), Lib.hid fun j _ _ h => by omega⟩
    case round =>
      obtain ⟨g, hg8, hgg, rfl, HGR, HBX, HBY, HNO⟩ := hrel
      have c0 := cell_of (o := 0) HBX.out
      have d0 := cell_of (o := 0) HBY.out
      have c1 := cell_of (o := 1) HBX.out
      have d1 := cell_of (o := 1) HBY.out
      have c2 := cell_of (o := 2) HBX.out
      have d2 := cell_of (o := 2) HBY.out
      have c3 := cell_of (o := 3) HBX.out
      have d3 := cell_of (o := 3) HBY.out
      have c4 := cell_of (o := 4) HBX.out
      have d4 := cell_of (o := 4) HBY.out
      have c5 := cell_of (o := 5) HBX.out
      have d5 := cell_of (o := 5) HBY.out
      have c6 := cell_of (o := 6) HBX.out
      have d6 := cell_of (o := 6) HBY.out
      have c7 := cell_of (o := 7) HBX.out
      have d7 := cell_of (o := 7) HBY.out
      have c8 := cell_of (o := 8) HBX.out
      have d8 := cell_of (o := 8) HBY.out
      have c9 := cell_of (o := 9) HBX.out
      have d9 := cell_of (o := 9) HBY.out
      have c10 := cell_of (o := 10) HBX.out
      have d10 := cell_of (o := 10) HBY.out
      have c11 := cell_of (o := 11) HBX.out
      have d11 := cell_of (o := 11) HBY.out
      have c12 := cell_of (o := 12) HBX.out
      have d12 := cell_of (o := 12) HBY.out
      have px := Pre.mk (heap_lt HBX.out)
      have py := Pre.mk (heap_lt HBY.out)
      simp at c0 d0 c1 d1 c2 d2 c3 d3 c4 d4 c5 d5 c6 d6 c7 d7 c8 d8 c9 d9 c10 d10 c11 d11 c12 d12
      by_cases hlt : g < fn.length
      · obtain ⟨af', cf', e, hfb, hx⟩ := ints_open (HF.out.grew HGR.out)
        cases e
        obtain ⟨bf, offf, rfl, hpf, cx⟩ := hx g hlt
        obtain ⟨af3, cf3, e, -, hy⟩ := ints_open (HF2.out.grew HGR.out)
        cases e
        have hlt2 : g < fm.length := by have := HLEN.out; omega
        obtain ⟨bg, offg, rfl, hpg, cy⟩ := hy g hlt2
        have hmeas : fn.length - (g + 1) < fn.length - g := by omega
        have hg1 : g + 1 ≤ fn.length := hlt
        have HMEAS := Lib.hid (And.intro hmeas hg1)
        clear hmeas hg1 hx hy c0 d0 c1 d1 c3 d3 c4 d4 c5 d5 c6 d6 c7 d7 c8 d8 c9 d9 c10 d10 c11 d11 c12 d12
        by_cases hxy : fn[g] = fm[g]
        · have HXYZ := Lib.hid hxy
          rw [← hxy] at cy
          clear hxy
          generalize hgx : fn[g] = x at *
          have HGX := Lib.hid hgx
          clear hgx
          go_wp2_with fail
          go_quiet (fail)
          go_wp2
          go_roundg (fn.length - (g + 1))
          case measure => (have := HMEAS.out; omega)
          case rel => exact ⟨g + 1, HMEAS.out.2, Nat.le_refl _, by go_num, Lib.hid (HGR.out.trans (by repeat (first | with_reducible exact Grew.refl _ | apply Grew.more | apply Grew.alloc | apply Grew.drew | apply Grew.drewN))), Lib.hid (grew_heap (by repeat (first | with_reducible exact Grew.refl _ | apply Grew.more | apply Grew.alloc | apply Grew.drew | apply Grew.drewN)) HBX.out), Lib.hid (grew_heap (by repeat (first | with_reducible exact Grew.refl _ | apply Grew.more | apply Grew.alloc | apply Grew.drew | apply Grew.drewN)) HBY.out), Lib.hid fun j h1 h2 h => by
            rcases Nat.lt_or_ge j g with h3 | h3
            · exact HNO.out j h1 h2 h3
            · obtain rfl : j = g := by omega
              rw [HGX.out]
              exact HXYZ.out⟩
        · have hno : eqNd n m = false := eqNd_false fun h => hxy (by
            have := HFN.out.trans ((congrArg Gr.Nd.frm h).trans HFM.out.symm)
            subst this
            rfl)
          have HNO2 := Lib.hid hno
          have hxb : (fn[g] != fm[g]) = true := by rw [bne_iff_ne]; exact hxy
          clear hno hxy
          generalize fn[g] = x at *
          generalize fm[g] = y at *
          go_wp2_with fail
          go_quiet (fail)
          go_wp2
          go_ret
          exact ⟨by rw [HNO2.out]; rfl, HGR.out.trans (by repeat (first | with_reducible exact Grew.refl _ | apply Grew.more | apply Grew.alloc | apply Grew.drew | apply Grew.drewN))⟩
      · obtain rfl : g = fn.length := by omega
        have hff : fn = fm := List.ext_getElem HLEN.out fun j h1 h2 => HNO.out j h1 h2 h1
        have HFF := Lib.hid (HFN.out.symm.trans (hff.trans HFM.out))
        clear hff
        by_cases i0 : id = id2
        · by_cases k0 : kind = kind2
          · by_cases p0 : par = par2
            · by_cases r0e : ([r0, r1, r2, r3, r4, r5, r6, r7] : List Int) = [s0, s1, s2, s3, s4, s5, s6, s7]
              · have hR := Lib.hid r0e
                have h8 := fun W => (H8.out W).trans (by rw [decide_eq_true r0e])
                have hdec : eqNd n m = decide (n.prog = m.prog) := by
                  refine eqNd_iff ⟨fun h => by rw [h], fun h => ?_⟩
                  obtain ⟨a1, a2, a3, a4, a5, a6⟩ := n
                  obtain ⟨b1, b2, b3, b4, b5, b6⟩ := m
                  have q1 := E1.out
                  have q2 := G1.out
                  have q3 := E2.out
                  have q4 := G2.out
                  have q5 := E3.out
                  have q6 := G3.out
                  have q7 := E4.out
                  have q8 := G4.out
                  have q9 := HFF.out
                  simp only at q1 q2 q3 q4 q5 q6 q7 q8 q9 h
                  rw [q1, q2, q3, q4, q5, q6, q7, q8, q9, h, i0, k0, p0, r0e]
                have HDEC := Lib.hid hdec
                subst i0 k0 p0
                clear hdec r0e
                generalize decide (n.prog = m.prog) = q at *
                go_wp2_with (go_at_call 21; refine (HS.out _ (HGR.out.trans (by repeat (first | with_reducible exact Grew.refl _ | apply Grew.more | apply Grew.alloc | apply Grew.drew | apply Grew.drewN)))).mono ?_; rintro e w2 ⟨rfl, R5, n5, rfl⟩)
                go_ret
                exact ⟨by rw [HDEC.out]; rfl, HGR.out.trans (by repeat (first | with_reducible exact Grew.refl _ | apply Grew.more | apply Grew.alloc | apply Grew.drew | apply Grew.drewN))⟩
              · have h8 := fun W => (H8.out W).trans (by rw [decide_eq_false r0e])
                subst i0 k0 p0
                have hno : eqNd n m = false := eqNd_false fun h => r0e (E4.out.symm.trans ((congrArg Gr.Nd.route h).trans G4.out))
                have HNO2 := Lib.hid hno
                clear hno
                clear r0e
                go_wp2
                go_ret
                exact ⟨by rw [HNO2.out]; rfl, HGR.out⟩
            · subst i0 k0
              have p0b : (par == par2) = false := by simpa using p0
              have hno : eqNd n m = false := eqNd_false fun h => p0 (E3.out.symm.trans ((congrArg Gr.Nd.par h).trans G3.out))
              have HNO2 := Lib.hid hno
              clear hno
              clear p0
              go_wp2
              go_ret
              exact ⟨by rw [HNO2.out]; rfl, HGR.out⟩
          · subst i0
            have k0b : (kind == kind2) = false := by simpa using k0
            have hno : eqNd n m = false := eqNd_false fun h => k0 (E2.out.symm.trans ((congrArg Gr.Nd.kind h).trans G2.out))
            have HNO2 := Lib.hid hno
            clear hno
            clear k0
            go_wp2
            go_ret
            exact ⟨by rw [HNO2.out]; rfl, HGR.out⟩
        · have i0b : (id == id2) = false := by simpa using i0
          have hno : eqNd n m = false := eqNd_false fun h => i0 (E1.out.symm.trans ((congrArg Gr.Nd.id h).trans G1.out))
          have HNO2 := Lib.hid hno
          clear hno
          clear i0
          go_wp2
          go_ret
          exact ⟨by rw [HNO2.out]; rfl, HGR.out⟩
  · have hne : ((fn.length : Int) != (fm.length : Int)) = true := by rw [bne_iff_ne]; omega
    have hno : eqNd n m = false := eqNd_false fun h => hlen (by
      have := HFN.out.trans ((congrArg Gr.Nd.frm h).trans HFM.out.symm)
      rw [this])
    rw [hno]
    clear hno hlen
    go_enter Tryz.func11, Tryz.ntmps11
    go_wp2
    go_ret
    refine ⟨rfl, ?_⟩
    repeat (first | with_reducible exact Grew.refl _ | apply Grew.more | apply Grew.alloc | apply Grew.drew | apply Grew.drewN)
end Go.Proofs.YthlmmfljeblflaaGreatDoor

/-! graph.alike. -/
namespace Go.Proofs.YthlmmfljeblflaaGreatDoor
set_option linter.unusedSimpArgs false
set_option linter.unusedVariables false
open Go.RowKit Ga
set_option maxRecDepth 100000

set_option maxHeartbeats 8000000 in
theorem alike_any (c d : NdC) (n m : Gr.Nd) (w : World) (hn : NodeIs w c n) (hm : NodeIs w d m) : Calls Tryz.prog 73 #[.agg #[.int .i64 c.id, .int .i64 c.kind, .slice c.af c.nf c.cf, .slice c.ap c.np c.cp, .int .i64 c.par, .int .i64 c.r0, .int .i64 c.r1, .int .i64 c.r2, .int .i64 c.r3, .int .i64 c.r4, .int .i64 c.r5, .int .i64 c.r6, .int .i64 c.r7], .agg #[.int .i64 d.id, .int .i64 d.kind, .slice d.af d.nf d.cf, .slice d.ap d.np d.cp, .int .i64 d.par, .int .i64 d.r0, .int .i64 d.r1, .int .i64 d.r2, .int .i64 d.r3, .int .i64 d.r4, .int .i64 d.r5, .int .i64 d.r6, .int .i64 d.r7]] w (Gives (.bool (eqNd n m)) w) := by
  have HF := Lib.hid fun W (g : Grew w W) => eqInts_any _ _ n.frm m.frm W (hn.f.grew g) (hm.f.grew g)
  have HP := Lib.hid fun W (g : Grew w W) => eqVals_any _ _ n.prog m.prog W (hn.p.grew g) (hm.p.grew g)
  obtain ⟨id, kind, af, cf, ap, cp, par, r0, r1, r2, r3, r4, r5, r6, r7, rfl⟩ := hn.lit
  obtain ⟨id2, kind2, af2, cf2, ap2, cp2, par2, s0, s1, s2, s3, s4, s5, s6, s7, rfl⟩ := hm.lit
  have e1 := hn.id
  have e2 := hn.kind
  have e3 := hn.par
  have e4 := hn.route
  have g1 := hm.id
  have g2 := hm.kind
  have g3 := hm.par
  have g4 := hm.route
  simp only at e1 e2 e3 e4 g1 g2 g3 g4 HF HP
  have heq : eqNd n m = (decide (id = id2) && (decide (kind = kind2) && (decide (par = par2) && (decide ([r0, r1, r2, r3, r4, r5, r6, r7] = [s0, s1, s2, s3, s4, s5, s6, s7]) && (decide (n.frm = m.frm) && decide (n.prog = m.prog)))))) := by
    obtain ⟨i1, k1, f1, p1, q1, t1⟩ := n
    obtain ⟨i2, k2, f2, p2, q2, t2⟩ := m
    simp only at e1 e2 e3 e4 g1 g2 g3 g4
    subst e1 e2 e3 e4 g1 g2 g3 g4
    rw [← Bool.decide_and, ← Bool.decide_and, ← Bool.decide_and, ← Bool.decide_and, ← Bool.decide_and]
    exact eqNd_iff (by simp only [Gr.Nd.mk.injEq]; exact ⟨fun ⟨h1, h2, h3, h4, h5, h6⟩ => ⟨h1, h2, h5, h6, h3, h4⟩, fun ⟨h1, h2, h3, h4, h5, h6⟩ => ⟨h1, h2, h5, h6, h3, h4⟩⟩)
  have HEQ := Lib.hid heq
  have h8 := eq8 r0 r1 r2 r3 r4 r5 r6 r7 s0 s1 s2 s3 s4 s5 s6 s7
  have hfl : n.frm.length ≤ 9223372036854775807 := by obtain ⟨_, _, _, h, _⟩ := ints_open hn.f; exact h
  have hpl : n.prog.length ≤ 9223372036854775807 := by obtain ⟨_, _, _, h, _⟩ := hn.p.open2; exact h
  clear hn hm e1 e2 e3 e4 g1 g2 g3 g4 heq
  generalize hq8 : decide ([r0, r1, r2, r3, r4, r5, r6, r7] = [s0, s1, s2, s3, s4, s5, s6, s7]) = b8 at *
  generalize hqf : decide (n.frm = m.frm) = bf at *
  generalize hqp : decide (n.prog = m.prog) = bp at *
  clear hq8 hqf hqp
  generalize n.frm.length = nf at *
  generalize m.frm.length = mf at *
  generalize n.prog.length = np at *
  generalize m.prog.length = mp at *
  generalize eqNd n m = q at *
  by_cases h1 : id = id2
  case neg =>
    have hq : q = false := by rw [HEQ.out, decide_eq_false h1]; simp
    have HQ := Lib.hid hq
    have h1b : (id == id2) = false := by simpa using h1
    clear h1 hq
    go_enter Tryz.func73, Tryz.ntmps73
    go_wp2_with (first
    | (go_at_call 107; refine (HF.out _ (by repeat (first | with_reducible exact Grew.refl _ | apply Grew.more | apply Grew.alloc | apply Grew.drew | apply Grew.drewN))).mono ?_; rintro e w1 ⟨rfl, R1, n1, rfl⟩)
    | (go_at_call 108; refine (HP.out _ (by repeat (first | with_reducible exact Grew.refl _ | apply Grew.more | apply Grew.alloc | apply Grew.drew | apply Grew.drewN))).mono ?_; rintro e w1 ⟨rfl, R2, n2, rfl⟩))
    go_ret
    exact ⟨by rw [HQ.out]; rfl, by repeat (first | with_reducible exact Grew.refl _ | apply Grew.more | apply Grew.alloc | apply Grew.drew | apply Grew.drewN)⟩
  subst h1
  by_cases h2 : kind = kind2
  case neg =>
    have hq : q = false := by rw [HEQ.out, decide_eq_false h2]; simp
    have HQ := Lib.hid hq
    have h2b : (kind == kind2) = false := by simpa using h2
    clear h2 hq
    go_enter Tryz.func73, Tryz.ntmps73
    go_wp2_with (first
    | (go_at_call 107; refine (HF.out _ (by repeat (first | with_reducible exact Grew.refl _ | apply Grew.more | apply Grew.alloc | apply Grew.drew | apply Grew.drewN))).mono ?_; rintro e w1 ⟨rfl, R1, n1, rfl⟩)
    | (go_at_call 108; refine (HP.out _ (by repeat (first | with_reducible exact Grew.refl _ | apply Grew.more | apply Grew.alloc | apply Grew.drew | apply Grew.drewN))).mono ?_; rintro e w1 ⟨rfl, R2, n2, rfl⟩))
    go_ret
    exact ⟨by rw [HQ.out]; rfl, by repeat (first | with_reducible exact Grew.refl _ | apply Grew.more | apply Grew.alloc | apply Grew.drew | apply Grew.drewN)⟩
  subst h2
  by_cases h3 : par = par2
  case neg =>
    have hq : q = false := by rw [HEQ.out, decide_eq_false h3]; simp
    have HQ := Lib.hid hq
    have h3b : (par == par2) = false := by simpa using h3
    clear h3 hq
    go_enter Tryz.func73, Tryz.ntmps73
    go_wp2_with (first
    | (go_at_call 107; refine (HF.out _ (by repeat (first | with_reducible exact Grew.refl _ | apply Grew.more | apply Grew.alloc | apply Grew.drew | apply Grew.drewN))).mono ?_; rintro e w1 ⟨rfl, R1, n1, rfl⟩)
    | (go_at_call 108; refine (HP.out _ (by repeat (first | with_reducible exact Grew.refl _ | apply Grew.more | apply Grew.alloc | apply Grew.drew | apply Grew.drewN))).mono ?_; rintro e w1 ⟨rfl, R2, n2, rfl⟩))
    go_ret
    exact ⟨by rw [HQ.out]; rfl, by repeat (first | with_reducible exact Grew.refl _ | apply Grew.more | apply Grew.alloc | apply Grew.drew | apply Grew.drewN)⟩
  subst h3
  cases b8
  · have hq : q = false := by rw [HEQ.out]; simp
    have HQ := Lib.hid hq
    clear hq
    go_enter Tryz.func73, Tryz.ntmps73
    go_wp2_with (first
    | (go_at_call 107; refine (HF.out _ (by repeat (first | with_reducible exact Grew.refl _ | apply Grew.more | apply Grew.alloc | apply Grew.drew | apply Grew.drewN))).mono ?_; rintro e w1 ⟨rfl, R1, n1, rfl⟩)
    | (go_at_call 108; refine (HP.out _ (by repeat (first | with_reducible exact Grew.refl _ | apply Grew.more | apply Grew.alloc | apply Grew.drew | apply Grew.drewN))).mono ?_; rintro e w1 ⟨rfl, R2, n2, rfl⟩))
    go_ret
    exact ⟨by rw [HQ.out]; rfl, by repeat (first | with_reducible exact Grew.refl _ | apply Grew.more | apply Grew.alloc | apply Grew.drew | apply Grew.drewN)⟩
  cases bf
  · have hq : q = false := by rw [HEQ.out]; simp
    have HQ := Lib.hid hq
    clear hq
    go_enter Tryz.func73, Tryz.ntmps73
    go_wp2_with (first
    | (go_at_call 107; refine (HF.out _ (by repeat (first | with_reducible exact Grew.refl _ | apply Grew.more | apply Grew.alloc | apply Grew.drew | apply Grew.drewN))).mono ?_; rintro e w1 ⟨rfl, R1, n1, rfl⟩)
    | (go_at_call 108; refine (HP.out _ (by repeat (first | with_reducible exact Grew.refl _ | apply Grew.more | apply Grew.alloc | apply Grew.drew | apply Grew.drewN))).mono ?_; rintro e w1 ⟨rfl, R2, n2, rfl⟩))
    go_ret
    exact ⟨by rw [HQ.out]; rfl, by repeat (first | with_reducible exact Grew.refl _ | apply Grew.more | apply Grew.alloc | apply Grew.drew | apply Grew.drewN)⟩
  · have hq : q = bp := by rw [HEQ.out]; simp
    have HQ := Lib.hid hq
    clear hq
    go_enter Tryz.func73, Tryz.ntmps73
    go_wp2_with (first
    | (go_at_call 107; refine (HF.out _ (by repeat (first | with_reducible exact Grew.refl _ | apply Grew.more | apply Grew.alloc | apply Grew.drew | apply Grew.drewN))).mono ?_; rintro e w1 ⟨rfl, R1, n1, rfl⟩)
    | (go_at_call 108; refine (HP.out _ (by repeat (first | with_reducible exact Grew.refl _ | apply Grew.more | apply Grew.alloc | apply Grew.drew | apply Grew.drewN))).mono ?_; rintro e w1 ⟨rfl, R2, n2, rfl⟩))
    go_ret
    exact ⟨by rw [HQ.out]; rfl, by repeat (first | with_reducible exact Grew.refl _ | apply Grew.more | apply Grew.alloc | apply Grew.drew | apply Grew.drewN)⟩
end Go.Proofs.YthlmmfljeblflaaGreatDoor

/-! forebayref08.Same. -/
namespace Go.Proofs.YthlmmfljeblflaaGreatDoor
set_option linter.unusedSimpArgs false
set_option linter.unusedVariables false
open Go.RowKit Ga
set_option maxRecDepth 100000

end Go.Proofs.YthlmmfljeblflaaGreatDoor

/-! graph.Pass at two parts. -/
namespace Go.Proofs.YthlmmfljeblflaaGreatDoor
set_option linter.unusedSimpArgs false
set_option linter.unusedVariables false
open Go.RowKit Ga
set_option maxRecDepth 100000

end Go.Proofs.YthlmmfljeblflaaGreatDoor

/-! forebaylaw13: awake. -/
namespace Go.Proofs.YthlmmfljeblflaaGreatDoor
set_option linter.unusedSimpArgs false
set_option linter.unusedVariables false
open Go.RowKit Ga
set_option maxRecDepth 100000

end Go.Proofs.YthlmmfljeblflaaGreatDoor

/-! graph.Pass at one part. -/
namespace Go.Proofs.YthlmmfljeblflaaGreatDoor
set_option linter.unusedSimpArgs false
set_option linter.unusedVariables false
open Go.RowKit Ga
set_option maxRecDepth 100000

def passL1 : List Gr.Nd := [⟨0, 0, [], [], 1, List.replicate 8 0⟩, ⟨1, 2, [0], [], 1, List.replicate 8 0⟩]
def Pass1Gives (w : World) (e : Ending) (w' : World) : Prop := ∃ v, e = .returned v ∧ NodesAt w' v passL1 ∧ Grew w w'
set_option maxHeartbeats 8000000 in
theorem pass1_any (w : World) : Calls Tryz.prog 18 #[.int .i64 1] w (Pass1Gives w) := by
  go_enter Tryz.func18, Tryz.ntmps18
  go_wp2
  have hm1 : max (1 : Int) 1 = 1 := rfl
  have hm2 : min (1 : Int) 3 = 1 := rfl
  simp only [hm1, hm2]
  go_loopg [11] 8 (fun gg s11 wr => ∃ g : Nat, g ≤ 8 ∧ 8 - g ≤ gg ∧ s11 = .int .i64 g ∧ wr.heap[w.heap.size]? = some (.cells (nodeArr 0 0 (.slice none 0 0) (.slice none 0 0) 1 (List.replicate 8 0)) 41) ∧ Hid (Grew w wr))
  case atStart =>
    refine ⟨0, by omega, by omega, rfl, ?_, Lib.hid ?_⟩
    · have hna : nodeArr 0 0 (.slice none 0 0) (.slice none 0 0) 1 (List.replicate 8 0) = #[.int .i64 0, .int .i64 0, .slice none 0 0, .slice none 0 0, .int .i64 1, .int .i64 0, .int .i64 0, .int .i64 0, .int .i64 0, .int .i64 0, .int .i64 0, .int .i64 0, .int .i64 0] := by
        simp [nodeArr, List.replicate_succ]
      rw [hna]
      exact heap_new_at w _ _ rfl
    · repeat (first | exact (Grew.refl _).alloc _ | refine Grew.set ?_ (Nat.le_refl _) _)
  case round =>
    obtain ⟨g, hg8, hgg, rfl, hbx, HGR⟩ := hrel
    have hp := Pre.mk (heap_lt hbx)
    have HBX := Lib.hid hbx
    by_cases hlt : g < 8
    · have hset : (List.replicate 8 (0 : Int)).set g 0 = List.replicate 8 0 := by
        have : g = 0 ∨ g = 1 ∨ g = 2 ∨ g = 3 ∨ g = 4 ∨ g = 5 ∨ g = 6 ∨ g = 7 := by omega
        rcases this with rfl | rfl | rfl | rfl | rfl | rfl | rfl | rfl <;> rfl
      have hc5 := cell_of (o := 5 + g) hbx
      rw [nodeArr_get _ _ _ _ _ _ g (by simp; omega)] at hc5
      have hf5 := frozen_of (o := 5 + g) hbx
      have HSET := Lib.hid hset
      have hne : (1 : Int) ≠ 0 := by decide
      have htm : Int.tmod (g : Int) 1 = 0 := Int.tmod_one _
      clear hset hbx
      go_wp2
      go_roundg (8 - (g + 1))
      case measure => omega
      case rel =>
        refine ⟨g + 1, by omega, by omega, by go_num, ?_, Lib.hid (HGR.out.set (Nat.le_refl _) _)⟩
        rw [show (List.replicate 8 (0 : Int)) = (List.replicate 8 (0 : Int)).set g 0 from HSET.out.symm, ← nodeArr_set]
        exact set_self HBX.out
    · obtain rfl : g = 8 := by omega
      have a0 := cell_of (o := 0) hbx
      have a1 := cell_of (o := 1) hbx
      have a2 := cell_of (o := 2) hbx
      have a3 := cell_of (o := 3) hbx
      have a4 := cell_of (o := 4) hbx
      have a5 := cell_of (o := 5) hbx
      have a6 := cell_of (o := 6) hbx
      have a7 := cell_of (o := 7) hbx
      have a8 := cell_of (o := 8) hbx
      have a9 := cell_of (o := 9) hbx
      have a10 := cell_of (o := 10) hbx
      have a11 := cell_of (o := 11) hbx
      have a12 := cell_of (o := 12) hbx
      simp [nodeArr, List.replicate_succ] at a0 a1 a2 a3 a4 a5 a6 a7 a8 a9 a10 a11 a12
      clear hbx
      go_wp2
      go_ret
      refine ⟨_, rfl, ⟨[⟨0, 0, none, 0, 0, none, 0, 0, 1, 0, 0, 0, 0, 0, 0, 0, 0⟩, ⟨1, 2, some ⟨wr.heap.size + 1, 0, none⟩, 1, 1, none, 0, 0, 1, 0, 0, 0, 0, 0, 0, 0, 0⟩], ?_, rfl, ?_⟩, HGR.out.trans (by repeat (first | with_reducible exact Grew.refl _ | apply Grew.more | apply Grew.alloc | apply Grew.drew | apply Grew.drewN))⟩
      · exact RowsAt.fresh rfl (by simp [maxLen]) encNd_len (by simp [World.size_alloc]) rfl
      · have hi : IntsAt (((wr.alloc (.cells #[.int .i64 1, .int .i64 2, .slice (some ⟨wr.heap.size + 1, 0, none⟩) 1 1, .slice none 0 0, .int .i64 1, .int .i64 0, .int .i64 0, .int .i64 0, .int .i64 0, .int .i64 0, .int .i64 0, .int .i64 0, .int .i64 0] 41))).alloc (.cells #[.int .i64 0] 3)) (.slice (some ⟨wr.heap.size + 1, 0, none⟩) 1 1) [0] := RowsAt.fresh rfl (by decide) (fun _ => rfl) (by simp [World.size_alloc]) rfl
        intro i c n h1 h2
        match i with
        | 0 =>
          cases h1
          cases h2
          exact ⟨rfl, rfl, RowsAt.nil, RowsAt.nil, rfl, rfl, Nat.zero_le _⟩
        | 1 =>
          cases h1
          cases h2
          exact ⟨rfl, rfl, hi.grew ((Grew.refl _).alloc _), RowsAt.nil, rfl, rfl, Nat.le_refl _⟩
        | i + 2 => cases h1
end Go.Proofs.YthlmmfljeblflaaGreatDoor
