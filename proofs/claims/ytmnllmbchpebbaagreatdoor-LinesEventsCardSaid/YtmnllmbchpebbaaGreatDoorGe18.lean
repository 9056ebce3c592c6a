import Derived.Test.YtmnllmbchpebbaaGreatDoorGe9
import Derived.Test.YtmnllmbchpebbaaGreatDoorGe15
/-! graph.alike. -/
namespace Go.Proofs.YtmnllmbchpebbaaGreatDoor
set_option linter.unusedSimpArgs false
set_option linter.unusedVariables false
open Go.RowKit Ga
set_option maxRecDepth 100000

set_option maxHeartbeats 8000000 in
theorem alike_any (c d : NdC) (n m : Gr.Nd) (w : World) (hn : NodeIs w c n) (hm : NodeIs w d m) : Calls Tryz.prog 121 #[.agg #[.int .i64 c.id, .int .i64 c.kind, .slice c.af c.nf c.cf, .slice c.ap c.np c.cp, .int .i64 c.par, .int .i64 c.r0, .int .i64 c.r1, .int .i64 c.r2, .int .i64 c.r3, .int .i64 c.r4, .int .i64 c.r5, .int .i64 c.r6, .int .i64 c.r7], .agg #[.int .i64 d.id, .int .i64 d.kind, .slice d.af d.nf d.cf, .slice d.ap d.np d.cp, .int .i64 d.par, .int .i64 d.r0, .int .i64 d.r1, .int .i64 d.r2, .int .i64 d.r3, .int .i64 d.r4, .int .i64 d.r5, .int .i64 d.r6, .int .i64 d.r7]] w (Gives (.bool (eqNd n m)) w) := by
  have HF := Lib.hid fun W (g : Grew w W) => eqInts_any _ _ n.frm m.frm W (hn.f.grew g) (hm.f.grew g)
  have HP := Lib.hid fun W (g : Grew w W) => eqVals_any _ _ n.prog m.prog W (hn.p.grew g) (hm.p.grew g)
  obtain ⟨id, kind, af, cf, ap, cp, par, r0, r1, r2, r3, r4, r5, r6, r7, rfl⟩ := hn.lit
  obtain ⟨id2, kind2, af2, cf2, ap2, cp2, par2, s0, s1, s2, s3, s4, s5, s6, s7, rfl⟩ := hm.lit
  have e1 := hn.id
  have e2 := hn.kind
  have e3 := hn.par
  have e4 := hn.route
  have g1 := hm.id
  have g2 := hm.kind
  have g3 := hm.par
  have g4 := hm.route
  simp only at e1 e2 e3 e4 g1 g2 g3 g4 HF HP
  have heq : eqNd n m = (decide (id = id2) && (decide (kind = kind2) && (decide (par = par2) && (decide ([r0, r1, r2, r3, r4, r5, r6, r7] = [s0, s1, s2, s3, s4, s5, s6, s7]) && (decide (n.frm = m.frm) && decide (n.prog = m.prog)))))) := by
    obtain ⟨i1, k1, f1, p1, q1, t1⟩ := n
    obtain ⟨i2, k2, f2, p2, q2, t2⟩ := m
    simp only at e1 e2 e3 e4 g1 g2 g3 g4
    subst e1 e2 e3 e4 g1 g2 g3 g4
    rw [← Bool.decide_and, ← Bool.decide_and, ← Bool.decide_and, ← Bool.decide_and, ← Bool.decide_and]
    exact eqNd_iff (by simp only [Gr.Nd.mk.injEq]; exact ⟨fun ⟨h1, h2, h3, h4, h5, h6⟩ => ⟨h1, h2, h5, h6, h3, h4⟩, fun ⟨h1, h2, h3, h4, h5, h6⟩ => ⟨h1, h2, h5, h6, h3, h4⟩⟩)
  have HEQ := Lib.hid heq
  have h8 := eq8 r0 r1 r2 r3 r4 r5 r6 r7 s0 s1 s2 s3 s4 s5 s6 s7
  have hfl : n.frm.length ≤ 9223372036854775807 := by obtain ⟨_, _, _, h, _⟩ := ints_open hn.f; exact h
  have hpl : n.prog.length ≤ 9223372036854775807 := by obtain ⟨_, _, _, h, _⟩ := hn.p.open2; exact h
  clear hn hm e1 e2 e3 e4 g1 g2 g3 g4 heq
  generalize hq8 : decide ([r0, r1, r2, r3, r4, r5, r6, r7] = [s0, s1, s2, s3, s4, s5, s6, s7]) = b8 at *
  generalize hqf : decide (n.frm = m.frm) = bf at *
  generalize hqp : decide (n.prog = m.prog) = bp at *
  clear hq8 hqf hqp
  generalize n.frm.length = nf at *
  generalize m.frm.length = mf at *
  generalize n.prog.length = np at *
  generalize m.prog.length = mp at *
  generalize eqNd n m = q at *
  by_cases h1 : id = id2
  case neg =>
    have hq : q = false := by rw [HEQ.out, decide_eq_false h1]; simp
    have HQ := Lib.hid hq
    have h1b : (id == id2) = false := by simpa using h1
    clear h1 hq
    go_enter Tryz.func121, Tryz.ntmps121
    go_wp2_with (first
    | (go_at_call 158; refine (HF.out _ (by repeat (first | with_reducible exact Grew.refl _ | apply Grew.more | apply Grew.alloc | apply Grew.drew | apply Grew.drewN))).mono ?_; rintro e w1 ⟨rfl, R1, n1, rfl⟩)
    | (go_at_call 159; refine (HP.out _ (by repeat (first | with_reducible exact Grew.refl _ | apply Grew.more | apply Grew.alloc | apply Grew.drew | apply Grew.drewN))).mono ?_; rintro e w1 ⟨rfl, R2, n2, rfl⟩))
    go_ret
    exact ⟨by rw [HQ.out]; rfl, by repeat (first | with_reducible exact Grew.refl _ | apply Grew.more | apply Grew.alloc | apply Grew.drew | apply Grew.drewN)⟩
  subst h1
  by_cases h2 : kind = kind2
  case neg =>
    have hq : q = false := by rw [HEQ.out, decide_eq_false h2]; simp
    have HQ := Lib.hid hq
    have h2b : (kind == kind2) = false := by simpa using h2
    clear h2 hq
    go_enter Tryz.func121, Tryz.ntmps121
    go_wp2_with (first
    | (go_at_call 158; refine (HF.out _ (by repeat (first | with_reducible exact Grew.refl _ | apply Grew.more | apply Grew.alloc | apply Grew.drew | apply Grew.drewN))).mono ?_; rintro e w1 ⟨rfl, R1, n1, rfl⟩)
    | (go_at_call 159; refine (HP.out _ (by repeat (first | with_reducible exact Grew.refl _ | apply Grew.more | apply Grew.alloc | apply Grew.drew | apply Grew.drewN))).mono ?_; rintro e w1 ⟨rfl, R2, n2, rfl⟩))
    go_ret
    exact ⟨by rw [HQ.out]; rfl, by repeat (first | with_reducible exact Grew.refl _ | apply Grew.more | apply Grew.alloc | apply Grew.drew | apply Grew.drewN)⟩
  subst h2
  by_cases h3 : par = par2
  case neg =>
    have hq : q = false := by rw [HEQ.out, decide_eq_false h3]; simp
    have HQ := Lib.hid hq
    have h3b : (par == par2) = false := by simpa using h3
    clear h3 hq
    go_enter Tryz.func121, Tryz.ntmps121
    go_wp2_with (first
    | (go_at_call 158; refine (HF.out _ (by repeat (first | with_reducible exact Grew.refl _ | apply Grew.more | apply Grew.alloc | apply Grew.drew | apply Grew.drewN))).mono ?_; rintro e w1 ⟨rfl, R1, n1, rfl⟩)
    | (go_at_call 159; refine (HP.out _ (by repeat (first | with_reducible exact Grew.refl _ | apply Grew.more | apply Grew.alloc | apply Grew.drew | apply Grew.drewN))).mono ?_; rintro e w1 ⟨rfl, R2, n2, rfl⟩))
    go_ret
    exact ⟨by rw [HQ.out]; rfl, by repeat (first | with_reducible exact Grew.refl _ | apply Grew.more | apply Grew.alloc | apply Grew.drew | apply Grew.drewN)⟩
  subst h3
  cases b8
  · have hq : q = false := by rw [HEQ.out]; simp
    have HQ := Lib.hid hq
    clear hq
    go_enter Tryz.func121, Tryz.ntmps121
    go_wp2_with (first
    | (go_at_call 158; refine (HF.out _ (by repeat (first | with_reducible exact Grew.refl _ | apply Grew.more | apply Grew.alloc | apply Grew.drew | apply Grew.drewN))).mono ?_; rintro e w1 ⟨rfl, R1, n1, rfl⟩)
    | (go_at_call 159; refine (HP.out _ (by repeat (first | with_reducible exact Grew.refl _ | apply Grew.more | apply Grew.alloc | apply Grew.drew | apply Grew.drewN))).mono ?_; rintro e w1 ⟨rfl, R2, n2, rfl⟩))
    go_ret
    exact ⟨by rw [HQ.out]; rfl, by repeat (first | with_reducible exact Grew.refl _ | apply Grew.more | apply Grew.alloc | apply Grew.drew | apply Grew.drewN)⟩
  cases bf
  · have hq : q = false := by rw [HEQ.out]; simp
    have HQ := Lib.hid hq
    clear hq
    go_enter Tryz.func121, Tryz.ntmps121
    go_wp2_with (first
    | (go_at_call 158; refine (HF.out _ (by repeat (first | with_reducible exact Grew.refl _ | apply Grew.more | apply Grew.alloc | apply Grew.drew | apply Grew.drewN))).mono ?_; rintro e w1 ⟨rfl, R1, n1, rfl⟩)
    | (go_at_call 159; refine (HP.out _ (by repeat (first | with_reducible exact Grew.refl _ | apply Grew.more | apply Grew.alloc | apply Grew.drew | apply Grew.drewN))).mono ?_; rintro e w1 ⟨rfl, R2, n2, rfl⟩))
    go_ret
    exact ⟨by rw [HQ.out]; rfl, by repeat (first | with_reducible exact Grew.refl _ | apply Grew.more | apply Grew.alloc | apply Grew.drew | apply Grew.drewN)⟩
  · have hq : q = bp := by rw [HEQ.out]; simp
    have HQ := Lib.hid hq
    clear hq
    go_enter Tryz.func121, Tryz.ntmps121
    go_wp2_with (first
    | (go_at_call 158; refine (HF.out _ (by repeat (first | with_reducible exact Grew.refl _ | apply Grew.more | apply Grew.alloc | apply Grew.drew | apply Grew.drewN))).mono ?_; rintro e w1 ⟨rfl, R1, n1, rfl⟩)
    | (go_at_call 159; refine (HP.out _ (by repeat (first | with_reducible exact Grew.refl _ | apply Grew.more | apply Grew.alloc | apply Grew.drew | apply Grew.drewN))).mono ?_; rintro e w1 ⟨rfl, R2, n2, rfl⟩))
    go_ret
    exact ⟨by rw [HQ.out]; rfl, by repeat (first | with_reducible exact Grew.refl _ | apply Grew.more | apply Grew.alloc | apply Grew.drew | apply Grew.drewN)⟩
end Go.Proofs.YtmnllmbchpebbaaGreatDoor

/-! slices.EqualFunc at nodes, graph.Same at single nodes. -/
namespace Go.Proofs.YtmnllmbchpebbaaGreatDoor
set_option linter.unusedSimpArgs false
set_option linter.unusedVariables false
open Go.RowKit Ga
set_option maxRecDepth 100000

open Classical in
/-- two lists of nodes are one -/
noncomputable def eqNds (l m : List Gr.Nd) : Bool := decide (l = m)
open Classical in
theorem eqNds_true {l m : List Gr.Nd} (h : l = m) : eqNds l m = true := by unfold eqNds; exact decide_eq_true h
open Classical in
theorem eqNds_false {l m : List Gr.Nd} (h : l ≠ m) : eqNds l m = false := by unfold eqNds; exact decide_eq_false h
theorem eqNds_one (n m : Gr.Nd) : eqNds [n] [m] = eqNd n m := by
  by_cases h : n = m
  · rw [eqNd_true h, eqNds_true (by rw [h])]
  · rw [eqNd_false h, eqNds_false (by simpa using h)]
theorem eqNd_ne {n m : Gr.Nd} (h : eqNd n m = false) : n ≠ m := fun e => by rw [eqNd_true e] at h; cases h
open Classical in
theorem eqNd_at {n m : Gr.Nd} (h : eqNd n m = true) : n = m := by
  unfold eqNd at h
  exact of_decide_eq_true h
set_option maxHeartbeats 8000000 in
theorem eqFnNodes_any (v u : Value) (l m : List Gr.Nd) (w : World) (hv : NodesAt w v l) (hu : NodesAt w u m) : Calls Tryz.prog 120 #[v, u, .func (.func 121) #[] #[]] w (Gives (.bool (eqNds l m)) w) := by
  have HV := Lib.hid hv
  have HU := Lib.hid hu
  obtain ⟨a, cap, rfl, hm, -⟩ := hv.openC
  obtain ⟨a2, cap2, rfl, hm2, -⟩ := hu.openC
  clear hv hu
  by_cases hlen : l.length = m.length
  · have hD2 : ((l.length : Int) != (m.length : Int)) = false := by rw [hlen]; simp
    have HLEN := Lib.hid hlen
    clear hlen
    go_enter Tryz.func120, Tryz.ntmps120
    go_wp2
    go_loopg [17] l.length (fun gg s17 wr => ∃ g : Nat, g ≤ l.length ∧ l.length - g ≤ gg ∧ s17 = .int .i64 g ∧ Hid (Grew w wr) ∧ Hid (l.take g = m.take g))
    case atStart => exact ⟨0, by omega, by omega, rfl, Lib.hid (by repeat (first | with_reducible exact Grew.refl _ | apply Grew.more | apply Grew.alloc | apply Grew.drew | apply Grew.drewN)), Lib.hid rfl⟩
    case round =>
      obtain ⟨g, hg8, hgg, rfl, HGR, HNO⟩ := hrel
      by_cases hlt : g < l.length
      · have hlt2 : g < m.length := by have := HLEN.out; omega
        obtain ⟨av, cv, e, -, hx⟩ := (HV.out.grew HGR.out).openC
        cases e
        obtain ⟨av2, cv2, e, -, hx2⟩ := (HU.out.grew HGR.out).openC
        cases e
        obtain ⟨b, off, c, rfl, hb, hn, c0, c1, c2, c3, c4, c5, c6, c7, c8, c9, c10, c11, c12⟩ := hx g hlt
        obtain ⟨b2, off2, d, rfl, hb2, hn2, d0, d1, d2, d3, d4, d5, d6, d7, d8, d9, d10, d11, d12⟩ := hx2 g hlt2
        have HS := Lib.hid (take_eq_succ hlt hlt2 HNO.out)
        have HF := Lib.hid (neq_at hlt hlt2)
        clear hx hx2
        generalize l[g] = y at *
        generalize m[g] = z at *
        have HA := Lib.hid fun W (g : Grew wr W) => alike_any c d y z W (hn.grew g) (hn2.grew g)
        obtain ⟨cid, kind, af, cf, ap, cp, par, r0, r1, r2, r3, r4, r5, r6, r7, rfl⟩ := hn.lit
        obtain ⟨cid2, kind2, af2, cf2, ap2, cp2, par2, s0, s1, s2, s3, s4, s5, s6, s7, rfl⟩ := hn2.lit
        simp only at c0 c1 c2 c3 c4 c5 c6 c7 c8 c9 c10 c11 c12 d0 d1 d2 d3 d4 d5 d6 d7 d8 d9 d10 d11 d12
        clear hn hn2
        cases hq : eqNd y z
        · have HQ := Lib.hid hq
          have HFIN := Lib.hid (eqNds_false (HF.out (eqNd_ne hq)))
          clear hq
          go_wp2_with (go_at_call 121; refine (HA.out _ (by repeat (first | with_reducible exact Grew.refl _ | apply Grew.more | apply Grew.alloc | apply Grew.drew | apply Grew.drewN))).mono ?_; rintro e w1 ⟨rfl, R1, n1, rfl⟩; rw [HQ.out])
          go_ret
          exact ⟨by rw [HFIN.out]; rfl, HGR.out.trans (by repeat (first | with_reducible exact Grew.refl _ | apply Grew.more | apply Grew.alloc | apply Grew.drew | apply Grew.drewN))⟩
        · have HQ := Lib.hid hq
          have HS2 := Lib.hid (HS.out (eqNd_at hq))
          clear hq
          go_wp2_with (go_at_call 121; refine (HA.out _ (by repeat (first | with_reducible exact Grew.refl _ | apply Grew.more | apply Grew.alloc | apply Grew.drew | apply Grew.drewN))).mono ?_; rintro e w1 ⟨rfl, R1, n1, rfl⟩; rw [HQ.out])
          go_roundg (l.length - (g + 1))
          case measure => omega
          case rel => exact ⟨g + 1, by omega, by omega, by go_num, Lib.hid (HGR.out.trans (by repeat (first | with_reducible exact Grew.refl _ | apply Grew.more | apply Grew.alloc | apply Grew.drew | apply Grew.drewN))), HS2⟩
      · obtain rfl : g = l.length := by omega
        have hz := HNO.out
        rw [List.take_length, List.take_of_length_le (by have := HLEN.out; omega)] at hz
        have HFIN := Lib.hid (eqNds_true hz)
        clear hz
        go_wp2
        go_ret
        exact ⟨by rw [HFIN.out]; rfl, HGR.out⟩
  · have hD2 : ((l.length : Int) != (m.length : Int)) = true := by rw [bne_iff_ne]; omega
    have HFIN := Lib.hid (eqNds_false (l := l) (m := m) fun h => hlen (by rw [h]))
    clear hlen
    go_enter Tryz.func120, Tryz.ntmps120
    go_wp2
    go_ret
    exact ⟨by rw [HFIN.out]; rfl, by repeat (first | with_reducible exact Grew.refl _ | apply Grew.more | apply Grew.alloc | apply Grew.drew | apply Grew.drewN)⟩
end Go.Proofs.YtmnllmbchpebbaaGreatDoor
