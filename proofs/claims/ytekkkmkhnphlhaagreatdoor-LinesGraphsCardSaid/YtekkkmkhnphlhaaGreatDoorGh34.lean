import Derived.Test.YtekkkmkhnphlhaaGreatDoorGh14
import Derived.Test.YtekkkmkhnphlhaaGreatDoorGh29
import Derived.Test.YtekkkmkhnphlhaaGreatDoorGh25
import Derived.Test.YtekkkmkhnphlhaaGreatDoorGh27
import Derived.Test.YtekkkmkhnphlhaaGreatDoorGh28
/-! graph.alike. -/
namespace Go.Proofs.YtekkkmkhnphlhaaGreatDoor
set_option linter.unusedSimpArgs false
set_option linter.unusedVariables false
open Go.RowKit Ga
set_option maxRecDepth 100000

set_option maxHeartbeats 8000000 in
theorem alike_any (c d : NdC) (n m : Gr.Nd) (w : World) (hn : NodeIs w c n) (hm : NodeIs w d m) : Calls Tryz.prog 173 #[.agg #[.int .i64 c.id, .int .i64 c.kind, .slice c.af c.nf c.cf, .slice c.ap c.np c.cp, .int .i64 c.par, .int .i64 c.r0, .int .i64 c.r1, .int .i64 c.r2, .int .i64 c.r3, .int .i64 c.r4, .int .i64 c.r5, .int .i64 c.r6, .int .i64 c.r7], .agg #[.int .i64 d.id, .int .i64 d.kind, .slice d.af d.nf d.cf, .slice d.ap d.np d.cp, .int .i64 d.par, .int .i64 d.r0, .int .i64 d.r1, .int .i64 d.r2, .int .i64 d.r3, .int .i64 d.r4, .int .i64 d.r5, .int .i64 d.r6, .int .i64 d.r7]] w (Gives (.bool (eqNd n m)) w) := by
  have HF := Lib.hid fun W (g : Grew w W) => eqInts_any _ _ n.frm m.frm W (hn.f.grew g) (hm.f.grew g)
  have HP := Lib.hid fun W (g : Grew w W) => eqVals_any _ _ n.prog m.prog W (hn.p.grew g) (hm.p.grew g)
  obtain ⟨id, kind, af, cf, ap, cp, par, r0, r1, r2, r3, r4, r5, r6, r7, rfl⟩ := hn.lit
  obtain ⟨id2, kind2, af2, cf2, ap2, cp2, par2, s0, s1, s2, s3, s4, s5, s6, s7, rfl⟩ := hm.lit
  have e1 := hn.id
  have e2 := hn.kind
  have e3 := hn.par
  have e4 := hn.route
  have g1 := hm.id
  have g2 := hm.kind
  have g3 := hm.par
  have g4 := hm.route
  simp only at e1 e2 e3 e4 g1 g2 g3 g4 HF HP
  have heq : eqNd n m = (decide (id = id2) && (decide (kind = kind2) && (decide (par = par2) && (decide ([r0, r1, r2, r3, r4, r5, r6, r7] = [s0, s1, s2, s3, s4, s5, s6, s7]) && (decide (n.frm = m.frm) && decide (n.prog = m.prog)))))) := by
    obtain ⟨i1, k1, f1, p1, q1, t1⟩ := n
    obtain ⟨i2, k2, f2, p2, q2, t2⟩ := m
    simp only at e1 e2 e3 e4 g1 g2 g3 g4
    subst e1 e2 e3 e4 g1 g2 g3 g4
    rw [← Bool.decide_and, ← Bool.decide_and, ← Bool.decide_and, ← Bool.decide_and, ← Bool.decide_and]
    exact eqNd_iff (by simp only [Gr.Nd.mk.injEq]; exact ⟨fun ⟨h1, h2, h3, h4, h5, h6⟩ => ⟨h1, h2, h5, h6, h3, h4⟩, fun ⟨h1, h2, h3, h4, h5, h6⟩ => ⟨h1, h2, h5, h6, h3, h4⟩⟩)
  have HEQ := Lib.hid heq
  have h8 := eq8 r0 r1 r2 r3 r4 r5 r6 r7 s0 s1 s2 s3 s4 s5 s6 s7
  have hfl : n.frm.length ≤ 9223372036854775807 := by obtain ⟨_, _, _, h, _⟩ := ints_open hn.f; exact h
  have hpl : n.prog.length ≤ 9223372036854775807 := by obtain ⟨_, _, _, h, _⟩ := hn.p.open2; exact h
  clear hn hm e1 e2 e3 e4 g1 g2 g3 g4 heq
  generalize hq8 : decide ([r0, r1, r2, r3, r4, r5, r6, r7] = [s0, s1, s2, s3, s4, s5, s6, s7]) = b8 at *
  generalize hqf : decide (n.frm = m.frm) = bf at *
  generalize hqp : decide (n.prog = m.prog) = bp at *
  clear hq8 hqf hqp
  generalize n.frm.length = nf at *
  generalize m.frm.length = mf at *
  generalize n.prog.length = np at *
  generalize m.prog.length = mp at *
  generalize eqNd n m = q at *
  by_cases h1 : id = id2
  case neg =>
    have hq : q = false := by rw [HEQ.out, decide_eq_false h1]; simp
    have HQ := Lib.hid hq
    have h1b : (id == id2) = false := by simpa using h1
    clear h1 hq
    go_enter Tryz.func173, Tryz.ntmps173
    go_wp2_with (first
    | (go_at_call 207; refine (HF.out _ (by repeat (first | with_reducible exact Grew.refl _ | apply Grew.more | apply Grew.alloc | apply Grew.drew | apply Grew.drewN))).mono ?_; rintro e w1 ⟨rfl, R1, n1, rfl⟩)
    | (go_at_call 208; refine (HP.out _ (by repeat (first | with_reducible exact Grew.refl _ | apply Grew.more | apply Grew.alloc | apply Grew.drew | apply Grew.drewN))).mono ?_; rintro e w1 ⟨rfl, R2, n2, rfl⟩))
    go_ret
    exact ⟨by rw [HQ.out]; rfl, by repeat (first | with_reducible exact Grew.refl _ | apply Grew.more | apply Grew.alloc | apply Grew.drew | apply Grew.drewN)⟩
  subst h1
  by_cases h2 : kind = kind2
  case neg =>
    have hq : q = false := by rw [HEQ.out, decide_eq_false h2]; simp
    have HQ := Lib.hid hq
    have h2b : (kind == kind2) = false := by simpa using h2
    clear h2 hq
    go_enter Tryz.func173, Tryz.ntmps173
    go_wp2_with (first
    | (go_at_call 207; refine (HF.out _ (by repeat (first | with_reducible exact Grew.refl _ | apply Grew.more | apply Grew.alloc | apply Grew.drew | apply Grew.drewN))).mono ?_; rintro e w1 ⟨rfl, R1, n1, rfl⟩)
    | (go_at_call 208; refine (HP.out _ (by repeat (first | with_reducible exact Grew.refl _ | apply Grew.more | apply Grew.alloc | apply Grew.drew | apply Grew.drewN))).mono ?_; rintro e w1 ⟨rfl, R2, n2, rfl⟩))
    go_ret
    exact ⟨by rw [HQ.out]; rfl, by repeat (first | with_reducible exact Grew.refl _ | apply Grew.more | apply Grew.alloc | apply Grew.drew | apply Grew.drewN)⟩
  subst h2
  by_cases h3 : par = par2
  case neg =>
    have hq : q = false := by rw [HEQ.out, decide_eq_false h3]; simp
    have HQ := Lib.hid hq
    have h3b : (par == par2) = false := by simpa using h3
    clear h3 hq
    go_enter Tryz.func173, Tryz.ntmps173
    go_wp2_with (first
    | (go_at_call 207; refine (HF.out _ (by repeat (first | with_reducible exact Grew.refl _ | apply Grew.more | apply Grew.alloc | apply Grew.drew | apply Grew.drewN))).mono ?_; rintro e w1 ⟨rfl, R1, n1, rfl⟩)
    | (go_at_call 208; refine (HP.out _ (by repeat (first | with_reducible exact Grew.refl _ | apply Grew.more | apply Grew.alloc | apply Grew.drew | apply Grew.drewN))).mono ?_; rintro e w1 ⟨rfl, R2, n2, rfl⟩))
    go_ret
    exact ⟨by rw [HQ.out]; rfl, by repeat (first | with_reducible exact Grew.refl _ | apply Grew.more | apply Grew.alloc | apply Grew.drew | apply Grew.drewN)⟩
  subst h3
  cases b8
  · have hq : q = false := by rw [HEQ.out]; simp
    have HQ := Lib.hid hq
    clear hq
    go_enter Tryz.func173, Tryz.ntmps173
    go_wp2_with (first
    | (go_at_call 207; refine (HF.out _ (by repeat (first | with_reducible exact Grew.refl _ | apply Grew.more | apply Grew.alloc | apply Grew.drew | apply Grew.drewN))).mono ?_; rintro e w1 ⟨rfl, R1, n1, rfl⟩)
    | (go_at_call 208; refine (HP.out _ (by repeat (first | with_reducible exact Grew.refl _ | apply Grew.more | apply Grew.alloc | apply Grew.drew | apply Grew.drewN))).mono ?_; rintro e w1 ⟨rfl, R2, n2, rfl⟩))
    go_ret
    exact ⟨by rw [HQ.out]; rfl, by repeat (first | with_reducible exact Grew.refl _ | apply Grew.more | apply Grew.alloc | apply Grew.drew | apply Grew.drewN)⟩
  cases bf
  · have hq : q = false := by rw [HEQ.out]; simp
    have HQ := Lib.hid hq
    clear hq
    go_enter Tryz.func173, Tryz.ntmps173
    go_wp2_with (first
    | (go_at_call 207; refine (HF.out _ (by repeat (first | with_reducible exact Grew.refl _ | apply Grew.more | apply Grew.alloc | apply Grew.drew | apply Grew.drewN))).mono ?_; rintro e w1 ⟨rfl, R1, n1, rfl⟩)
    | (go_at_call 208; refine (HP.out _ (by repeat (first | with_reducible exact Grew.refl _ | apply Grew.more | apply Grew.alloc | apply Grew.drew | apply Grew.drewN))).mono ?_; rintro e w1 ⟨rfl, R2, n2, rfl⟩))
    go_ret
    exact ⟨by rw [HQ.out]; rfl, by repeat (first | with_reducible exact Grew.refl _ | apply Grew.more | apply Grew.alloc | apply Grew.drew | apply Grew.drewN)⟩
  · have hq : q = bp := by rw [HEQ.out]; simp
    have HQ := Lib.hid hq
    clear hq
    go_enter Tryz.func173, Tryz.ntmps173
    go_wp2_with (first
    | (go_at_call 207; refine (HF.out _ (by repeat (first | with_reducible exact Grew.refl _ | apply Grew.more | apply Grew.alloc | apply Grew.drew | apply Grew.drewN))).mono ?_; rintro e w1 ⟨rfl, R1, n1, rfl⟩)
    | (go_at_call 208; refine (HP.out _ (by repeat (first | with_reducible exact Grew.refl _ | apply Grew.more | apply Grew.alloc | apply Grew.drew | apply Grew.drewN))).mono ?_; rintro e w1 ⟨rfl, R2, n2, rfl⟩))
    go_ret
    exact ⟨by rw [HQ.out]; rfl, by repeat (first | with_reducible exact Grew.refl _ | apply Grew.more | apply Grew.alloc | apply Grew.drew | apply Grew.drewN)⟩
end Go.Proofs.YtekkkmkhnphlhaaGreatDoor

/-! slices.EqualFunc at nodes, graph.Same at single nodes. -/
namespace Go.Proofs.YtekkkmkhnphlhaaGreatDoor
set_option linter.unusedSimpArgs false
set_option linter.unusedVariables false
open Go.RowKit Ga
set_option maxRecDepth 100000

open Classical in
/-- two lists of nodes are one -/
noncomputable def eqNds (l m : List Gr.Nd) : Bool := decide (l = m)
open Classical in
theorem eqNds_true {l m : List Gr.Nd} (h : l = m) : eqNds l m = true := by unfold eqNds; exact decide_eq_true h
open Classical in
theorem eqNds_false {l m : List Gr.Nd} (h : l ≠ m) : eqNds l m = false := by unfold eqNds; exact decide_eq_false h
theorem eqNds_one (n m : Gr.Nd) : eqNds [n] [m] = eqNd n m := by
  by_cases h : n = m
  · rw [eqNd_true h, eqNds_true (by rw [h])]
  · rw [eqNd_false h, eqNds_false (by simpa using h)]
theorem eqNd_ne {n m : Gr.Nd} (h : eqNd n m = false) : n ≠ m := fun e => by rw [eqNd_true e] at h; cases h
open Classical in
theorem eqNd_at {n m : Gr.Nd} (h : eqNd n m = true) : n = m := by
  unfold eqNd at h
  exact of_decide_eq_true h
set_option maxHeartbeats 8000000 in
theorem eqFnNodes_any (v u : Value) (l m : List Gr.Nd) (w : World) (hv : NodesAt w v l) (hu : NodesAt w u m) : Calls Tryz.prog 172 #[v, u, .func (.func 173) #[] #[]] w (Gives (.bool (eqNds l m)) w) := by
  have HV := Lib.hid hv
  have HU := Lib.hid hu
  obtain ⟨a, cap, rfl, hm, -⟩ := hv.openC
  obtain ⟨a2, cap2, rfl, hm2, -⟩ := hu.openC
  clear hv hu
  by_cases hlen : l.length = m.length
  · have hD2 : ((l.length : Int) != (m.length : Int)) = false := by rw [hlen]; simp
    have HLEN := Lib.hid hlen
    clear hlen
    go_enter Tryz.func172, Tryz.ntmps172
    go_wp2
    go_loopg [17] l.length (fun gg s17 wr => ∃ g : Nat, g ≤ l.length ∧ l.length - g ≤ gg ∧ s17 = .int .i64 g ∧ Hid (Grew w wr) ∧ Hid (l.take g = m.take g))
    case atStart => exact ⟨0, by omega, by omega, rfl, Lib.hid (by repeat (first | with_reducible exact Grew.refl _ | apply Grew.more | apply Grew.alloc | apply Grew.drew | apply Grew.drewN)), Lib.hid rfl⟩
    case round =>
      obtain ⟨g, hg8, hgg, rfl, HGR, HNO⟩ := hrel
      by_cases hlt : g < l.length
      · have hlt2 : g < m.length := by have := HLEN.out; omega
        obtain ⟨av, cv, e, -, hx⟩ := (HV.out.grew HGR.out).openC
        cases e
        obtain ⟨av2, cv2, e, -, hx2⟩ := (HU.out.grew HGR.out).openC
        cases e
        obtain ⟨b, off, c, rfl, hb, hn, c0, c1, c2, c3, c4, c5, c6, c7, c8, c9, c10, c11, c12⟩ := hx g hlt
        obtain ⟨b2, off2, d, rfl, hb2, hn2, d0, d1, d2, d3, d4, d5, d6, d7, d8, d9, d10, d11, d12⟩ := hx2 g hlt2
        have HS := Lib.hid (take_eq_succ hlt hlt2 HNO.out)
        have HF := Lib.hid (neq_at hlt hlt2)
        clear hx hx2
        generalize l[g] = y at *
        generalize m[g] = z at *
        have HA := Lib.hid fun W (g : Grew wr W) => alike_any c d y z W (hn.grew g) (hn2.grew g)
        obtain ⟨cid, kind, af, cf, ap, cp, par, r0, r1, r2, r3, r4, r5, r6, r7, rfl⟩ := hn.lit
        obtain ⟨cid2, kind2, af2, cf2, ap2, cp2, par2, s0, s1, s2, s3, s4, s5, s6, s7, rfl⟩ := hn2.lit
        simp only at c0 c1 c2 c3 c4 c5 c6 c7 c8 c9 c10 c11 c12 d0 d1 d2 d3 d4 d5 d6 d7 d8 d9 d10 d11 d12
        clear hn hn2
        cases hq : eqNd y z
        · have HQ := Lib.hid hq
          have HFIN := Lib.hid (eqNds_false (HF.out (eqNd_ne hq)))
          clear hq
          go_wp2_with (go_at_call 173; refine (HA.out _ (by repeat (first | with_reducible exact Grew.refl _ | apply Grew.more | apply Grew.alloc | apply Grew.drew | apply Grew.drewN))).mono ?_; rintro e w1 ⟨rfl, R1, n1, rfl⟩; rw [HQ.out])
          go_ret
          exact ⟨by rw [HFIN.out]; rfl, HGR.out.trans (by repeat (first | with_reducible exact Grew.refl _ | apply Grew.more | apply Grew.alloc | apply Grew.drew | apply Grew.drewN))⟩
        · have HQ := Lib.hid hq
          have HS2 := Lib.hid (HS.out (eqNd_at hq))
          clear hq
          go_wp2_with (go_at_call 173; refine (HA.out _ (by repeat (first | with_reducible exact Grew.refl _ | apply Grew.more | apply Grew.alloc | apply Grew.drew | apply Grew.drewN))).mono ?_; rintro e w1 ⟨rfl, R1, n1, rfl⟩; rw [HQ.out])
          go_roundg (l.length - (g + 1))
          case measure => omega
          case rel => exact ⟨g + 1, by omega, by omega, by go_num, Lib.hid (HGR.out.trans (by repeat (first | with_reducible exact Grew.refl _ | apply Grew.more | apply Grew.alloc | apply Grew.drew | apply Grew.drewN))), HS2⟩
      · obtain rfl : g = l.length := by omega
        have hz := HNO.out
        rw [List.take_length, List.take_of_length_le (by have := HLEN.out; omega)] at hz
        have HFIN := Lib.hid (eqNds_true hz)
        clear hz
        go_wp2
        go_ret
        exact ⟨by rw [HFIN.out]; rfl, HGR.out⟩
  · have hD2 : ((l.length : Int) != (m.length : Int)) = true := by rw [bne_iff_ne]; omega
    have HFIN := Lib.hid (eqNds_false (l := l) (m := m) fun h => hlen (by rw [h]))
    clear hlen
    go_enter Tryz.func172, Tryz.ntmps172
    go_wp2
    go_ret
    exact ⟨by rw [HFIN.out]; rfl, by repeat (first | with_reducible exact Grew.refl _ | apply Grew.more | apply Grew.alloc | apply Grew.drew | apply Grew.drewN)⟩
end Go.Proofs.YtekkkmkhnphlhaaGreatDoor

/-! graph.Same at single nodes; pack.exact. -/
namespace Go.Proofs.YtekkkmkhnphlhaaGreatDoor
set_option linter.unusedSimpArgs false
set_option linter.unusedVariables false
open Go.RowKit Ga
set_option maxRecDepth 100000

theorem norm_at (v : Value) (y : Gr.Nd) (w : World) (hv : NodesAt w v [y]) (hs : y.frm.length ≤ 1000 ∧ y.prog.length ≤ 1000) : Calls Tryz.prog 43 #[v] w (fun e w' => ∃ v', e = .returned v' ∧ NodesAt w' v' [y] ∧ Grew w w') := by
  refine (norm_any v [y] w hv (fun n hn => by rw [List.mem_singleton] at hn; subst hn; exact hs) (by simp)).mono ?_
  rintro e w' ⟨v', lc, l', rfl, ho, hi, hp, -, g⟩
  obtain rfl := List.perm_singleton.1 hp
  exact ⟨v', rfl, hi.at ho, g⟩
set_option maxHeartbeats 8000000 in
theorem same_one (v u : Value) (n m : Gr.Nd) (w : World) (hv : NodesAt w v [n]) (hu : NodesAt w u [m]) (hn : n.frm.length ≤ 1000 ∧ n.prog.length ≤ 1000) (hm : m.frm.length ≤ 1000 ∧ m.prog.length ≤ 1000) : Calls Tryz.prog 130 #[v, u] w (Gives (.bool (eqNd n m)) w) := by
  have HV := Lib.hid fun W (g : Grew w W) => norm_at v n W (hv.grew g) hn
  have HU := Lib.hid fun W (g : Grew w W) => norm_at u m W (hu.grew g) hm
  have hone := eqNds_one n m
  have HONE := Lib.hid hone
  clear hv hu hone
  go_enter Tryz.func130, Tryz.ntmps130
  go_wp2_with (first
    | (go_at_call_of 43 v; refine (HV.out _ (by repeat (first | with_reducible exact Grew.refl _ | apply Grew.more | apply Grew.alloc | apply Grew.drew | apply Grew.drewN))).mono ?_; rintro e w1 ⟨v1, rfl, hv1, R1, n1, rfl⟩; (have HV1 := Lib.hid hv1); clear hv1)
    | (go_at_call_of 43 u; refine (HU.out _ (by repeat (first | with_reducible exact Grew.refl _ | apply Grew.more | apply Grew.alloc | apply Grew.drew | apply Grew.drewN))).mono ?_; rintro e w1 ⟨v2, rfl, hv2, R2, n2, rfl⟩; (have HV2 := Lib.hid hv2); clear hv2)
    | (go_at_call 172; refine (eqFnNodes_any _ _ [n] [m] _ (HV1.out.grew (by repeat (first | with_reducible exact Grew.refl _ | apply Grew.more | apply Grew.alloc | apply Grew.drew | apply Grew.drewN))) (HV2.out.grew (by repeat (first | with_reducible exact Grew.refl _ | apply Grew.more | apply Grew.alloc | apply Grew.drew | apply Grew.drewN)))).mono ?_; rintro e w1 ⟨rfl, R3, n3, rfl⟩; rw [HONE.out]))
  go_ret
  exact ⟨rfl, by repeat (first | with_reducible exact Grew.refl _ | apply Grew.more | apply Grew.alloc | apply Grew.drew | apply Grew.drewN)⟩
end Go.Proofs.YtekkkmkhnphlhaaGreatDoor

/-! pack.exact. -/
namespace Go.Proofs.YtekkkmkhnphlhaaGreatDoor
set_option linter.unusedSimpArgs false
set_option linter.unusedVariables false
open Go.RowKit Ga
set_option maxRecDepth 100000

open Classical in
/-- two steps are one -/
noncomputable def eqSt (s t : Gr.Stp) : Bool := decide (s = t)
open Classical in
theorem eqSt_iff {s t : Gr.Stp} : eqSt s t = (decide (s.kind = t.kind) && (s.reset == t.reset && eqNd s.nd t.nd)) := by
  obtain ⟨k1, n1, r1⟩ := s
  obtain ⟨k2, n2, r2⟩ := t
  unfold eqSt eqNd
  simp only [Gr.Stp.mk.injEq]
  by_cases h1 : k1 = k2 <;> by_cases h2 : n1 = n2 <;> by_cases h3 : r1 = r2 <;> simp [h1, h2, h3]
end Go.Proofs.YtekkkmkhnphlhaaGreatDoor

/-! graph.Pass at two parts. -/
namespace Go.Proofs.YtekkkmkhnphlhaaGreatDoor
set_option linter.unusedSimpArgs false
set_option linter.unusedVariables false
open Go.RowKit Ga
set_option maxRecDepth 100000

end Go.Proofs.YtekkkmkhnphlhaaGreatDoor

/-! forebayref05.Check. -/
namespace Go.Proofs.YtekkkmkhnphlhaaGreatDoor
set_option linter.unusedSimpArgs false
set_option linter.unusedVariables false
open Go.RowKit Ga
set_option maxRecDepth 100000
set_option maxHeartbeats 8000000 in
theorem refCheck_any (v : Value) (l : List Val) (w : World) (hv : ValsAt w v l) : Calls Tryz.prog 46 #[v] w (RefCheck l w) := by
  obtain ⟨a, cap, rfl, hm, -⟩ := hv.open2
  have HV := Lib.hid hv
  clear hv
  cases hf : Co.fitsI l
  · have hs : Vm.safe l = false := by unfold Vm.safe Vm.checkC; rw [hf]; rfl
    have HS := Lib.hid hs
    have HF := Lib.hid hf
    clear hs hf
    go_enter Tryz.func46, Tryz.ntmps46
    go_wp2_with (go_at_call 40; refine (refFits_any _ l _ (HV.out.grew (by repeat (first | with_reducible exact Grew.refl _ | apply Grew.more | apply Grew.alloc | apply Grew.drew | apply Grew.drewN)))).mono ?_; rintro e w1 ⟨rfl, R5, n5, rfl⟩; rw [HF.out])
    refine bodyPost_ret (v := .agg #[.slice none 0 0, .int .i64 0, .int .i64 0, .bool false, .bool false, .bool false]) (by simp [results, Tryz.results46, go_sem]) rfl (RefCheck.mk HS.out (by repeat (first | with_reducible exact Grew.refl _ | apply Grew.more | apply Grew.alloc | apply Grew.drew | apply Grew.drewN)))
  · have HF := Lib.hid hf
    have hmm := @run_makeMap Tryz.prog
    go_enter Tryz.func46, Tryz.ntmps46
    clear hf
    go_wp2_with (go_at_call 40; refine (refFits_any _ l _ (HV.out.grew (by repeat (first | with_reducible exact Grew.refl _ | apply Grew.more | apply Grew.alloc | apply Grew.drew | apply Grew.drewN)))).mono ?_; rintro e w1 ⟨rfl, R5, n5, rfl⟩; rw [HF.out])
    obtain ⟨b3, hb3⟩ : ∃ b3, b3 = w.heap.size + 1 + R5.size := ⟨_, rfl⟩
    have h24 := (Co.fits_parts HF.out).1
    rw [← hb3]
    have HB3 := Lib.hid hb3
    clear hb3
    go_loopw [6] (fun i wr => ∃ (j : Nat) (vd : Value), j ≤ l.length ∧ i = .int .i64 j ∧ GoneAt w w.heap.size b3 (b3 + 1) 0 wr vd (.slice (some ⟨b3 + 1 + 1, 0, none⟩) 1 1) (List.replicate j (-1)) 0 0 false false [(0, 0, 0)] []) (fun i _ => l.length - (intOf i).toNat)
    case atStart =>
      have hb3 := HB3.out
      refine ⟨0, .slice none 0 0, Nat.zero_le _, rfl, by repeat (first | with_reducible exact Grew.refl _ | apply Grew.more | apply Grew.alloc | apply Grew.drew | apply Grew.drewN), by omega, Nat.le_refl _, by omega, by omega, ?_, ?_, OwnAt.nil _, ?_, ?_⟩
      · exact heap_alloc' (heap_alloc' (heap_alloc' (grew_heap (by repeat (first | with_reducible exact Grew.refl _ | apply Grew.more | apply Grew.alloc | apply Grew.drew | apply Grew.drewN)) (heap_new_at w _ _ rfl)) _) _) _
      · exact heap_alloc' (heap_alloc' (heap_new_at _ _ _ (by simp [World.size_alloc, World.more_size]; omega)) _) _
      · exact OwnAt.fresh (l := [((0, 0, 0) : Pl)]) rfl rfl rfl (by simp [maxLen]) encP_len (by simp [World.size_alloc, World.more_size]; omega) (by omega) rfl
      · have hs := SetAt.made (((w.alloc (.cells #[.slice none 0 0, .int .i64 0, .int .i64 0, .bool false, .bool false, .bool false] 88)).more R5 n5).alloc (.cells #[.slice none 0 0, .int .i64 0, .int .i64 0, .bool false, .bool false, .bool true] 88))
        rw [show (((w.alloc (.cells #[.slice none 0 0, .int .i64 0, .int .i64 0, .bool false, .bool false, .bool false] 88)).more R5 n5).alloc (.cells #[.slice none 0 0, .int .i64 0, .int .i64 0, .bool false, .bool false, .bool true] 88)).heap.size = b3 + 1 by simp [World.size_alloc, World.more_size]; omega] at hs
        exact hs.same (((Grew.refl _).alloc _).below.block _ hs.lt)
    case round =>
      obtain ⟨j, vd, hj, rfl, hga⟩ := hrel
      have hc3 := fun o => cell_of (o := o) hga.c3
      have hc30 := hc3 0
      simp at hc30
      have hp3 := Pre.mk (heap_lt hga.c3)
      clear hc3
      by_cases hlt : j < l.length
      · have hpd : ∃ a n c, vd = .slice a n c := by
          obtain ⟨a, c, h, _⟩ := hga.d.rows encD_len
          exact ⟨a, _, c, h⟩
        obtain ⟨ad, nd, cd, rfl⟩ := hpd
        have HGA := Lib.hid hga
        clear hga
        go_wp2_with (at_builtin; refine wpList_ownK (w0 := w) (v := Value.slice ad nd cd) rfl (.tmp 28) (.tmp 29) 56 _ _ _ _ [(-1 : Int)] rfl Tryz.underlying56 infoInt rfl (by decide) encD_len encD_one rfl (HGA.out.d.grew (by repeat (first | with_reducible exact Grew.refl _ | apply Grew.more | apply Grew.alloc | apply Grew.drew | apply Grew.drewN))) (HGA.out.g.trans (by repeat (first | with_reducible exact Grew.refl _ | apply Grew.more | apply Grew.alloc | apply Grew.drew | apply Grew.drewN))) rfl (enc_newU _ _ _ _ _ (by simp [go_sem]) rfl) (by simp; omega) (by decide) (by decide) ?_; intro v9 W9 hA; rw [rep_push] at hA; obtain ⟨a9, c9, rfl⟩ := own_slice' hA.2.1; rw [List.length_replicate] at hA ⊢; (have hf9 := frozen_of (o := 0) (HGA.out.at3 (by repeat (first | with_reducible exact Grew.refl _ | apply Grew.more | apply Grew.alloc | apply Grew.drew | apply Grew.drewN)) hA)); (have hq9 := cell_of (o := 0) (HGA.out.at3 (by repeat (first | with_reducible exact Grew.refl _ | apply Grew.more | apply Grew.alloc | apply Grew.drew | apply Grew.drewN)) hA)); (have hp9 := Pre.mk (heap_lt (HGA.out.at3 (by repeat (first | with_reducible exact Grew.refl _ | apply Grew.more | apply Grew.alloc | apply Grew.drew | apply Grew.drewN)) hA))); simp at hq9; (have HA := Lib.hid hA); clear hA)
        go_roundw
        case rel => exact ⟨j + 1, _, by omega, by go_num, HGA.out.pushD ((Grew.refl wr).alloc _) HA.out⟩
        case measure => first | (simp [intOf]; done) | (simp [intOf]; omega)
      · obtain rfl : j = l.length := by omega
        have HGA := Lib.hid hga
        clear hga hc30 hp3 hmm
        go_wp2
        refine loop9 l w _ a cap b3 _ _ _ ?_ HV.out HF.out (Going.frame rfl ⟨_, _, 0, 0, false, false, [(0, 0, 0)], [], HGA.out, Vm.Gone.start l, rfl⟩)
        · rintro a' w' ⟨u, vd, vt, dep, mx, em, u0, u1, M, rfl, hga, hsf⟩
          unfold frame9
          have HSF := Lib.hid hsf
          have hc := fun o => cell_of (o := o) hga.c3
          have hc0 := hc 0
          have hc1 := hc 1
          have hc2 := hc 2
          have hc3 := hc 3
          have hc4 := hc 4
          have hc5 := hc 5
          simp at hc0 hc1 hc2 hc3 hc4 hc5
          have hp3 := Pre.mk (heap_lt hga.c3)
          have hd := fun o => cell_of (o := o) hga.c2
          have hd0 := hd 0
          have hd1 := hd 1
          have hd2 := hd 2
          have hd3 := hd 3
          have hd4 := hd 4
          have hd5 := hd 5
          simp at hd0 hd1 hd2 hd3 hd4 hd5
          have hf := fun o => frozen_of (o := o) hga.c2
          have hf0 := hf 0
          have hf1 := hf 1
          have hf2 := hf 2
          have hf3 := hf 3
          have hf4 := hf 4
          have hf5 := hf 5
          have hp2 := Pre.mk (heap_lt hga.c2)
          obtain ⟨ad, cd, rfl⟩ := own_slice' hga.d
          obtain ⟨at', ct, rfl⟩ := own_slice' hga.t
          have HGA := Lib.hid hga
          clear hc hd hf hga hsf
          go_wp2
          refine bodyPost_ret (v := .agg #[.slice ad dep.length cd, .int .i64 mx, .int .i64 em, .bool u0, .bool u1, .bool true]) (by simp [results, Tryz.results46, go_sem, hd0, hd1, hd2, hd3, hd4, hd5]) rfl (RefCheck.mk HSF.out ?_)
          exact (((((HGA.out.g.set (Nat.le_refl _) _).set (Nat.le_refl _) _).set (Nat.le_refl _) _).set (Nat.le_refl _) _).set (Nat.le_refl _) _).set (Nat.le_refl _) _
end Go.Proofs.YtekkkmkhnphlhaaGreatDoor
