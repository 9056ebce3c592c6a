import Derived.Test.YtekkkmkhnphlhaaGreatDoorGh45
import Derived.Test.YtekkkmkhnphlhaaGreatDoorGh43
import Derived.Test.YtekkkmkhnphlhaaGreatDoorGh42
/-! lines: parseStep, ParsePlan. -/
namespace Go.Proofs.YtekkkmkhnphlhaaGreatDoor
set_option linter.unusedSimpArgs false
set_option linter.unusedVariables false
open Go.RowKit Ga
set_option maxRecDepth 100000

theorem parseStep_any (s : List UInt8) (hs : s.length ≤ 100000) (w : World) (hV : Env27 w) : Calls Tryz.prog 56 #[.string ⟨s.toArray⟩] w (StGives (Li.stepP s) w) := by
  have H := step_head s hs w hV
  unfold Li.stepP
  generalize (Lib.cut s [32]).1 = v at *
  generalize (Lib.cut s [32]).2.1 = r at *
  generalize Li.wordsP r = wp at *
  obtain ⟨ws, p⟩ := wp
  simp only at H ⊢
  unfold Li.stepQ
  simp only
  by_cases h1 : v = Li.sSWAP
  · subst h1
    by_cases hl : ws.length = 2
    · match ws, hl with
      | [a, bb], _ =>
        rw [if_pos (by simp)]
        exact pstep_swap s w r a bb p H
    · rw [if_neg (fun q => hl q.2), if_neg (by decide), if_neg (by decide), if_neg (fun q => absurd q.1 (by decide)), if_neg (fun q => absurd q.1 (by decide))]
      exact pstep_swapN s w r ws p H hl
  rw [if_neg (fun q => h1 q.1)]
  by_cases h2 : v = Li.sADD
  · subst h2
    rw [if_pos rfl]
    exact pstep_add s w r ws p H
  rw [if_neg h2]
  by_cases h3 : v = Li.sREMOVE
  · subst h3
    rw [if_pos rfl]
    exact pstep_remove s w r ws p H
  rw [if_neg h3]
  by_cases h4 : v = Li.sROUTE
  · subst h4
    by_cases hl : ws.length = 3
    · match ws, hl with
      | [a, bb, cc], _ =>
        rw [if_pos (by simp)]
        exact pstep_route s w r a bb cc p H
    · rw [if_neg (fun q => hl q.2), if_neg (fun q => absurd q.1 (by decide))]
      exact pstep_routeN s w r ws p H hl
  rw [if_neg (fun q => h4 q.1)]
  by_cases h5 : v = Li.sLINK
  · subst h5
    by_cases hl : ws.length = 2
    · match ws, hl with
      | [a, bb], _ =>
        rw [if_pos (by simp)]
        exact pstep_link s w r a bb p H
    · rw [if_neg (fun q => hl q.2)]
      exact pstep_linkN s w r ws p H hl
  rw [if_neg (fun q => h5 q.1)]
  exact pstep_other s w v r ws p H h1 h2 h3 h4 h5
theorem steps_app {w1 W3 W' : World} {base : Nat} {v v' : Value} {lc : List StC} {c : StC} {l : List Gr.Stp} {y : Gr.Stp} (ho : StepsOwn w1.heap.size W3 v lc) (hn : StepsIn base W3 lc l) (h9 : StepIs W3 c y) (o9 : OwnsNd base W3 c.c y.nd) (hA : Appended w1 62 15 encSt W3 v (lc ++ [c]) v' W') : StepsIn base W' (lc ++ [c]) (l ++ [y]) := by
  have hk : ∀ c n, OwnsNd base W3 c n → OwnsNd base W' c n := fun c n o => o.to3 fun q cs t hq _ hne => hA.2.2.2.1 q (heap_lt hq) (OwnAt.other ho hq hne)
  have h5 : OwnsNd base W' c.c y.nd := hk _ _ o9
  exact Rel.snoc (hn.map hk) ⟨h9.of h5, h5⟩
theorem parseP_ok {s : List UInt8} (h1 : s ≠ []) (h2 : Li.planT (Li.stepsP s) = s) : Li.parseP s = (Li.stepsP s, 0) := by unfold Li.parseP; exact if_pos ⟨h1, h2⟩
theorem parseP_no1 {s : List UInt8} (h1 : s = []) : Li.parseP s = ([], 4) := by unfold Li.parseP; exact if_neg (fun q => q.1 h1)
theorem parseP_no2 {s : List UInt8} (h2 : Li.planT (Li.stepsP s) ≠ s) : Li.parseP s = ([], 4) := by unfold Li.parseP; exact if_neg (fun q => h2 q.2)
set_option maxHeartbeats 16000000 in
theorem parsePlan_any (s : List UInt8) (hs : s.length ≤ 100000) (w : World) (hV : Env27 w) : Calls Tryz.prog 23 #[.string ⟨s.toArray⟩] w (fun e w' => ∃ v, e = .returned (.tuple #[v, .int .i64 (Li.parseP s).2]) ∧ StepsAt w' v (Li.parseP s).1 ∧ Grew w w') := by
  have HS := Lib.hid fun W (q : Grew w W) => split_any s Li.between (by omega) (by decide) W (hV.m.grew q)
  obtain ⟨hl1, hl2⟩ := split_len s Li.between (by decide)
  have HSUB := Lib.hid (split_sub s Li.between)
  have HV := Lib.hid hV
  have HQ := Lib.hid (show Li.stepsP s = (Lib.split s Li.between).map Li.stepP from rfl)
  clear hV
  have hxs : Lib.split s Li.between ≠ [] := by intro e; rw [e] at hl1; simp at hl1
  generalize Lib.split s Li.between = xs at *
  have HXS := Lib.hid hxs
  clear hxs
  go_enter Tryz.func23, Tryz.ntmps23
  go_wp2_with (go_at_call 18; refine (HS.out _ (by repeat (first | with_reducible exact Grew.refl _ | apply Grew.more | apply Grew.alloc | apply Grew.drew | apply Grew.drewN))).mono ?_; rintro e w1 ⟨v1, rfl, hv1, R1, n1, rfl⟩; obtain ⟨bs, cs, rfl, hbs, hcs⟩ := strs_open hv1 HXS.out; (have HCS := Lib.hid hcs); clear hv1 hcs)
  have hgw : Hid (Grew w (w.more R1 n1)) := Lib.hid (by repeat (first | with_reducible exact Grew.refl _ | apply Grew.more | apply Grew.alloc | apply Grew.drew | apply Grew.drewN))
  generalize w.more R1 n1 = w1 at *
  go_loopg [4, 10] xs.length (fun gg s4 s10 wr => ∃ (k : Nat) (lc : List StC), k ≤ xs.length ∧ xs.length - k ≤ gg ∧ s10 = .int .i64 k ∧ lc.length = k ∧ Hid (Grew w1 wr) ∧ Hid (StepsOwn w1.heap.size wr s4 lc) ∧ Hid (StepsIn w1.heap.size wr lc ((xs.take k).map Li.stepP)))
  case atStart => exact ⟨0, [], by omega, by omega, rfl, rfl, Lib.hid (Grew.refl _), Lib.hid (OwnAt.nil _), Lib.hid trivial⟩
  case round =>
    obtain ⟨k, lc, hk, hgg, rfl, hlc, HG, HO, HI⟩ := hrel
    rename World => wa
    by_cases hlt : k < xs.length
    · have s0 := cell_grew (HCS.out k hlt) HG.out
      have p0 := Pre.ofCell s0
      have hsl := HSUB.out _ (List.getElem_mem hlt)
      have HT := Lib.hid (map_take_snoc Li.stepP xs k hlt)
      generalize xs[k] = x at *
      have HPS := Lib.hid fun W (q : Grew w W) => parseStep_any x (by omega) W (HV.out.grew q)
      generalize Li.stepP x = y at *
      generalize (xs.take k).map Li.stepP = ys at *
      go_wp2_with (first
        | (go_at_call 56; refine (HPS.out _ ((hgw.out.trans HG.out).trans (by repeat (first | with_reducible exact Grew.refl _ | apply Grew.more | apply Grew.alloc | apply Grew.drew | apply Grew.drewN)))).mono ?_; rintro e w2 ⟨c, rfl, h9, o9, R2, n2, rfl⟩; (have H9 := Lib.hid h9); (have O9 := Lib.hid o9); clear h9 o9)
        | (at_builtin; go_loud (refine wpList_ownK (w0 := w1) rfl (.tmp 14) (.tmp 17) 35 _ _ _ _ [c] rfl Tryz.underlying35 infoStep rfl (by decide) encSt_len encSt_one rfl (OwnAt.grew HO.out (by repeat (first | with_reducible exact Grew.refl _ | apply Grew.more | apply Grew.alloc | apply Grew.drew | apply Grew.drewN))) (HG.out.trans (by repeat (first | with_reducible exact Grew.refl _ | apply Grew.more | apply Grew.alloc | apply Grew.drew | apply Grew.drewN))) rfl (st_at _ _ _ _ rfl (by simp [go_sem])) (by simp; omega) (by decide) (by simp) ?_); intro v7 W7 hA; (have HA7 := Lib.hid hA); clear hA))
      go_roundg (xs.length - (k + 1))
      case measure => omega
      case rel =>
        refine ⟨k + 1, lc ++ [c], by omega, by omega, by go_num, by simp [hlc], Lib.hid HA7.out.1, Lib.hid HA7.out.2.1, Lib.hid ?_⟩
        rw [HT.out]
        exact steps_app (OwnAt.grew HO.out (by repeat (first | with_reducible exact Grew.refl _ | apply Grew.more | apply Grew.alloc | apply Grew.drew | apply Grew.drewN))) (HI.out.grew (by repeat (first | with_reducible exact Grew.refl _ | apply Grew.more | apply Grew.alloc | apply Grew.drew | apply Grew.drewN))) (H9.out.grew (by repeat (first | with_reducible exact Grew.refl _ | apply Grew.more | apply Grew.alloc | apply Grew.drew | apply Grew.drewN))) ((O9.out.low HG.out.below.size).grew (by repeat (first | with_reducible exact Grew.refl _ | apply Grew.more | apply Grew.alloc | apply Grew.drew | apply Grew.drewN))) HA7.out
    · obtain rfl : k = xs.length := by omega
      have hi := HI.out
      rw [List.take_length, ← HQ.out] at hi
      have hst := hi.at HO.out
      have HST := Lib.hid hst
      obtain ⟨av, cv, hv9⟩ := (OwnAt.rows HO.out encSt_len).len
      subst hv9
      have HLP := Lib.hid fun W (q : Grew w W) v (h : StepsAt W v (Li.stepsP s)) => linesPlan_any v (Li.stepsP s) W (HV.out.p.grew q) (HV.out.a.grew q) h
      clear hi hst HI HSUB hlc
      by_cases hse : s = []
      · have hP := parseP_no1 hse
        have HP := Lib.hid hP
        have heb : s.isEmpty = true := by rw [hse]; rfl
        clear hP hse
        go_wp2
        go_ret2
        exact ⟨_, by rw [HP.out]; rfl, by rw [HP.out]; exact StepsAt.nil _, (hgw.out.trans HG.out).trans (by repeat (first | with_reducible exact Grew.refl _ | apply Grew.more | apply Grew.alloc | apply Grew.drew | apply Grew.drewN))⟩
      · have heb : s.isEmpty = false := by simpa using hse
        by_cases hq : Li.planT (Li.stepsP s) = s
        · have HP := Lib.hid (parseP_ok hse hq)
          rw [hq] at HLP
          clear hse hq
          go_wp2_with (go_at_call 12; refine (HLP.out _ ((hgw.out.trans HG.out).trans (by repeat (first | with_reducible exact Grew.refl _ | apply Grew.more | apply Grew.alloc | apply Grew.drew | apply Grew.drewN))) _ (HST.out.grew (by repeat (first | with_reducible exact Grew.refl _ | apply Grew.more | apply Grew.alloc | apply Grew.drew | apply Grew.drewN)))).mono ?_; rintro e w2 ⟨rfl, R3, n3, rfl⟩)
          go_ret2
          exact ⟨_, by rw [HP.out]; rfl, by rw [HP.out]; exact HST.out.grew (by repeat (first | with_reducible exact Grew.refl _ | apply Grew.more | apply Grew.alloc | apply Grew.drew | apply Grew.drewN)), (hgw.out.trans HG.out).trans (by repeat (first | with_reducible exact Grew.refl _ | apply Grew.more | apply Grew.alloc | apply Grew.drew | apply Grew.drewN))⟩
        · have HP := Lib.hid (parseP_no2 hq)
          have hqb : (Li.planT (Li.stepsP s) == s) = false := beq_eq_false_iff_ne.2 hq
          clear hse hq
          generalize Li.planT (Li.stepsP s) = pt at *
          go_wp2_with (go_at_call 12; refine (HLP.out _ ((hgw.out.trans HG.out).trans (by repeat (first | with_reducible exact Grew.refl _ | apply Grew.more | apply Grew.alloc | apply Grew.drew | apply Grew.drewN))) _ (HST.out.grew (by repeat (first | with_reducible exact Grew.refl _ | apply Grew.more | apply Grew.alloc | apply Grew.drew | apply Grew.drewN)))).mono ?_; rintro e w2 ⟨rfl, R3, n3, rfl⟩)
          go_ret2
          exact ⟨_, by rw [HP.out]; rfl, by rw [HP.out]; exact StepsAt.nil _, (hgw.out.trans HG.out).trans (by repeat (first | with_reducible exact Grew.refl _ | apply Grew.more | apply Grew.alloc | apply Grew.drew | apply Grew.drewN))⟩
end Go.Proofs.YtekkkmkhnphlhaaGreatDoor

/-! forebaylaw27.awake. -/
namespace Go.Proofs.YtekkkmkhnphlhaaGreatDoor
set_option linter.unusedSimpArgs false
set_option linter.unusedVariables false
open Go.RowKit Ga
set_option maxRecDepth 100000

theorem told_S2 : Li.Told S2 := by
  refine ⟨by decide, by decide +kernel, fun _ => ?_, rfl⟩
  decide +kernel
theorem plan_S2 : Li.planT [S2] = stL := by
  rw [Li.planT_some ⟨by decide, by decide, fun s hs => by rw [List.mem_singleton] at hs; subst hs; exact told_S2⟩]
  decide +kernel
theorem parse_S2 : Li.parseP stL = ([S2], 0) := by
  have h := Li.parseP_plan (p := [S2]) (fun s hs => by rw [List.mem_singleton] at hs; subst hs; rfl) (by rw [plan_S2]; decide)
  rwa [plan_S2] at h
theorem S2_lit {W : World} {d : StC} (h : StepIs W d S2) : ∃ af cf ap cp, d = ⟨2, ⟨2, 2, af, 1, cf, ap, 0, cp, 1, 0, 0, 0, 0, 0, 0, 0, 0⟩, false⟩ := by
  obtain ⟨kd, rs, id, kind, af, cf, ap, cp, par, r0, r1, r2, r3, r4, r5, r6, r7, rfl⟩ := h.lit
  have e1 := h.kind
  have e2 := h.reset
  have e3 := h.nd.id
  have e4 := h.nd.kind
  have e5 := h.nd.par
  have e6 := h.nd.route
  simp [S2, N2, List.replicate] at e1 e2 e3 e4 e5 e6
  obtain ⟨rfl, rfl, rfl, rfl, rfl, rfl, rfl, rfl⟩ := e6
  subst e1 e2 e3 e4 e5
  exact ⟨af, cf, ap, cp, rfl⟩
set_option maxHeartbeats 8000000 in
theorem awake27_any (w : World) (hV : Env27 w) : Calls Tryz.prog 6 #[] w (Gives (.bool true) w) := by
  have hp := parsePlan_any stL (by decide) w hV
  rw [parse_S2] at hp
  have HP := Lib.hid hp
  have HL := Lib.hid fun W (q : Grew w W) v (hv : StepsAt W v [S2]) => linesPlan_any v [S2] W (hV.p.grew q) (hV.a.grew q) hv
  rw [plan_S2] at HL
  clear hV hp
  go_enter Tryz.func6, Tryz.ntmps6
  show Code.wp _ _ _ _ _
  go_wp2_with fail
  refine HP.out.mono ?_
  rintro e w1 ⟨v, rfl, hv, R1, n1, rfl⟩
  have HV := Lib.hid hv
  obtain ⟨a, cap, rfl, -, hx⟩ := hv.openC
  obtain ⟨b, off, c, rfl, hb, hs, g0, g1, g2, g3, g4, g5, -⟩ := hx 0 (by decide)
  obtain ⟨af, cf, ap, cp, rfl⟩ := S2_lit hs
  simp only [Nat.zero_mul, Nat.add_zero] at g0 g1 g5
  clear hv hx hs g2 g3 g4
  go_wp2_with (go_at_call 12; refine (HL.out _ (by repeat (first | with_reducible exact Grew.refl _ | apply Grew.more | apply Grew.alloc | apply Grew.drew | apply Grew.drewN)) _ (HV.out.grew (by repeat (first | with_reducible exact Grew.refl _ | apply Grew.more | apply Grew.alloc | apply Grew.drew | apply Grew.drewN)))).mono ?_; rintro e w2 ⟨rfl, R3, n3, rfl⟩)
  go_ret
  exact ⟨rfl, by repeat (first | with_reducible exact Grew.refl _ | apply Grew.more | apply Grew.alloc | apply Grew.drew | apply Grew.drewN)⟩
end Go.Proofs.YtekkkmkhnphlhaaGreatDoor
