import Derived.Test.YtmnllmbchpebbaaGreatDoorGe27
import Derived.BigRegion
import Derived.Test.YtmnllmbchpebbaaGreatDoorGe10
import Derived.Test.YtmnllmbchpebbaaGreatDoorGe26
import Derived.Test.YtmnllmbchpebbaaGreatDoorGe5
import Derived.Test.YtmnllmbchpebbaaGreatDoorGe11
import Derived.Lib.OthersKept
import Derived.Test.YtmnllmbchpebbaaGreatDoorGe9
import Derived.Test.YtmnllmbchpebbaaGreatDoorGe21
/-! lines.parseStep: cases. -/
namespace Go.Proofs.YtmnllmbchpebbaaGreatDoor
set_option linter.unusedSimpArgs false
set_option linter.unusedVariables false
open Go.RowKit Ga
set_option maxRecDepth 100000

set_option maxHeartbeats 16000000 in
theorem pstep_swap (s : List UInt8) (w : World) (r a bb : List UInt8) (p : List Val) (h : StepHead s w Li.sSWAP r [a, bb] p) : Calls Tryz.prog 23 #[.string ⟨s.toArray⟩] w (StGives ⟨1, ⟨Co.atoiVal a, 0, [], p, 0, Gr.zeros⟩, bb == Li.sRESET⟩ w) := by
  have HC := Lib.hid h.cut
  have HW := Lib.hid h.words
  have HNE : Hid (([a, bb] : List (List UInt8)) ≠ []) := Lib.hid (by have := h.h1; intro e; rw [e] at this; simp at this)
  have HAT := Lib.hid fun W (q : Grew w W) => atoiL_any (([a, bb] : List (List UInt8)).getD 0 []) (HW0L ([a, bb] : List (List UInt8)) h.h1 h.h3) W (h.env.e.grew q)
  have hra := Co.atoiVal_range (([a, bb] : List (List UInt8)).getD 0 [])
  simp only [List.getD_cons_zero] at HAT hra
  clear h
  generalize Co.atoiVal a = ia at *
  generalize (Lib.cut s [32]).2.2 = cm at *
  go_enter Tryz.func23, Tryz.ntmps23
  go_wp2_with (first
    | (go_at_call 54; refine (HC.out _ (by repeat (first | with_reducible exact Grew.refl _ | apply Grew.more | apply Grew.alloc | apply Grew.drew | apply Grew.drewN))).mono ?_; rintro e w1 ⟨rfl, RA, nA, rfl⟩)
    | (go_at_call 61; refine (HW.out _ (by repeat (first | with_reducible exact Grew.refl _ | apply Grew.more | apply Grew.alloc | apply Grew.drew | apply Grew.drewN))).mono ?_; rintro e w1 ⟨v1, v2, rfl, hv1, hv2, RB, nB, rfl⟩; obtain ⟨ap, cp, rfl⟩ := (OwnAt.rows hv2 encI_len).len; (have HV1 := Lib.hid hv1); (have HV2 := Lib.hid hv2); obtain ⟨b, cap, rfl, hb, hc⟩ := strs_open hv1 HNE.out; (have s0 := hc 0 (by simp)); (have s1 := hc 1 (by simp)); simp at s0 s1; clear hc hv1 hv2)
    | (go_at_call 62; refine (HAT.out _ (by repeat (first | with_reducible exact Grew.refl _ | apply Grew.more | apply Grew.alloc | apply Grew.drew | apply Grew.drewN))).mono ?_; rintro e w1 ⟨v3, rfl, RC, nC, rfl⟩)
    | fail)
  have HOP := Lib.hid (OwnAt.low HV2.out (show w.heap.size ≤ _ by simp [World.more_size, World.size_alloc]; omega))
  have HOP2 : Hid (∀ A', OwnAt w.heap.size 131 2 encI (((w.alloc (.cells A' 44)).more RA nA).more RB nB) (.slice ap p.length cp) p) := Lib.hid fun A' => OwnAt.sw HOP.out (SwT.more (SwT.more (SwT.alloc2 (SwT.refl _ w) _ _) RA nA nA) RB nB nB) (by decide)
  clear HOP
  go_region
  go_wp2
  refine bodyPost_ret (v := .agg #[.int .i64 1, .int .i64 ia, .int .i64 0, .slice none 0 0, .slice ap p.length cp, .int .i64 0, .int .i64 0, .int .i64 0, .int .i64 0, .int .i64 0, .int .i64 0, .int .i64 0, .int .i64 0, .int .i64 0, .bool (bb == Li.sRESET)]) (by simp [results, Tryz.results23, go_sem, Li.sRESET]) rfl ⟨_, rfl, (st_mk (base := w.heap.size) (nd_mk (OwnAt.nil _) ((HOP2.out _).grew (by repeat (first | with_reducible exact Grew.refl _ | apply Grew.more | apply Grew.alloc | apply Grew.drew | apply Grew.drewN))) rfl)).1, (st_mk (base := w.heap.size) (nd_mk (OwnAt.nil _) ((HOP2.out _).grew (by repeat (first | with_reducible exact Grew.refl _ | apply Grew.more | apply Grew.alloc | apply Grew.drew | apply Grew.drewN))) rfl)).2, by repeat (first | with_reducible exact Grew.refl _ | apply Grew.more | apply Grew.alloc | apply Grew.drew | apply Grew.drewN)⟩
set_option maxHeartbeats 16000000 in
theorem pstep_add (s : List UInt8) (w : World) (r : List UInt8) (ws : List (List UInt8)) (p : List Val) (h : StepHead s w Li.sADD r ws p) : Calls Tryz.prog 23 #[.string ⟨s.toArray⟩] w (StGives ⟨2, Li.nodeP ws p, false⟩ w) := by
  have HC := Lib.hid h.cut
  have HW := Lib.hid h.words
  have HNE : Hid (ws ≠ []) := Lib.hid (by have := h.h1; intro e; rw [e] at this; simp at this)
  have HAT := Lib.hid fun W (q : Grew w W) => atoiL_any (ws.getD 0 []) (HW0L ws h.h1 h.h3) W (h.env.e.grew q)
  have hra := Co.atoiVal_range (ws.getD 0 [])
  have HPOS := Lib.hid (show 0 < ws.length by have := h.h1; omega)
  have HW0 := Lib.hid (getD_zero ws [] HPOS.out)
  have HND := Lib.hid fun W (q : Grew w W) v1 v2 (h1 : OwnAt w.heap.size 9 1 encS W v1 ws) (h2 : OwnAt w.heap.size 131 2 encI W v2 p) => lnode_any w.heap.size v1 v2 ws p h.h1 (by have := h.h2; omega) h.h3 W (h.env.grew q) h1 h2 q.below.size
  clear h
  generalize Li.nodeP ws p = n at *
  generalize ws.getD 0 [] = a0 at *
  generalize Co.atoiVal a0 = ia at *
  generalize (Lib.cut s [32]).2.2 = cm at *
  go_enter Tryz.func23, Tryz.ntmps23
  go_wp2_with (first
    | (go_at_call 54; refine (HC.out _ (by repeat (first | with_reducible exact Grew.refl _ | apply Grew.more | apply Grew.alloc | apply Grew.drew | apply Grew.drewN))).mono ?_; rintro e w1 ⟨rfl, RA, nA, rfl⟩)
    | (go_at_call 61; refine (HW.out _ (by repeat (first | with_reducible exact Grew.refl _ | apply Grew.more | apply Grew.alloc | apply Grew.drew | apply Grew.drewN))).mono ?_; rintro e w1 ⟨v1, v2, rfl, hv1, hv2, RB, nB, rfl⟩; obtain ⟨ap, cp, rfl⟩ := (OwnAt.rows hv2 encI_len).len; (have HV1 := Lib.hid hv1); (have HV2 := Lib.hid hv2); obtain ⟨b, cap, rfl, hb, hc⟩ := strs_open hv1 HNE.out; (have s0 := hc 0 HPOS.out); rw [HW0.out] at s0; clear hc hv1 hv2)
    | (go_at_call 62; refine (HAT.out _ (by repeat (first | with_reducible exact Grew.refl _ | apply Grew.more | apply Grew.alloc | apply Grew.drew | apply Grew.drewN))).mono ?_; rintro e w1 ⟨v3, rfl, RC, nC, rfl⟩)
    | (go_at_call 63; refine (HND.out _ (by repeat (first | with_reducible exact Grew.refl _ | apply Grew.more | apply Grew.alloc | apply Grew.drew | apply Grew.drewN)) _ _ ((OwnAt.low HV1.out (by simp [World.more_size, World.size_alloc]; omega)).grew (by repeat (first | with_reducible exact Grew.refl _ | apply Grew.more | apply Grew.alloc | apply Grew.drew | apply Grew.drewN))) ((OwnAt.low HV2.out (by simp [World.more_size, World.size_alloc]; omega)).grew (by repeat (first | with_reducible exact Grew.refl _ | apply Grew.more | apply Grew.alloc | apply Grew.drew | apply Grew.drewN)))).mono ?_; rintro e w5 ⟨c, rfl, hn, ho, RD, nD, rfl⟩; (have HN := Lib.hid hn); (have HO := Lib.hid ho); clear hn ho))
  refine bodyPost_ret (v := .agg #[.int .i64 2, .int .i64 c.id, .int .i64 c.kind, .slice c.af c.nf c.cf, .slice c.ap c.np c.cp, .int .i64 c.par, .int .i64 c.r0, .int .i64 c.r1, .int .i64 c.r2, .int .i64 c.r3, .int .i64 c.r4, .int .i64 c.r5, .int .i64 c.r6, .int .i64 c.r7, .bool false]) (by simp [results, Tryz.results23, go_sem]) rfl ⟨⟨2, c, false⟩, rfl, ⟨rfl, (OwnsNd.sw HO.out (by repeat (first | with_reducible exact SwT.refl _ _ | with_reducible apply SwT.more | with_reducible apply SwT.alloc2 | with_reducible apply SwT.alloc | with_reducible apply SwT.drew))).is HN.out, rfl⟩, OwnsNd.sw HO.out (by repeat (first | with_reducible exact SwT.refl _ _ | with_reducible apply SwT.more | with_reducible apply SwT.alloc2 | with_reducible apply SwT.alloc | with_reducible apply SwT.drew)), by repeat (first | with_reducible exact Grew.refl _ | apply Grew.more | apply Grew.alloc | apply Grew.drew | apply Grew.drewN)⟩
end Go.Proofs.YtmnllmbchpebbaaGreatDoor

/-! lines: parseStep, ParsePlan. -/
namespace Go.Proofs.YtmnllmbchpebbaaGreatDoor
set_option linter.unusedSimpArgs false
set_option linter.unusedVariables false
open Go.RowKit Ga
set_option maxRecDepth 100000

theorem parseStep_any (s : List UInt8) (hs : s.length ≤ 100000) (w : World) (hV : Env27 w) : Calls Tryz.prog 23 #[.string ⟨s.toArray⟩] w (StGives (Li.stepP s) w) := by
  have H := step_head s hs w hV
  unfold Li.stepP
  generalize (Lib.cut s [32]).1 = v at *
  generalize (Lib.cut s [32]).2.1 = r at *
  generalize Li.wordsP r = wp at *
  obtain ⟨ws, p⟩ := wp
  simp only at H ⊢
  unfold Li.stepQ
  simp only
  by_cases h1 : v = Li.sSWAP
  · subst h1
    by_cases hl : ws.length = 2
    · match ws, hl with
      | [a, bb], _ =>
        rw [if_pos (by simp)]
        exact pstep_swap s w r a bb p H
    · rw [if_neg (fun q => hl q.2), if_neg (by decide), if_neg (by decide), if_neg (fun q => absurd q.1 (by decide)), if_neg (fun q => absurd q.1 (by decide))]
      exact pstep_swapN s w r ws p H hl
  rw [if_neg (fun q => h1 q.1)]
  by_cases h2 : v = Li.sADD
  · subst h2
    rw [if_pos rfl]
    exact pstep_add s w r ws p H
  rw [if_neg h2]
  by_cases h3 : v = Li.sREMOVE
  · subst h3
    rw [if_pos rfl]
    exact pstep_remove s w r ws p H
  rw [if_neg h3]
  by_cases h4 : v = Li.sROUTE
  · subst h4
    by_cases hl : ws.length = 3
    · match ws, hl with
      | [a, bb, cc], _ =>
        rw [if_pos (by simp)]
        exact pstep_route s w r a bb cc p H
    · rw [if_neg (fun q => hl q.2), if_neg (fun q => absurd q.1 (by decide))]
      exact pstep_routeN s w r ws p H hl
  rw [if_neg (fun q => h4 q.1)]
  by_cases h5 : v = Li.sLINK
  · subst h5
    by_cases hl : ws.length = 2
    · match ws, hl with
      | [a, bb], _ =>
        rw [if_pos (by simp)]
        exact pstep_link s w r a bb p H
    · rw [if_neg (fun q => hl q.2)]
      exact pstep_linkN s w r ws p H hl
  rw [if_neg (fun q => h5 q.1)]
  exact pstep_other s w v r ws p H h1 h2 h3 h4 h5
theorem steps_app {w1 W3 W' : World} {base : Nat} {v v' : Value} {lc : List StC} {c : StC} {l : List Gr.Stp} {y : Gr.Stp} (ho : StepsOwn w1.heap.size W3 v lc) (hn : StepsIn base W3 lc l) (h9 : StepIs W3 c y) (o9 : OwnsNd base W3 c.c y.nd) (hA : Appended w1 44 15 encSt W3 v (lc ++ [c]) v' W') : StepsIn base W' (lc ++ [c]) (l ++ [y]) := by
  have hk : ∀ c n, OwnsNd base W3 c n → OwnsNd base W' c n := fun c n o => o.to3 fun q cs t hq _ hne => hA.2.2.2.1 q (heap_lt hq) (OwnAt.other ho hq hne)
  have h5 : OwnsNd base W' c.c y.nd := hk _ _ o9
  exact Rel.snoc (hn.map hk) ⟨h9.of h5, h5⟩
theorem parseP_ok {s : List UInt8} (h1 : s ≠ []) (h2 : Li.planT (Li.stepsP s) = s) : Li.parseP s = (Li.stepsP s, 0) := by unfold Li.parseP; exact if_pos ⟨h1, h2⟩
theorem parseP_no1 {s : List UInt8} (h1 : s = []) : Li.parseP s = ([], 4) := by unfold Li.parseP; exact if_neg (fun q => q.1 h1)
theorem parseP_no2 {s : List UInt8} (h2 : Li.planT (Li.stepsP s) ≠ s) : Li.parseP s = ([], 4) := by unfold Li.parseP; exact if_neg (fun q => h2 q.2)
set_option maxHeartbeats 16000000 in
theorem parsePlan_any (s : List UInt8) (hs : s.length ≤ 100000) (w : World) (hV : Env27 w) : Calls Tryz.prog 9 #[.string ⟨s.toArray⟩] w (fun e w' => ∃ v, e = .returned (.tuple #[v, .int .i64 (Li.parseP s).2]) ∧ StepsAt w' v (Li.parseP s).1 ∧ Grew w w') := by
  have HS := Lib.hid fun W (q : Grew w W) => split_any s Li.between (by omega) (by decide) W (hV.m.grew q)
  obtain ⟨hl1, hl2⟩ := split_len s Li.between (by decide)
  have HSUB := Lib.hid (split_sub s Li.between)
  have HV := Lib.hid hV
  have HQ := Lib.hid (show Li.stepsP s = (Lib.split s Li.between).map Li.stepP from rfl)
  clear hV
  have hxs : Lib.split s Li.between ≠ [] := by intro e; rw [e] at hl1; simp at hl1
  generalize Lib.split s Li.between = xs at *
  have HXS := Lib.hid hxs
  clear hxs
  go_enter Tryz.func9, Tryz.ntmps9
  go_wp2_with (go_at_call 22; refine (HS.out _ (by repeat (first | with_reducible exact Grew.refl _ | apply Grew.more | apply Grew.alloc | apply Grew.drew | apply Grew.drewN))).mono ?_; rintro e w1 ⟨v1, rfl, hv1, R1, n1, rfl⟩; obtain ⟨bs, cs, rfl, hbs, hcs⟩ := strs_open hv1 HXS.out; (have HCS := Lib.hid hcs); clear hv1 hcs)
  have hgw : Hid (Grew w (w.more R1 n1)) := Lib.hid (by repeat (first | with_reducible exact Grew.refl _ | apply Grew.more | apply Grew.alloc | apply Grew.drew | apply Grew.drewN))
  generalize w.more R1 n1 = w1 at *
  go_loopg [4, 10] xs.length (fun gg s4 s10 wr => ∃ (k : Nat) (lc : List StC), k ≤ xs.length ∧ xs.length - k ≤ gg ∧ s10 = .int .i64 k ∧ lc.length = k ∧ Hid (Grew w1 wr) ∧ Hid (StepsOwn w1.heap.size wr s4 lc) ∧ Hid (StepsIn w1.heap.size wr lc ((xs.take k).map Li.stepP)))
  case atStart => exact ⟨0, [], by omega, by omega, rfl, rfl, Lib.hid (Grew.refl _), Lib.hid (OwnAt.nil _), Lib.hid trivial⟩
  case round =>
    obtain ⟨k, lc, hk, hgg, rfl, hlc, HG, HO, HI⟩ := hrel
    rename World => wa
    by_cases hlt : k < xs.length
    · have s0 := cell_grew (HCS.out k hlt) HG.out
      have p0 := Pre.ofCell s0
      have hsl := HSUB.out _ (List.getElem_mem hlt)
      have HT := Lib.hid (map_take_snoc Li.stepP xs k hlt)
      generalize xs[k] = x at *
      have HPS := Lib.hid fun W (q : Grew w W) => parseStep_any x (by omega) W (HV.out.grew q)
      generalize Li.stepP x = y at *
      generalize (xs.take k).map Li.stepP = ys at *
      go_wp2_with (first
        | (go_at_call 23; refine (HPS.out _ ((hgw.out.trans HG.out).trans (by repeat (first | with_reducible exact Grew.refl _ | apply Grew.more | apply Grew.alloc | apply Grew.drew | apply Grew.drewN)))).mono ?_; rintro e w2 ⟨c, rfl, h9, o9, R2, n2, rfl⟩; (have H9 := Lib.hid h9); (have O9 := Lib.hid o9); clear h9 o9)
        | (at_builtin; go_loud (refine wpList_ownK (w0 := w1) rfl (.tmp 14) (.tmp 17) 35 _ _ _ _ [c] rfl Tryz.underlying35 infoStep rfl (by decide) encSt_len encSt_one rfl (OwnAt.grew HO.out (by repeat (first | with_reducible exact Grew.refl _ | apply Grew.more | apply Grew.alloc | apply Grew.drew | apply Grew.drewN))) (HG.out.trans (by repeat (first | with_reducible exact Grew.refl _ | apply Grew.more | apply Grew.alloc | apply Grew.drew | apply Grew.drewN))) rfl (st_at _ _ _ _ rfl (by simp [go_sem])) (by simp; omega) (by decide) (by simp) ?_); intro v7 W7 hA; (have HA7 := Lib.hid hA); clear hA))
      go_roundg (xs.length - (k + 1))
      case measure => omega
      case rel =>
        refine ⟨k + 1, lc ++ [c], by omega, by omega, by go_num, by simp [hlc], Lib.hid HA7.out.1, Lib.hid HA7.out.2.1, Lib.hid ?_⟩
        rw [HT.out]
        exact steps_app (OwnAt.grew HO.out (by repeat (first | with_reducible exact Grew.refl _ | apply Grew.more | apply Grew.alloc | apply Grew.drew | apply Grew.drewN))) (HI.out.grew (by repeat (first | with_reducible exact Grew.refl _ | apply Grew.more | apply Grew.alloc | apply Grew.drew | apply Grew.drewN))) (H9.out.grew (by repeat (first | with_reducible exact Grew.refl _ | apply Grew.more | apply Grew.alloc | apply Grew.drew | apply Grew.drewN))) ((O9.out.low HG.out.below.size).grew (by repeat (first | with_reducible exact Grew.refl _ | apply Grew.more | apply Grew.alloc | apply Grew.drew | apply Grew.drewN))) HA7.out
    · obtain rfl : k = xs.length := by omega
      have hi := HI.out
      rw [List.take_length, ← HQ.out] at hi
      have hst := hi.at HO.out
      have HST := Lib.hid hst
      obtain ⟨av, cv, hv9⟩ := (OwnAt.rows HO.out encSt_len).len
      subst hv9
      have HLP := Lib.hid fun W (q : Grew w W) v (h : StepsAt W v (Li.stepsP s)) => linesPlan_any v (Li.stepsP s) W (HV.out.p.grew q) (HV.out.a.grew q) h
      clear hi hst HI HSUB hlc
      by_cases hse : s = []
      · have hP := parseP_no1 hse
        have HP := Lib.hid hP
        have heb : s.isEmpty = true := by rw [hse]; rfl
        clear hP hse
        go_wp2
        go_ret2
        exact ⟨_, by rw [HP.out]; rfl, by rw [HP.out]; exact StepsAt.nil _, (hgw.out.trans HG.out).trans (by repeat (first | with_reducible exact Grew.refl _ | apply Grew.more | apply Grew.alloc | apply Grew.drew | apply Grew.drewN))⟩
      · have heb : s.isEmpty = false := by simpa using hse
        by_cases hq : Li.planT (Li.stepsP s) = s
        · have HP := Lib.hid (parseP_ok hse hq)
          rw [hq] at HLP
          clear hse hq
          go_wp2_with (go_at_call 10; refine (HLP.out _ ((hgw.out.trans HG.out).trans (by repeat (first | with_reducible exact Grew.refl _ | apply Grew.more | apply Grew.alloc | apply Grew.drew | apply Grew.drewN))) _ (HST.out.grew (by repeat (first | with_reducible exact Grew.refl _ | apply Grew.more | apply Grew.alloc | apply Grew.drew | apply Grew.drewN)))).mono ?_; rintro e w2 ⟨rfl, R3, n3, rfl⟩)
          go_ret2
          exact ⟨_, by rw [HP.out]; rfl, by rw [HP.out]; exact HST.out.grew (by repeat (first | with_reducible exact Grew.refl _ | apply Grew.more | apply Grew.alloc | apply Grew.drew | apply Grew.drewN)), (hgw.out.trans HG.out).trans (by repeat (first | with_reducible exact Grew.refl _ | apply Grew.more | apply Grew.alloc | apply Grew.drew | apply Grew.drewN))⟩
        · have HP := Lib.hid (parseP_no2 hq)
          have hqb : (Li.planT (Li.stepsP s) == s) = false := beq_eq_false_iff_ne.2 hq
          clear hse hq
          generalize Li.planT (Li.stepsP s) = pt at *
          go_wp2_with (go_at_call 10; refine (HLP.out _ ((hgw.out.trans HG.out).trans (by repeat (first | with_reducible exact Grew.refl _ | apply Grew.more | apply Grew.alloc | apply Grew.drew | apply Grew.drewN))) _ (HST.out.grew (by repeat (first | with_reducible exact Grew.refl _ | apply Grew.more | apply Grew.alloc | apply Grew.drew | apply Grew.drewN)))).mono ?_; rintro e w2 ⟨rfl, R3, n3, rfl⟩)
          go_ret2
          exact ⟨_, by rw [HP.out]; rfl, by rw [HP.out]; exact StepsAt.nil _, (hgw.out.trans HG.out).trans (by repeat (first | with_reducible exact Grew.refl _ | apply Grew.more | apply Grew.alloc | apply Grew.drew | apply Grew.drewN))⟩
end Go.Proofs.YtmnllmbchpebbaaGreatDoor

/-! lines: words of records, truths, plans. -/
namespace Go.Proofs.YtmnllmbchpebbaaGreatDoor
set_option linter.unusedSimpArgs false
set_option linter.unusedVariables false
open Go.RowKit Ga
set_option maxRecDepth 100000

def encBo (b : Bool) : List Value := [.bool b]
theorem encBo_len (b : Bool) : (encBo b).length = 1 := rfl
theorem encBo_one (b : Bool) : ∀ u ∈ encBo b, u.oneCell' = true := by intro u hu; simp [encBo] at hu; subst hu; rfl
theorem infoBo : (Tryz.prog.info? 4).map (fun i => (i.zero, i.size, i.bytes)) = some (some (.bool false), 1, 1) := by kernel_rfl
theorem bo_at (W : World) (x : Bool) (t : TypeId) (b : Nat) {c : Array Value} (hc : c = (encBo x).toArray) (hb : b = W.heap.size) : ∀ j u, (([x] : List Bool).flatMap encBo)[j]? = some u → (W.alloc (.cells c t)).cell? ⟨b, j, none⟩ = some u := by
  subst hc
  intro j u hu
  rw [new_cells W _ t b hb j]
  simpa using hu
abbrev BoolsAt (w : World) (v : Value) (l : List Bool) : Prop := RowsAt 1 encBo w v l
theorem bools_open {w : World} {v : Value} {l : List Bool} (h : BoolsAt w v l) : ∃ a cap, v = .slice a l.length cap ∧ l.length ≤ 9223372036854775807 ∧ ∀ i (hi : i < l.length), ∃ b off, a = some ⟨b, off, none⟩ ∧ Pre b w ∧ w.cell? ⟨b, off + i, none⟩ = some (.bool l[i]) := by
  obtain ⟨a, cap, rfl, hm, hl⟩ := h
  refine ⟨a, cap, rfl, by unfold maxLen at hm; omega, fun i hi => ?_⟩
  obtain ⟨b, off, rfl, hx⟩ := hl (by intro e; subst e; simp at hi)
  have h0 := hx i l[i] (List.getElem?_eq_getElem hi) 0 _ rfl
  rw [Nat.mul_one, Nat.add_zero] at h0
  exact ⟨b, off, rfl, Pre.mk (World.block_lt_of_cell? w _ h0), h0⟩
abbrev Rq := Int × Int × Int
def encRq (r : Rq) : List Value := [.int .i64 r.1, .int .i64 r.2.1, .int .i64 r.2.2]
theorem encRq_len (r : Rq) : (encRq r).length = 3 := rfl
theorem encRq_one (r : Rq) : ∀ u ∈ encRq r, u.oneCell' = true := by intro u hu; simp [encRq] at hu; rcases hu with rfl | rfl | rfl <;> rfl
theorem infoRq : (Tryz.prog.info? 62).map (fun i => (i.zero, i.size, i.bytes)) = some (some (.agg #[.int .i64 0, .int .i64 0, .int .i64 0]), 3, 24) := by kernel_rfl
abbrev RqAt (w : World) (v : Value) (l : List Rq) : Prop := RowsAt 3 encRq w v l
theorem rq_open {w : World} {v : Value} {l : List Rq} (h : RqAt w v l) : ∃ a cap, v = .slice a l.length cap ∧ l.length ≤ 9223372036854775807 ∧ ∀ i (hi : i < l.length), ∃ b off, a = some ⟨b, off, none⟩ ∧ Pre b w ∧ w.cell? ⟨b, off + i * 3, none⟩ = some (.int .i64 l[i].1) ∧ w.cell? ⟨b, off + i * 3 + 1, none⟩ = some (.int .i64 l[i].2.1) ∧ w.cell? ⟨b, off + i * 3 + 2, none⟩ = some (.int .i64 l[i].2.2) := by
  obtain ⟨a, cap, rfl, hm, hl⟩ := h
  refine ⟨a, cap, rfl, by unfold maxLen at hm; omega, fun i hi => ?_⟩
  obtain ⟨b, off, rfl, hx⟩ := hl (by intro e; subst e; simp at hi)
  have hj := fun j u => hx i l[i] (List.getElem?_eq_getElem hi) j u
  have h0 := hj 0 _ rfl
  exact ⟨b, off, rfl, Pre.mk (World.block_lt_of_cell? w _ h0), h0, hj 1 _ rfl, hj 2 _ rfl⟩
set_option maxHeartbeats 8000000 in
theorem bits_any (v : Value) (l : List Bool) (w : World) (hv : BoolsAt w v l) (hl : l.length ≤ 1000) : Calls Tryz.prog 35 #[v] w (Gives (str (Li.bitsT l)) w) := by
  by_cases hn : l = []
  · subst hn
    obtain ⟨a, cap, rfl, -, -⟩ := bools_open hv
    clear hv hl
    show Calls Tryz.prog _ #[.slice a 0 cap] w _
    go_enter Tryz.func35, Tryz.ntmps35
    go_wp2
    go_ret
    exact ⟨rfl, by repeat (first | with_reducible exact Grew.refl _ | apply Grew.more | apply Grew.alloc | apply Grew.drew | apply Grew.drewN)⟩
  have hT : Li.bitsT l = l.map Li.bitB := by unfold Li.bitsT; exact if_neg hn
  rw [hT]
  have HV := Lib.hid hv
  have hpos : 0 < l.length := List.length_pos_iff.2 hn
  have hzb : ((l.length : Int) == 0) = false := by rw [beq_eq_false_iff_ne]; omega
  obtain ⟨a, cap, rfl, -, -⟩ := bools_open hv
  clear hv hT hn
  go_enter Tryz.func35, Tryz.ntmps35
  go_wp2
  go_loopg [3, 12] l.length (fun gg s3 s12 wr => ∃ k : Nat, k ≤ l.length ∧ l.length - k ≤ gg ∧ s12 = .int .i64 k ∧ Hid (Grew w wr) ∧ Hid (OwnAt w.heap.size 5 1 encB wr s3 ((l.take k).map Li.bitB)))
  case atStart => exact ⟨0, by omega, by omega, rfl, Lib.hid (Grew.refl _), Lib.hid (OwnAt.nil _)⟩
  case round =>
    obtain ⟨k, hk, hgg, rfl, HG, HO⟩ := hrel
    rename World => wa
    by_cases hlt : k < l.length
    · obtain ⟨a', cap', e, -, hx⟩ := bools_open (HV.out.grew HG.out)
      cases e
      obtain ⟨b, off, rfl, p0, c0⟩ := hx k hlt
      have HT := Lib.hid (map_take_snoc Li.bitB l k hlt)
      have hln : ((l.take k).map Li.bitB).length = k := by rw [List.length_map, List.length_take]; omega
      clear hx
      generalize l[k] = x at *
      generalize (l.take k).map Li.bitB = xs at *
      cases x
      · go_wp2_with (at_builtin; go_loud (refine wpList_ownK (w0 := w) rfl (.tmp 17) (.tmp 19) 75 _ _ _ _ [Li.bitB false] rfl Tryz.underlying75 infoU8 rfl (by decide) encB_len encB_one rfl (OwnAt.grew HO.out (by repeat (first | with_reducible exact Grew.refl _ | apply Grew.more | apply Grew.alloc | apply Grew.drew | apply Grew.drewN))) (HG.out.trans (by repeat (first | with_reducible exact Grew.refl _ | apply Grew.more | apply Grew.alloc | apply Grew.drew | apply Grew.drewN))) rfl (by_at _ _ _ _ rfl (by simp [go_sem])) (by simp; omega) (by decide) (by simp) ?_); intro v7 W7 hA; (have HA7 := Lib.hid hA); clear hA)
        go_roundg (l.length - (k + 1))
        case measure => omega
        case rel => exact ⟨k + 1, by omega, by omega, by go_num, Lib.hid HA7.out.1, Lib.hid (by rw [HT.out]; exact HA7.out.2.1)⟩
      · go_wp2_with (at_builtin; go_loud (refine wpList_ownK (w0 := w) rfl (.tmp 17) (.tmp 19) 75 _ _ _ _ [Li.bitB true] rfl Tryz.underlying75 infoU8 rfl (by decide) encB_len encB_one rfl (OwnAt.grew HO.out (by repeat (first | with_reducible exact Grew.refl _ | apply Grew.more | apply Grew.alloc | apply Grew.drew | apply Grew.drewN))) (HG.out.trans (by repeat (first | with_reducible exact Grew.refl _ | apply Grew.more | apply Grew.alloc | apply Grew.drew | apply Grew.drewN))) rfl (by_at _ _ _ _ rfl (by simp [go_sem])) (by simp; omega) (by decide) (by simp) ?_); intro v7 W7 hA; (have HA7 := Lib.hid hA); clear hA)
        go_roundg (l.length - (k + 1))
        case measure => omega
        case rel => exact ⟨k + 1, by omega, by omega, by go_num, Lib.hid HA7.out.1, Lib.hid (by rw [HT.out]; exact HA7.out.2.1)⟩
    · obtain rfl : k = l.length := by omega
      have ho := HO.out
      rw [List.take_length] at ho
      generalize hq : l.map Li.bitB = bs at *
      have HQ := Lib.hid hq
      have hcv := conv_own wa _ _ _ ho
      obtain ⟨av, cv, rfl⟩ := (OwnAt.rows ho encB_len).len
      clear ho HO hq
      go_wp2
      go_ret
      exact ⟨by first | rfl | (rw [HQ.out]; rfl), HG.out.trans (by repeat (first | with_reducible exact Grew.refl _ | apply Grew.more | apply Grew.alloc | apply Grew.drew | apply Grew.drewN))⟩
theorem idx_str (s : List UInt8) (k : Nat) (h : k < s.length) (w : World) : (Instr.index 9 (.string ⟨s.toArray⟩) (.int .i64 k)).run Tryz.prog w = .ok (.int .u8 (s[k]).toNat) w := by
  simp [Instr.index, go_sem, h]
  rfl
end Go.Proofs.YtmnllmbchpebbaaGreatDoor

/-! lines: truths, records, record, planned. -/
namespace Go.Proofs.YtmnllmbchpebbaaGreatDoor
set_option linter.unusedSimpArgs false
set_option linter.unusedVariables false
open Go.RowKit Ga
set_option maxRecDepth 100000

set_option maxHeartbeats 8000000 in
theorem truths_any (s : List UInt8) (hs : s.length ≤ 100000) (w : World) : Calls Tryz.prog 100 #[.string ⟨s.toArray⟩] w (fun e w' => ∃ v, e = .returned v ∧ OwnAt w.heap.size 4 1 encBo w' v (Li.truthsP s) ∧ Grew w w') := by
  by_cases hd : s = [45]
  · subst hd
    clear hs
    show Calls Tryz.prog _ #[.string ⟨#[45]⟩] w _
    go_enter Tryz.func100, Tryz.ntmps100
    go_wp2
    go_ret
    exact ⟨_, rfl, OwnAt.nil _, by repeat (first | with_reducible exact Grew.refl _ | apply Grew.more | apply Grew.alloc | apply Grew.drew | apply Grew.drewN)⟩
  have hT : Li.truthsP s = s.map (· == 49) := by unfold Li.truthsP; exact if_neg hd
  rw [hT]
  have hne : (s == [45]) = false := by simpa using hd
  have HIX := Lib.hid (idx_str s)
  clear hT hd
  go_enter Tryz.func100, Tryz.ntmps100
  go_wp2
  go_loopg [3, 9] s.length (fun gg s3 s9 wr => ∃ k : Nat, k ≤ s.length ∧ s.length - k ≤ gg ∧ s9 = .int .i64 k ∧ Hid (Grew w wr) ∧ Hid (OwnAt w.heap.size 4 1 encBo wr s3 ((s.take k).map (· == 49))))
  case atStart => exact ⟨0, by omega, by omega, rfl, Lib.hid (Grew.refl _), Lib.hid (OwnAt.nil _)⟩
  case round =>
    obtain ⟨k, hk, hgg, rfl, HG, HO⟩ := hrel
    rename World => wa
    by_cases hlt : k < s.length
    · have hix := HIX.out k hlt wa
      have HT := Lib.hid (map_take_snoc (fun b : UInt8 => b == 49) s k hlt)
      have hln : ((s.take k).map (fun b : UInt8 => b == 49)).length = k := by rw [List.length_map, List.length_take]; omega
      have hq : ((s[k].toNat : Int) == 49) = (s[k] == 49) := by
        have h1 : (49 : UInt8).toNat = 49 := rfl
        by_cases h : s[k] = 49
        · rw [h]; rfl
        · have h2 : s[k].toNat ≠ 49 := fun e => h (UInt8.toNat_inj.1 (e.trans h1.symm))
          rw [beq_eq_false_iff_ne.2 h, beq_eq_false_iff_ne]
          omega
      generalize s[k] = x at *
      generalize (s.take k).map (fun b : UInt8 => b == 49) = xs at *
      generalize (x == 49) = q at *
      generalize x.toNat = xn at *
      go_wp2_with (at_builtin; go_loud (refine wpList_ownK (w0 := w) rfl (.tmp 12) (.tmp 17) 23 _ _ _ _ [q] rfl Tryz.underlying23 infoBo rfl (by decide) encBo_len encBo_one rfl (OwnAt.grew HO.out (by repeat (first | with_reducible exact Grew.refl _ | apply Grew.more | apply Grew.alloc | apply Grew.drew | apply Grew.drewN))) (HG.out.trans (by repeat (first | with_reducible exact Grew.refl _ | apply Grew.more | apply Grew.alloc | apply Grew.drew | apply Grew.drewN))) rfl (bo_at _ _ _ _ rfl (by simp [go_sem])) (by simp; omega) (by decide) (by simp) ?_); intro v7 W7 hA; (have HA7 := Lib.hid hA); clear hA)
      go_roundg (s.length - (k + 1))
      case measure => omega
      case rel => exact ⟨k + 1, by omega, by omega, by go_num, Lib.hid HA7.out.1, Lib.hid (by rw [HT.out]; exact HA7.out.2.1)⟩
    · obtain rfl : k = s.length := by omega
      have ho := HO.out
      rw [List.take_length] at ho
      have HO2 := Lib.hid ho
      clear ho HO
      obtain ⟨av, cv, rfl⟩ := (OwnAt.rows HO2.out encBo_len).len
      go_wp2
      go_ret
      exact ⟨_, rfl, HO2.out, HG.out.trans (by repeat (first | with_reducible exact Grew.refl _ | apply Grew.more | apply Grew.alloc | apply Grew.drew | apply Grew.drewN))⟩
theorem recW_len {r : Rq} (h : Li.okRec r) : (Li.recW r).length ≤ 100 := by
  obtain ⟨h1, h2, h3⟩ := h
  have l1 := Li.itoa_len8 (Li.num_iff.2 (show -1000000 ≤ r.1 ∧ r.1 ≤ 1000000 by omega))
  have l2 := Li.itoa_len8 (Li.num_iff.2 (show -1000000 ≤ r.2.1 ∧ r.2.1 ≤ 1000000 by omega))
  have l3 := Li.itoa_len8 (Li.num_iff.2 (show -1000000 ≤ r.2.2 ∧ r.2.2 ≤ 1000000 by omega))
  unfold Li.recW Tx.textL
  simp only [List.length_append, List.length_cons, List.length_nil]
  split
  · simp; omega
  · simp; omega
theorem textL_len100 {x y : Int} (h2 : -524288 ≤ x ∧ x < 524288) (h3 : -524288 ≤ y ∧ y < 524288) : (Tx.textL x y).length ≤ 50 := by
  have l2 := Li.itoa_len8 (Li.num_iff.2 (show -1000000 ≤ x ∧ x ≤ 1000000 by omega))
  have l3 := Li.itoa_len8 (Li.num_iff.2 (show -1000000 ≤ y ∧ y ≤ 1000000 by omega))
  unfold Tx.textL
  simp only [List.length_append, List.length_cons, List.length_nil]
  split
  · simp; omega
  · simp; omega
/-- a slice of one text -/
def OneS (x : List UInt8) (v : Value) (w : World) : Prop := ∃ b, v = .slice (some ⟨b, 0, none⟩) 1 1 ∧ w.cell? ⟨b, 0, none⟩ = some (.string ⟨x.toArray⟩)
theorem OneS.st (x : List UInt8) : ∀ v w w', OneS x v w → Grew w w' → OneS x v w' := fun _ _ _ ⟨b, h1, h2⟩ g => ⟨b, h1, cell_grew h2 g⟩
theorem one_cells {W : World} {b : Nat} {x : List UInt8} (h : W.cell? ⟨b, 0, none⟩ = some (.string ⟨x.toArray⟩)) : ∀ j u, (([x] : List (List UInt8)).flatMap encS)[j]? = some u → W.cell? ⟨b, j, none⟩ = some u := by
  intro j u hu
  match j with
  | 0 => simp [encS] at hu; subst hu; exact h
  | j + 1 => simp [encS] at hu
set_option maxHeartbeats 16000000 in
theorem records_any (v : Value) (l : List Rq) (w : World) (hP : Pow w) (hv : RqAt w v l) (hl : ∀ r ∈ l, Li.okRec r) (h60 : l.length ≤ 60) : Calls Tryz.prog 34 #[v] w (Gives (str (Li.recsT l)) w) := by
  have hJ : (Lib.join (l.map Li.recW) [32]).length ≤ 1000000 := by
    have := join_len (l.map Li.recW) [32] 100 fun x hx => by
      obtain ⟨n, hn2, rfl⟩ := List.mem_map.1 hx
      exact recW_len (hl n hn2)
    rw [List.length_map] at this
    have e : ([32] : List UInt8).length = 1 := rfl
    rw [e] at this
    omega
  have HJ := Lib.hid hJ
  have HP := Lib.hid hP
  have HV := Lib.hid hv
  have HL := Lib.hid hl
  obtain ⟨a, cap, rfl, -, -⟩ := rq_open hv
  clear hP hv hJ hl
  show Calls _ _ _ _ (Gives (str (Lib.join (l.map Li.recW) [32])) w)
  go_enter Tryz.func34, Tryz.ntmps34
  go_wp2
  go_loopg [3, 8] l.length (fun gg s3 s8 wr => ∃ k : Nat, k ≤ l.length ∧ l.length - k ≤ gg ∧ s8 = .int .i64 k ∧ Hid (Grew w wr) ∧ Hid (OwnAt w.heap.size 9 1 encS wr s3 ((l.take k).map Li.recW)))
  case atStart => exact ⟨0, by omega, by omega, rfl, Lib.hid (Grew.refl _), Lib.hid (OwnAt.nil _)⟩
  case round =>
    obtain ⟨k, hk, hgg, rfl, HG, HO⟩ := hrel
    rename World => wa
    by_cases hlt : k < l.length
    · obtain ⟨a', cap', e, -, hx⟩ := rq_open (HV.out.grew HG.out)
      cases e
      obtain ⟨b, off, rfl, p0, g0, g1, g2⟩ := hx k hlt
      have HT := Lib.hid (map_take_snoc Li.recW l k hlt)
      have hln : ((l.take k).map Li.recW).length = k := by rw [List.length_map, List.length_take]; omega
      have hok := HL.out _ (List.getElem_mem hlt)
      clear hx
      generalize l[k] = r at *
      obtain ⟨ky, x, y⟩ := r
      simp only at g0 g1 g2
      have hr1 : -9223372036854775808 ≤ ky ∧ ky ≤ 9223372036854775807 := by have := hok.1; simp only at this; omega
      have HI := Lib.hid fun W (q : Grew wa W) => itoa_any ky hr1 W (HP.out.grew (HG.out.trans q))
      have HTX0 := fun W (q : Grew wa W) => text_xyL x y W (HP.out.grew (HG.out.trans q))
      rw [into_id (show -524288 ≤ x ∧ x < 524288 from hok.2.1), into_id (show -524288 ≤ y ∧ y < 524288 from hok.2.2)] at HTX0
      have HTX := Lib.hid HTX0
      have l1 := Li.itoa_len8 (Li.num_iff.2 (show -1000000 ≤ ky ∧ ky ≤ 1000000 by have := hok.1; simp only at this; omega))
      have l2 := textL_len100 (show -524288 ≤ x ∧ x < 524288 from hok.2.1) (show -524288 ≤ y ∧ y < 524288 from hok.2.2)
      have HW : Hid (Li.recW (ky, x, y) = Lib.itoa ky ++ 58 :: Tx.textL x y) := Lib.hid rfl
      clear HTX0 hok hr1
      generalize (l.take k).map Li.recW = xs at *
      generalize Li.recW (ky, x, y) = rw9 at *
      generalize Lib.itoa ky = it at *
      generalize Tx.textL x y = tx at *
      have hcat1 : (⟨it.toArray⟩ ++ ⟨#[58]⟩ : ByteArray) = ⟨(it ++ [58]).toArray⟩ := str_cat it [58]
      have hcat2 : (⟨(it ++ [58]).toArray⟩ ++ ⟨tx.toArray⟩ : ByteArray) = ⟨rw9.toArray⟩ := by rw [str_cat, HW.out]; simp
      have l3 : (it ++ [58]).length ≤ 9 := by simp; omega
      generalize it ++ [58] = i1 at *
      obtain ⟨a3, c3, hv3⟩ := (OwnAt.rows HO.out encS_len).len
      subst hv3
      go_wp2_with fail
      refine wp_region_seq 10 Tryz.mixed (by kernel_rfl) (by kernel_rfl) ?_
      iterate 3
        apply Seq.val
        focus
          rintro w1 u ⟨R1, n1, rfl⟩ hF
          simp [moreFacts, Fact.more, Oper.deps, Region.binds, List.filter_cons, World.more_drew] at hF
          simp [putFacts, Oper.deps, Region.binds, List.filter_cons, Region.dstOf, Fact.at, Act.put, World.more_drew]
          go_wp2
          exact ⟨by repeat (first | with_reducible exact Grew.refl _ | apply Grew.more | apply Grew.alloc | apply Grew.drew | apply Grew.drewN), rfl, _, _, rfl, rfl, rfl⟩
      apply Seq.val
      focus
        rintro w1 u ⟨R1, n1, rfl⟩ hF
        simp [moreFacts, Fact.more, Oper.deps, Region.binds, List.filter_cons, World.more_drew] at hF
        simp [putFacts, Oper.deps, Region.binds, List.filter_cons, Region.dstOf, Fact.at, Act.put, World.more_drew]
        go_wp2_with (first
          | (go_at_call 33; refine (HI.out _ (by repeat (first | with_reducible exact Grew.refl _ | apply Grew.more | apply Grew.alloc | apply Grew.drew | apply Grew.drewN))).mono ?_; rintro e w1 ⟨rfl, R3, n3, rfl⟩)
          )
        exact ⟨by repeat (first | with_reducible exact Grew.refl _ | apply Grew.more | apply Grew.alloc | apply Grew.drew | apply Grew.drewN), rfl, _, _, rfl, rfl, rfl⟩
      iterate 3
        apply Seq.val
        focus
          rintro w1 u ⟨R1, n1, rfl⟩ hF
          simp [moreFacts, Fact.more, Oper.deps, Region.binds, List.filter_cons, World.more_drew] at hF
          simp [putFacts, Oper.deps, Region.binds, List.filter_cons, Region.dstOf, Fact.at, Act.put, World.more_drew]
          go_wp2
          exact ⟨by repeat (first | with_reducible exact Grew.refl _ | apply Grew.more | apply Grew.alloc | apply Grew.drew | apply Grew.drewN), rfl, _, _, rfl, rfl, rfl⟩
      apply Seq.val
      focus
        rintro w1 u ⟨R1, n1, rfl⟩ hF
        simp [moreFacts, Fact.more, Oper.deps, Region.binds, List.filter_cons, World.more_drew] at hF
        simp [putFacts, Oper.deps, Region.binds, List.filter_cons, Region.dstOf, Fact.at, Act.put, World.more_drew]
        go_wp2_with (first
          | (go_at_call 79; refine (HTX.out _ (by repeat (first | with_reducible exact Grew.refl _ | apply Grew.more | apply Grew.alloc | apply Grew.drew | apply Grew.drewN))).mono ?_; rintro e w1 ⟨rfl, R4, n4, rfl⟩)
          )
        exact ⟨by repeat (first | with_reducible exact Grew.refl _ | apply Grew.more | apply Grew.alloc | apply Grew.drew | apply Grew.drewN), rfl, _, _, rfl, rfl, rfl⟩
      iterate 1
        apply Seq.val
        focus
          rintro w1 u ⟨R1, n1, rfl⟩ hF
          simp [moreFacts, Fact.more, Oper.deps, Region.binds, List.filter_cons, World.more_drew] at hF
          simp [putFacts, Oper.deps, Region.binds, List.filter_cons, Region.dstOf, Fact.at, Act.put, World.more_drew]
          go_wp2
          exact ⟨by repeat (first | with_reducible exact Grew.refl _ | apply Grew.more | apply Grew.alloc | apply Grew.drew | apply Grew.drewN), rfl, _, _, rfl, rfl, rfl⟩
      apply Seq.of (OneS rw9) (OneS.st rw9)
      focus
        rintro w1 u ⟨R1, n1, rfl⟩ hF
        simp [moreFacts, Fact.more, Oper.deps, Region.binds, List.filter_cons, World.more_drew] at hF
        simp [putFacts, Oper.deps, Region.binds, List.filter_cons, Region.dstOf, Fact.at, Act.put, World.more_drew]
        go_wp2
        exact ⟨by repeat (first | with_reducible exact Grew.refl _ | apply Grew.more | apply Grew.alloc | apply Grew.drew | apply Grew.drewN), rfl, _, _, rfl, rfl, ⟨_, rfl, (cell_of (o := 0) (heap_new_at _ _ _ (by simp [go_sem]))).trans rfl⟩⟩
      rintro u w1 ⟨R1, n1, rfl⟩ hF
      simp [moreFacts, Fact.more, List.range_succ, World.more_drew] at hF
      obtain ⟨⟨b6, e6, h6⟩, -⟩ := hF
      simp [putFacts, Region.dstOf, Fact.at, Act.put, List.range_succ, World.more_drew, e6]
      have H6 := Lib.hid h6
      clear h6
      go_wp2_with (at_builtin; go_loud (refine wpList_ownK (w0 := w) rfl (.tmp 12) (.tmp 21) 50 _ _ _ _ [rw9] rfl Tryz.underlying50 infoStr rfl (by decide) encS_len encS_one rfl (OwnAt.grew HO.out (by repeat (first | with_reducible exact Grew.refl _ | apply Grew.more | apply Grew.alloc | apply Grew.drew | apply Grew.drewN))) (HG.out.trans (by repeat (first | with_reducible exact Grew.refl _ | apply Grew.more | apply Grew.alloc | apply Grew.drew | apply Grew.drewN))) rfl (one_cells H6.out) (by simp; omega) (by decide) (by simp) ?_); intro v7 W7 hA; (have HA7 := Lib.hid hA); clear hA)
      go_roundg (l.length - (k + 1))
      case measure => omega
      case rel => exact ⟨k + 1, by omega, by omega, by go_num, Lib.hid HA7.out.1, Lib.hid (by rw [HT.out]; exact HA7.out.2.1)⟩
    · obtain rfl : k = l.length := by omega
      have ho := HO.out
      rw [List.take_length] at ho
      have hlm : (l.map Li.recW).length ≤ 1000 := by rw [List.length_map]; omega
      have HO2 := Lib.hid ho
      clear ho HO
      go_wp2_with (go_at_call 14; refine (join_any _ (l.map Li.recW) [32] _ _ (HO2.out.grew (by repeat (first | with_reducible exact Grew.refl _ | apply Grew.more | apply Grew.alloc | apply Grew.drew | apply Grew.drewN))) hlm HJ.out).mono ?_; rintro e w1 ⟨rfl, R3, n3, rfl⟩)
      go_ret
      exact ⟨rfl, HG.out.trans (by repeat (first | with_reducible exact Grew.refl _ | apply Grew.more | apply Grew.alloc | apply Grew.drew | apply Grew.drewN))⟩
theorem planned_any (s : List UInt8) (hs : s.length ≤ 100000) (w : World) (hP : Pow w) (hA : Asc w) : Calls Tryz.prog 31 #[.string ⟨s.toArray⟩] w (Gives (str (Li.planT (Gr.getPl getL s).1)) w) := by
  have HG := Lib.hid fun W => getPlan_any s W hs
  have HP := Lib.hid fun W (q : Grew w W) v (h : StepsAt W v (Gr.getPl getL s).1) => linesPlan_any v _ W (hP.grew q) (hA.grew q) h
  clear hP hA
  generalize Gr.getPl getL s = r at *
  go_enter Tryz.func31, Tryz.ntmps31
  go_wp2_with (first
    | (go_at_call 17; refine (HG.out _).mono ?_; rintro e w1 ⟨v, rfl, hv, R1, n1, rfl⟩; (have HV := Lib.hid hv); clear hv)
    | (go_at_call 10; refine (HP.out _ (by repeat (first | with_reducible exact Grew.refl _ | apply Grew.more | apply Grew.alloc | apply Grew.drew | apply Grew.drewN)) _ (HV.out.grew (by repeat (first | with_reducible exact Grew.refl _ | apply Grew.more | apply Grew.alloc | apply Grew.drew | apply Grew.drewN)))).mono ?_; rintro e w2 ⟨rfl, R2, n2, rfl⟩))
  go_ret
  exact ⟨rfl, by repeat (first | with_reducible exact Grew.refl _ | apply Grew.more | apply Grew.alloc | apply Grew.drew | apply Grew.drewN)⟩
/-- what the parsers of events ask of the library's variables -/
structure EnvEv (w : World) : Prop where
  l : Env27 w
  u : Lib.Utf8Tabs 5 6 w
noncomputable def gvL (s : List UInt8) : Int × Int := (parseOut s).1
end Go.Proofs.YtmnllmbchpebbaaGreatDoor

/-! lines: record, verbs, and which verb a name is. -/
namespace Go.Proofs.YtmnllmbchpebbaaGreatDoor
set_option linter.unusedSimpArgs false
set_option linter.unusedVariables false
open Go.RowKit Ga
set_option maxRecDepth 100000

theorem EnvEv.grew {w w' : World} (h : EnvEv w) (g : Grew w w') : EnvEv w' := ⟨h.l.grew g, utf8_grew h.u g⟩
set_option maxHeartbeats 8000000 in
theorem record_any (s : List UInt8) (hs : s.length ≤ 100000) (w : World) (hV : EnvEv w) : Calls Tryz.prog 57 #[.string ⟨s.toArray⟩] w (Gives (.agg #[.int .i64 (Li.recP gvL s).1, .int .i64 (Li.recP gvL s).2.1, .int .i64 (Li.recP gvL s).2.2]) w) := by
  obtain ⟨c1, c2⟩ := cut_len s [58]
  have HC := Lib.hid fun W (q : Grew w W) => cut_any s [58] (by omega) W (hV.l.m.grew q)
  have HA := Lib.hid fun W (q : Grew w W) => atoiL_any (Lib.cut s [58]).1 (by omega) W (hV.l.e.grew q)
  have HP := Lib.hid fun W (q : Grew w W) => parse_any (Lib.cut s [58]).2.1 (by omega) W (utf8_grew hV.u q) (hV.l.e.grew q) (hV.l.p.grew q)
  have e1 : (Li.recP gvL s).1 = Co.atoiVal (Lib.cut s [58]).1 := rfl
  have e2 : (Li.recP gvL s).2 = (parseOut (Lib.cut s [58]).2.1).1 := rfl
  rw [e1, e2]
  clear hV e1 e2 c1 c2
  generalize (Lib.cut s [58]).1 = ca at *
  generalize (Lib.cut s [58]).2.1 = cb at *
  generalize (Lib.cut s [58]).2.2 = cc at *
  generalize Co.atoiVal ca = ia at *
  generalize parseOut cb = po at *
  obtain ⟨⟨x, y⟩, er⟩ := po
  simp only at HP ⊢
  go_enter Tryz.func57, Tryz.ntmps57
  go_wp2_with (first
    | (go_at_call 54; refine (HC.out _ (by repeat (first | with_reducible exact Grew.refl _ | apply Grew.more | apply Grew.alloc | apply Grew.drew | apply Grew.drewN))).mono ?_; rintro e w1 ⟨rfl, R1, n1, rfl⟩)
    | (go_at_call 62; refine (HA.out _ (by repeat (first | with_reducible exact Grew.refl _ | apply Grew.more | apply Grew.alloc | apply Grew.drew | apply Grew.drewN))).mono ?_; rintro e w1 ⟨v1, rfl, R2, n2, rfl⟩)
    | (go_at_call 97; refine (HP.out _ (by repeat (first | with_reducible exact Grew.refl _ | apply Grew.more | apply Grew.alloc | apply Grew.drew | apply Grew.drewN))).mono ?_; rintro e w1 ⟨rfl, R3, n3, rfl⟩))
  refine bodyPost_ret (v := .agg #[.int .i64 ia, .int .i64 x, .int .i64 y]) (by simp [results, Tryz.results57, go_sem]) rfl ⟨rfl, by repeat (first | with_reducible exact Grew.refl _ | apply Grew.more | apply Grew.alloc | apply Grew.drew | apply Grew.drewN)⟩
def lettersL : List (List UInt8) := [[], [82], [80], [], [65], [65], [65], [65], [65, 66], [], [65], [75, 67], [65], []]
def nameN (k : Nat) : List UInt8 := Li.namesE.getD k []
def lettersN (k : Nat) : List UInt8 := lettersL.getD k []
theorem nameN_eq (k : Nat) : Li.nameE (k : Int) = nameN k := rfl
/-- the verbs in memory -/
def VerbsAt (w : World) (b : Nat) : Prop := ∀ k, k < 14 → w.cell? ⟨b, k * 2, none⟩ = some (.string ⟨(nameN k).toArray⟩) ∧ w.cell? ⟨b, k * 2 + 1, none⟩ = some (.string ⟨(lettersN k).toArray⟩)
theorem VerbsAt.grew {w w' : World} {b : Nat} (h : VerbsAt w b) (g : Grew w w') : VerbsAt w' b := fun k hk => ⟨cell_grew (h k hk).1 g, cell_grew (h k hk).2 g⟩
set_option maxHeartbeats 8000000 in
theorem verbs_any (w : World) : Calls Tryz.prog 11 #[] w (fun e w' => ∃ b, e = .returned (.slice (some ⟨b, 0, none⟩) 14 14) ∧ VerbsAt w' b ∧ Pre b w' ∧ Grew w w') := by
  go_enter Tryz.func11, Tryz.ntmps11
  go_wp2
  go_ret
  refine ⟨w.heap.size, rfl, fun k hk => ?_, Pre.mk (by simp [go_sem]), by repeat (first | with_reducible exact Grew.refl _ | apply Grew.more | apply Grew.alloc | apply Grew.drew | apply Grew.drewN)⟩
  rw [cell_of (heap_new_at w _ _ rfl), cell_of (heap_new_at w _ _ rfl)]
  rcases (show k = 0 ∨ k = 1 ∨ k = 2 ∨ k = 3 ∨ k = 4 ∨ k = 5 ∨ k = 6 ∨ k = 7 ∨ k = 8 ∨ k = 9 ∨ k = 10 ∨ k = 11 ∨ k = 12 ∨ k = 13 by omega) with rfl | rfl | rfl | rfl | rfl | rfl | rfl | rfl | rfl | rfl | rfl | rfl | rfl | rfl <;> exact ⟨rfl, rfl⟩
theorem kindOf_at (k : Nat) (hk : k < 14) : Li.kindOf (nameN k) = k := by
  have key : ∀ k : Nat, k < 14 → Li.kindOf (nameN k) = k := by decide +kernel
  exact key k hk
theorem kindOf_none {n : List UInt8} (h : ∀ k, k < 14 → nameN k ≠ n) : Li.kindOf n = -1 := by
  unfold Li.kindOf
  rw [if_neg]
  intro hm
  obtain ⟨i, hi, e⟩ := List.mem_iff_getElem.1 hm
  refine h i hi ?_
  unfold nameN
  rw [List.getD_eq_getElem?_getD, List.getElem?_eq_getElem hi, e]
  rfl
theorem read1_any (a b n : List UInt8) (p : Nat) (w : World) (hp : w.cell? ⟨p, 0, none⟩ = some (.string ⟨n.toArray⟩)) : Calls Tryz.prog 56 #[.agg #[.string ⟨a.toArray⟩, .string ⟨b.toArray⟩], .pointer (some ⟨p, 0, none⟩)] w (Gives (.bool (a == n)) w) := by
  have p1 := Pre.ofCell hp
  generalize hq : (a == n) = q
  have HQ := Lib.hid hq
  clear hq
  go_enter Tryz.func56, Tryz.ntmps56
  go_wp2
  go_ret
  exact ⟨by first | rfl | (rw [← HQ.out]; rfl), by repeat (first | with_reducible exact Grew.refl _ | apply Grew.more | apply Grew.alloc | apply Grew.drew | apply Grew.drewN)⟩
set_option maxHeartbeats 8000000 in
theorem idxVerb_any (b p : Nat) (n : List UInt8) (w : World) (hv : VerbsAt w b) (hb : Pre b w) (hp : w.cell? ⟨p, 0, none⟩ = some (.string ⟨n.toArray⟩)) : Calls Tryz.prog 55 #[.slice (some ⟨b, 0, none⟩) 14 14, .func (.func 56) #[] #[.pointer (some ⟨p, 0, none⟩)]] w (Gives (.int .i64 (Li.kindOf n)) w) := by
  have HV := Lib.hid hv
  have HP := Lib.hid hp
  have HNO := Lib.hid (kindOf_none (n := n))
  clear hv hb hp
  go_enter Tryz.func55, Tryz.ntmps55
  go_wp2
  go_loopg [8] 14 (fun gg s8 wr => ∃ k : Nat, k ≤ 14 ∧ 14 - k ≤ gg ∧ s8 = .int .i64 k ∧ Hid (Grew w wr) ∧ Hid (∀ j, j < k → nameN j ≠ n))
  case atStart => exact ⟨0, by omega, by omega, rfl, Lib.hid (by repeat (first | with_reducible exact Grew.refl _ | apply Grew.more | apply Grew.alloc | apply Grew.drew | apply Grew.drewN)), Lib.hid fun j hj => by omega⟩
  case round =>
    obtain ⟨k, hk, hgg, rfl, HG, HA⟩ := hrel
    rename World => wa
    by_cases hlt : k < 14
    · obtain ⟨c0, c1⟩ := (HV.out.grew HG.out) k hlt
      have p0 := Pre.ofCell c0
      have HK := Lib.hid (kindOf_at k hlt)
      generalize lettersN k = lt at *
      generalize hnk : nameN k = nk at *
      have HNK := Lib.hid hnk
      clear hnk
      have HRD := Lib.hid fun W (q : Grew wa W) => read1_any nk lt n p W (cell_grew HP.out (HG.out.trans q))
      by_cases hq : nk = n
      · have hqb : (nk == n) = true := by rw [hq]; exact beq_self_eq_true n
        have HQ := Lib.hid hq
        rw [hqb] at HRD
        clear hq hqb
        go_wp2_with (go_at_call 56; refine (HRD.out _ (by repeat (first | with_reducible exact Grew.refl _ | apply Grew.more | apply Grew.alloc | apply Grew.drew | apply Grew.drewN))).mono ?_; rintro e w1 ⟨rfl, R1, n1, rfl⟩)
        go_ret
        exact ⟨by rw [← HQ.out, HK.out]; rfl, HG.out.trans (by repeat (first | with_reducible exact Grew.refl _ | apply Grew.more | apply Grew.alloc | apply Grew.drew | apply Grew.drewN))⟩
      · have hqb : (nk == n) = false := beq_eq_false_iff_ne.2 hq
        have HQ := Lib.hid hq
        rw [hqb] at HRD
        clear hq hqb
        go_wp2_with (go_at_call 56; refine (HRD.out _ (by repeat (first | with_reducible exact Grew.refl _ | apply Grew.more | apply Grew.alloc | apply Grew.drew | apply Grew.drewN))).mono ?_; rintro e w1 ⟨rfl, R1, n1, rfl⟩)
        go_roundg (14 - (k + 1))
        case measure => omega
        case rel =>
          refine ⟨k + 1, by omega, by omega, by go_num, Lib.hid (HG.out.trans (by repeat (first | with_reducible exact Grew.refl _ | apply Grew.more | apply Grew.alloc | apply Grew.drew | apply Grew.drewN))), Lib.hid fun j hj => ?_⟩
          by_cases e : j = k
          · subst e; rw [HNK.out]; exact HQ.out
          · exact HA.out j (by omega)
    · obtain rfl : k = 14 := by omega
      have HK := Lib.hid (HNO.out HA.out)
      go_wp2
      go_ret
      exact ⟨by rw [HK.out]; rfl, HG.out⟩
end Go.Proofs.YtmnllmbchpebbaaGreatDoor

/-! lines: which letters a verb has, right records, the words of an event. -/
namespace Go.Proofs.YtmnllmbchpebbaaGreatDoor
set_option linter.unusedSimpArgs false
set_option linter.unusedVariables false
open Go.RowKit Ga
set_option maxRecDepth 100000

def hasB (lt : List UInt8) (c : UInt8) : Bool := decide (0 ≤ Lib.indexByte lt c)
theorem bare1_any (lt : List UInt8) (c : UInt8) (p : Nat) (w : World) (hp : w.cell? ⟨p, 0, none⟩ = some (.string ⟨lt.toArray⟩)) : Calls Tryz.prog 26 #[.string ⟨#[c]⟩, .pointer (some ⟨p, 0, none⟩)] w (Gives (.bool (hasB lt c)) w) := by
  have p1 := Pre.ofCell hp
  have HC := Lib.hid fun W => Tryz.strings_Contains_one ⟨lt.toArray⟩ c W
  go_enter Tryz.func26, Tryz.ntmps26
  go_wp2_with (go_at_call 27; refine (HC.out _).mono ?_; rintro e w1 ⟨rfl, hw⟩; obtain rfl := hw.symm)
  go_ret
  exact ⟨rfl, by repeat (first | with_reducible exact Grew.refl _ | apply Grew.more | apply Grew.alloc | apply Grew.drew | apply Grew.drewN)⟩
theorem cellRight_ln (k x y : Int) (w : World) : Calls Tryz.prog 29 #[.agg #[.int .i64 k, .int .i64 x, .int .i64 y]] w (Gives (.bool (thereB 0 k && rightV (x, y))) w) := by
  cases h : thereB 0 k
  · have H := Lib.hid h
    clear h
    go_enter Tryz.func29, Tryz.ntmps29
    go_wp2_with (go_at_call 73; refine (there_any _ _ _).mono ?_; rintro e w1 ⟨rfl, rfl⟩; rw [H.out])
    go_ret
    exact ⟨rfl, by repeat (first | with_reducible exact Grew.refl _ | apply Grew.more | apply Grew.alloc | apply Grew.drew | apply Grew.drewN)⟩
  · have H := Lib.hid h
    clear h
    go_enter Tryz.func29, Tryz.ntmps29
    go_wp2_with (first
      | (go_at_call 73; refine (there_any _ _ _).mono ?_; rintro e w1 ⟨rfl, rfl⟩; rw [H.out])
      | (go_at_call 74; refine (right_xy _ _ _).mono ?_; rintro e w1 ⟨rfl, R1, n1, rfl⟩))
    go_ret
    exact ⟨by simp, by repeat (first | with_reducible exact Grew.refl _ | apply Grew.more | apply Grew.alloc | apply Grew.drew | apply Grew.drewN)⟩
def okRq (r : Rq) : Bool := thereB 0 r.1 && rightV (r.2.1, r.2.2)
theorem bare2_any (k x y : Int) (w : World) : Calls Tryz.prog 28 #[.agg #[.int .i64 k, .int .i64 x, .int .i64 y]] w (Gives (.bool (!okRq (k, x, y))) w) := by
  have HC := Lib.hid fun W => cellRight_ln k x y W
  have e : (thereB 0 k && rightV (x, y)) = okRq (k, x, y) := rfl
  rw [e] at HC
  generalize okRq (k, x, y) = q at *
  go_enter Tryz.func28, Tryz.ntmps28
  go_wp2_with (go_at_call 29; refine (HC.out _).mono ?_; rintro e w1 ⟨rfl, R1, n1, rfl⟩)
  go_ret
  exact ⟨rfl, by repeat (first | with_reducible exact Grew.refl _ | apply Grew.more | apply Grew.alloc | apply Grew.drew | apply Grew.drewN)⟩
set_option maxHeartbeats 8000000 in
theorem idxRq_any (v : Value) (l : List Rq) (w : World) (hv : RqAt w v l) : Calls Tryz.prog 77 #[v, .func (.func 28) #[] #[]] w (fun e w' => ∃ k : Int, e = .returned (.int .i64 k) ∧ (decide (0 ≤ k) = !l.all okRq) ∧ Grew w w') := by
  have HV := Lib.hid hv
  obtain ⟨a, cap, rfl, hmx, -⟩ := rq_open hv
  clear hv
  go_enter Tryz.func77, Tryz.ntmps77
  go_wp2
  go_loopg [8] l.length (fun gg s8 wr => ∃ k : Nat, k ≤ l.length ∧ l.length - k ≤ gg ∧ s8 = .int .i64 k ∧ Hid (Grew w wr) ∧ Hid ((l.take k).all okRq = true))
  case atStart => exact ⟨0, by omega, by omega, rfl, Lib.hid (by repeat (first | with_reducible exact Grew.refl _ | apply Grew.more | apply Grew.alloc | apply Grew.drew | apply Grew.drewN)), Lib.hid rfl⟩
  case round =>
    obtain ⟨k, hk, hgg, rfl, HG, HA⟩ := hrel
    rename World => wa
    by_cases hlt : k < l.length
    · obtain ⟨a', cap', e, -, hx⟩ := rq_open (HV.out.grew HG.out)
      cases e
      obtain ⟨b, off, rfl, hb, c0, c1, c2⟩ := hx k hlt
      have hms : l.length - (k + 1) < l.length - k := Nat.sub_lt_sub_left hlt (Nat.lt_succ_self k)
      have HS := Lib.hid (take_all_succ (p := okRq) hlt HA.out)
      have HF := Lib.hid (all_false_at (p := okRq) hlt)
      clear hx
      generalize l[k] = r at *
      obtain ⟨x, y, z⟩ := r
      simp only at c0 c1 c2
      have HB := Lib.hid fun W => bare2_any x y z W
      cases hr : okRq (x, y, z)
      all_goals
        have HR := Lib.hid hr
        rw [hr] at HB
        clear hr
        go_wp2_with (go_at_call 28; refine (HB.out _).mono ?_; rintro e w1 ⟨rfl, R1, n1, rfl⟩)
      · go_ret
        refine ⟨k, rfl, ?_, HG.out.trans (by repeat (first | with_reducible exact Grew.refl _ | apply Grew.more | apply Grew.alloc | apply Grew.drew | apply Grew.drewN))⟩
        rw [HF.out HR.out]
        simp
      · go_roundg (l.length - (k + 1))
        case measure => exact Nat.lt_of_lt_of_le hms hgg
        case rel => exact ⟨k + 1, hlt, Nat.le_refl _, by go_num, Lib.hid (HG.out.trans (by repeat (first | with_reducible exact Grew.refl _ | apply Grew.more | apply Grew.alloc | apply Grew.drew | apply Grew.drewN))), Lib.hid (HS.out HR.out)⟩
    · obtain rfl : k = l.length := by omega
      have hz := HA.out
      rw [List.take_length] at hz
      have HZ := Lib.hid hz
      clear hz HA
      go_wp2
      go_ret
      exact ⟨-1, rfl, by rw [HZ.out]; rfl, HG.out⟩
theorem hasRq_any (v : Value) (l : List Rq) (w : World) (hv : RqAt w v l) : Calls Tryz.prog 32 #[v, .func (.func 28) #[] #[]] w (Gives (.bool (!l.all okRq)) w) := by
  have HI := Lib.hid fun W (q : Grew w W) => idxRq_any v l W (hv.grew q)
  clear hv
  go_enter Tryz.func32, Tryz.ntmps32
  go_wp2_with (go_at_call 77; refine (HI.out _ (by repeat (first | with_reducible exact Grew.refl _ | apply Grew.more | apply Grew.alloc | apply Grew.drew | apply Grew.drewN))).mono ?_; rintro e w1 ⟨k, rfl, hk, R1, n1, rfl⟩; (have HK := Lib.hid hk); clear hk)
  go_ret
  exact ⟨ret_bool HK.out, by repeat (first | with_reducible exact Grew.refl _ | apply Grew.more | apply Grew.alloc | apply Grew.drew | apply Grew.drewN)⟩
/-- an event's value -/
def evV (v : Li.Ev) (rv kv : Value) : Value := .agg #[.int .i64 v.kind, .int .i64 v.a, .int .i64 v.b, rv, .string ⟨v.plan.toArray⟩, kv, .int .i64 v.cut]
structure EvIs (w : World) (v : Li.Ev) (rv kv : Value) : Prop where
  r : RqAt w rv v.recs
  k : BoolsAt w kv v.keep
theorem EvIs.grew {w w' : World} {v : Li.Ev} {rv kv : Value} (h : EvIs w v rv kv) (g : Grew w w') : EvIs w' v rv kv := ⟨RowsAt.grew h.r g, RowsAt.grew h.k g⟩
noncomputable def gpL (s : List UInt8) : List Gr.Stp × Int := Gr.getPl getL s
noncomputable def wordL (v : Li.Ev) (c : Int) : List UInt8 :=
  if c = 65 then Lib.itoa v.a else if c = 66 then Lib.itoa v.b else if c = 82 then Li.recsT v.recs else if c = 80 then Li.planT (gpL v.plan).1 else if c = 75 then Li.bitsT v.keep else Lib.itoa v.cut
structure EvOk (v : Li.Ev) : Prop where
  a : Li.num v.a = true
  b : Li.num v.b = true
  c : Li.num v.cut = true
  r : v.recs.length ≤ 60
  k : v.keep.length ≤ 60
  p : v.plan.length ≤ 100000
  o : ∀ r ∈ v.recs, Li.okRec r
set_option maxHeartbeats 8000000 in
theorem word_any (v : Li.Ev) (rv kv : Value) (c : Int) (w : World) (hP : Pow w) (hA : Asc w) (hE : EvIs w v rv kv) (hO : EvOk v) (hc : c = 65 ∨ c = 66 ∨ c = 82 ∨ c = 80 ∨ c = 75 ∨ c = 67) : Calls Tryz.prog 13 #[evV v rv kv, .int .i32 c] w (Gives (str (wordL v c)) w) := by
  obtain ⟨o1, o2, o3, o4, o5, o6, o7⟩ := hO
  have HI1 := Lib.hid fun W (q : Grew w W) => itoa_any v.a (num_range o1) W (hP.grew q)
  have HI2 := Lib.hid fun W (q : Grew w W) => itoa_any v.b (num_range o2) W (hP.grew q)
  have HI3 := Lib.hid fun W (q : Grew w W) => itoa_any v.cut (num_range o3) W (hP.grew q)
  have HR := Lib.hid fun W (q : Grew w W) => records_any rv v.recs W (hP.grew q) (RowsAt.grew hE.r q) o7 o4
  have HK := Lib.hid fun W (q : Grew w W) => bits_any kv v.keep W (RowsAt.grew hE.k q) (by omega)
  have HL := Lib.hid fun W (q : Grew w W) => planned_any v.plan o6 W (hP.grew q) (hA.grew q)
  obtain ⟨ra, rc, e1, -, -⟩ := rq_open hE.r
  obtain ⟨ka, kc, e2, -, -⟩ := bools_open hE.k
  subst e1 e2
  have w1 : wordL v 65 = Lib.itoa v.a := rfl
  have w2 : wordL v 66 = Lib.itoa v.b := rfl
  have w3 : wordL v 82 = Li.recsT v.recs := rfl
  have w4 : wordL v 80 = Li.planT (Gr.getPl getL v.plan).1 := rfl
  have w5 : wordL v 75 = Li.bitsT v.keep := rfl
  have w6 : wordL v 67 = Lib.itoa v.cut := rfl
  clear hP hA hE o1 o2 o3 o4 o5 o6 o7
  generalize hw9 : wordL v = wl at *
  clear hw9
  obtain ⟨kind, a, b, recs, plan, keep, ct⟩ := v
  simp only [evV] at *
  rcases hc with rfl | rfl | rfl | rfl | rfl | rfl
  all_goals
    first | rw [w1] | rw [w2] | rw [w3] | rw [w4] | rw [w5] | rw [w6]
    clear w1 w2 w3 w4 w5 w6
    generalize Lib.itoa a = ia at *
    generalize Lib.itoa b = ib at *
    generalize Lib.itoa ct = ic at *
    generalize Li.recsT recs = rt at *
    generalize Li.bitsT keep = bt at *
    generalize Li.planT (Gr.getPl getL plan).1 = pt at *
    generalize recs.length = rl at *
    generalize keep.length = kl at *
    go_enter Tryz.func13, Tryz.ntmps13
    go_wp2_with (first
      | (go_at_call 33; (first | (with_reducible refine (HI1.out _ (by repeat (first | with_reducible exact Grew.refl _ | apply Grew.more | apply Grew.alloc | apply Grew.drew | apply Grew.drewN))).mono ?_) | (with_reducible refine (HI2.out _ (by repeat (first | with_reducible exact Grew.refl _ | apply Grew.more | apply Grew.alloc | apply Grew.drew | apply Grew.drewN))).mono ?_) | (with_reducible refine (HI3.out _ (by repeat (first | with_reducible exact Grew.refl _ | apply Grew.more | apply Grew.alloc | apply Grew.drew | apply Grew.drewN))).mono ?_)); rintro e w1 ⟨rfl, R1, n1, rfl⟩)
      | (go_at_call 34; refine (HR.out _ (by repeat (first | with_reducible exact Grew.refl _ | apply Grew.more | apply Grew.alloc | apply Grew.drew | apply Grew.drewN))).mono ?_; rintro e w1 ⟨rfl, R1, n1, rfl⟩)
      | (go_at_call 31; refine (HL.out _ (by repeat (first | with_reducible exact Grew.refl _ | apply Grew.more | apply Grew.alloc | apply Grew.drew | apply Grew.drewN))).mono ?_; rintro e w1 ⟨rfl, R1, n1, rfl⟩)
      | (go_at_call 35; refine (HK.out _ (by repeat (first | with_reducible exact Grew.refl _ | apply Grew.more | apply Grew.alloc | apply Grew.drew | apply Grew.drewN))).mono ?_; rintro e w1 ⟨rfl, R1, n1, rfl⟩))
    go_ret
    exact ⟨rfl, by repeat (first | with_reducible exact Grew.refl _ | apply Grew.more | apply Grew.alloc | apply Grew.drew | apply Grew.drewN)⟩
end Go.Proofs.YtmnllmbchpebbaaGreatDoor

/-! lines: Event. -/
namespace Go.Proofs.YtmnllmbchpebbaaGreatDoor
set_option linter.unusedSimpArgs false
set_option linter.unusedVariables false
open Go.RowKit Ga
set_option maxRecDepth 100000

theorem grew_iter {w0 w : World} (g : Grew w0 w) {k : Nat} (hk : w0.heap.size ≤ k) (s : ByteArray) (p : Nat) : Grew w0 (w.iterAt k s p) := Grew.ofBelow (Lib.below_iterAt g.below hk s p)
theorem own_iter {α : Type} {base : Nat} {e : TypeId} {k it : Nat} {enc : α → List Value} {w : World} {v : Value} {l : List α} (h : OwnAt base e k enc w v l) {s : ByteArray} {p p2 : Nat} (hi : w.heap[it]? = some (.stringIter s p)) : OwnAt base e k enc (w.iterAt it s p2) v l :=
  OwnAt.same h fun q hq => Lib.iterAt_other w it q s p2 fun e1 => by
    obtain ⟨-, cs, hc⟩ := OwnAt.block h hq
    rw [e1, hi] at hc
    cases hc
theorem own_not_iter {α : Type} {base : Nat} {e : TypeId} {k it : Nat} {enc : α → List Value} {w : World} {v : Value} {l : List α} (h : OwnAt base e k enc w v l) {s : ByteArray} {p : Nat} (hi : w.heap[it]? = some (.stringIter s p)) : v.ownBlock ≠ some it := by
  intro e1
  obtain ⟨_, c', h'⟩ := h.block e1
  rw [hi] at h'
  cases h'
theorem iter_kept {w w' : World} (g : Grew w w') {it : Nat} {s : ByteArray} {p : Nat} (hi : w.heap[it]? = some (.stringIter s p)) : w'.heap[it]? = some (.stringIter s p) := by
  rw [g.below.block it (Array.getElem?_eq_some_iff.1 hi).1]
  exact hi
theorem iter_app {α : Type} {w0 : World} {e : TypeId} {k it : Nat} {enc : α → List Value} {W W' : World} {v v' : Value} {l l' : List α} (ho : OwnAt w0.heap.size e k enc W v l) (h : Appended w0 e k enc W v l' v' W') {s : ByteArray} {p : Nat} (hi : W.heap[it]? = some (.stringIter s p)) : W'.heap[it]? = some (.stringIter s p) := by
  obtain ⟨-, -, -, h4, -⟩ := h
  rw [h4 it (Array.getElem?_eq_some_iff.1 hi).1 (own_not_iter ho hi)]
  exact hi
/-- the verbs' value -/
def VerbsV (v : Value) (w : World) : Prop := ∃ b, v = .slice (some ⟨b, 0, none⟩) 14 14 ∧ VerbsAt w b ∧ Pre b w
theorem VerbsV.st : ∀ v w w', VerbsV v w → Grew w w' → VerbsV v w' := fun _ _ _ ⟨b, h1, h2, h3⟩ g => ⟨b, h1, h2.grew g, Nat.lt_of_lt_of_le h3 g.below.size⟩
/-- where one verb lies -/
def VerbP (nm lt : List UInt8) (v : Value) (w : World) : Prop := ∃ b o, v = .pointer (some ⟨b, o, none⟩) ∧ (w.cell? ⟨b, o, none⟩ = some (.string ⟨nm.toArray⟩) ∧ w.cell? ⟨b, o + 1, none⟩ = some (.string ⟨lt.toArray⟩)) ∧ Pre b w
theorem VerbP.st (nm lt : List UInt8) : ∀ v w w', VerbP nm lt v w → Grew w w' → VerbP nm lt v w' := fun _ _ _ ⟨b, o, h1, h2, h3⟩ g => ⟨b, o, h1, ⟨cell_grew h2.1 g, cell_grew h2.2 g⟩, Nat.lt_of_lt_of_le h3 g.below.size⟩
noncomputable def wordsF (v : Li.Ev) (ls : List UInt8) : List (List UInt8) := (ls.map fun c => wordL v c.toNat).filter fun x => !x.isEmpty
set_option maxHeartbeats 32000000 in
theorem event_no (v : Li.Ev) (rv kv : Value) (w : World) (hE : EvIs w v rv kv) (hk : v.kind < 1 ∨ 13 < v.kind) : Calls Tryz.prog 5 #[evV v rv kv] w (Gives (str []) w) := by
  obtain ⟨ra, rc, e1, m1, -⟩ := rq_open hE.r
  obtain ⟨ka, kc, e2, m2, -⟩ := bools_open hE.k
  subst e1 e2
  clear hE
  obtain ⟨kind, a, b, recs, plan, keep, ct⟩ := v
  simp only [evV] at *
  rcases hk with hk | hk
  · go_enter Tryz.func5, Tryz.ntmps5
    go_wp2
    go_ret
    exact ⟨rfl, by repeat (first | with_reducible exact Grew.refl _ | apply Grew.more | apply Grew.alloc | apply Grew.drew | apply Grew.drewN)⟩
  · have h1 : ¬ kind < 1 := by omega
    go_enter Tryz.func5, Tryz.ntmps5
    go_wp2
    go_ret
    exact ⟨rfl, by repeat (first | with_reducible exact Grew.refl _ | apply Grew.more | apply Grew.alloc | apply Grew.drew | apply Grew.drewN)⟩
set_option maxHeartbeats 32000000 in
theorem event_walk (v : Li.Ev) (rv kv : Value) (k : Nat) (nm lt : List UInt8) (q : Bool) (w : World) (hP : Pow w) (hA : Asc w) (hE : EvIs w v rv kv) (hkd : v.kind = (k : Int)) (hk : 1 ≤ k ∧ k ≤ 13) (hnm : nameN k = nm) (hlt : lettersN k = lt)
    (HB : ∀ W, Grew w W → Calls Tryz.prog 12 #[evV v rv kv, .string ⟨lt.toArray⟩] W (Gives (.bool q) W))
    (HW : q = true → ∀ W, Grew w W → ∀ c ∈ lt, Calls Tryz.prog 13 #[evV v rv kv, .int .i32 c.toNat] W (Gives (str (wordL v c.toNat)) W))
    (hasc : ∀ c ∈ lt, c.toNat < 128) (hl2 : lt.length ≤ 2) (hjl : q = true → (Lib.join (nm :: wordsF v lt) [32]).length ≤ 1000000) :
    Calls Tryz.prog 5 #[evV v rv kv] w (Gives (str (if q = true then Lib.join (nm :: wordsF v lt) [32] else [])) w) := by
  obtain ⟨ra, rc, e1, m1, -⟩ := rq_open hE.r
  obtain ⟨ka, kc, e2, m2, -⟩ := bools_open hE.k
  subst e1 e2
  clear hE
  have HBq := Lib.hid HB
  have HWq := Lib.hid HW
  have HJ := Lib.hid hjl
  have HAS := Lib.hid hasc
  have HNM := Lib.hid hnm
  have HLT := Lib.hid hlt
  have hP2 := Lib.hid (And.intro hP hA)
  clear HB HW hjl hasc hP hA hnm hlt
  generalize hvv : wordL v = wl at *
  have HF : Hid (∀ ls, wordsF v ls = (ls.map fun c => wl c.toNat).filter fun x => !x.isEmpty) := Lib.hid fun ls => by unfold wordsF; rw [hvv]
  clear hvv
  generalize wordsF v = wf at *
  obtain ⟨kind, a, b, recs, plan, keep, ct⟩ := v
  simp only [evV] at *
  subst hkd
  have k1 : decide ((k : Int) < 1) = false := by simp; omega
  have k2 : decide (13 < (k : Int)) = false := by simp; omega
  have k3 : k < 14 := by omega
  have HK := Lib.hid hk
  have HL2 := Lib.hid hl2
  clear hk hl2 m1 m2
  generalize hres : (if q = true then Lib.join (nm :: wf lt) [32] else []) = res
  have HRES := Lib.hid hres
  clear hres
  go_enter Tryz.func5, Tryz.ntmps5
  go_upto_region 3 with fail
  go_cut [3] (fun s3 wx => ∃ b3, s3 = .pointer (some ⟨b3, 0, none⟩) ∧ Grew (w.alloc (.cells #[.int .i64 k, .int .i64 a, .int .i64 b, .slice ra recs.length rc, .string ⟨plan.toArray⟩, .slice ka keep.length kc, .int .i64 ct] 27)) wx ∧ wx.heap[b3]? = some (.cells #[.string ⟨nm.toArray⟩, .string ⟨lt.toArray⟩] 47))
  case first =>
    refine wp_region_seq 6 Tryz.mixed (by kernel_rfl) (by kernel_rfl) ?_
    apply Seq.of VerbsV VerbsV.st
    focus
      rintro w1 u ⟨R1, n1, rfl⟩ hF
      simp [moreFacts, Fact.more, Oper.deps, Region.binds, List.filter_cons, World.more_drew] at hF
      simp [putFacts, Oper.deps, Region.binds, List.filter_cons, Region.dstOf, Fact.at, Act.put, World.more_drew]
      go_wp2_with (first
        | (go_at_call 11; refine (verbs_any _).mono ?_; rintro e w2 ⟨b9, rfl, hvb, hpb, R3, n3, rfl⟩)
        )
      exact ⟨by repeat (first | with_reducible exact Grew.refl _ | apply Grew.more | apply Grew.alloc | apply Grew.drew | apply Grew.drewN), rfl, _, _, rfl, rfl, ⟨b9, rfl, hvb, hpb⟩⟩
    iterate 2
      apply Seq.val
      focus
        rintro w1 u ⟨R1, n1, rfl⟩ hF
        simp [moreFacts, Fact.more, Oper.deps, Region.binds, List.filter_cons, World.more_drew] at hF
        simp [putFacts, Oper.deps, Region.binds, List.filter_cons, Region.dstOf, Fact.at, Act.put, World.more_drew]
        go_wp2
        exact ⟨by repeat (first | with_reducible exact Grew.refl _ | apply Grew.more | apply Grew.alloc | apply Grew.drew | apply Grew.drewN), rfl, _, _, rfl, rfl, rfl⟩
    apply Seq.of (VerbP nm lt) (VerbP.st nm lt)
    focus
      rintro w1 u ⟨R1, n1, rfl⟩ hF
      simp [moreFacts, Fact.more, Oper.deps, Region.binds, List.filter_cons, World.more_drew] at hF
      simp [putFacts, Oper.deps, Region.binds, List.filter_cons, Region.dstOf, Fact.at, Act.put, World.more_drew]
      obtain ⟨b7, hb7, hc7, hp7⟩ := hF; (have hc8 := hc7 k (by have := HK.out; omega)); clear hc7; rw [HNM.out, HLT.out] at hc8; rw [hb7]
      go_wp2
      exact ⟨by repeat (first | with_reducible exact Grew.refl _ | apply Grew.more | apply Grew.alloc | apply Grew.drew | apply Grew.drewN), rfl, _, _, rfl, rfl, ⟨b7, _, rfl, hc8, hp7⟩⟩
    apply Seq.val
    focus
      rintro w1 u ⟨R1, n1, rfl⟩ hF
      simp [moreFacts, Fact.more, Oper.deps, Region.binds, List.filter_cons, World.more_drew] at hF
      simp [putFacts, Oper.deps, Region.binds, List.filter_cons, Region.dstOf, Fact.at, Act.put, World.more_drew]
      obtain ⟨b7, o7, hb7, ⟨hc7, hd7⟩, hp7⟩ := hF; rw [hb7]
      go_wp2
      exact ⟨by repeat (first | with_reducible exact Grew.refl _ | apply Grew.more | apply Grew.alloc | apply Grew.drew | apply Grew.drewN), rfl, _, _, rfl, rfl, rfl⟩
    apply Seq.new #[.string ⟨#[]⟩, .string ⟨#[]⟩] 47
    focus
      rintro w1 u ⟨R1, n1, rfl⟩ hF
      clear hF
      simp [putFacts, Oper.deps, Region.binds, List.filter_cons, Region.dstOf, Fact.at, Act.put, World.more_drew]
      go_wp2
      exact ⟨by repeat (first | with_reducible exact Grew.refl _ | apply Grew.more | apply Grew.alloc | apply Grew.drew | apply Grew.drewN), rfl, _, _, rfl, rfl, _, rfl, heap_new_at _ _ _ (by simp [go_sem]), by simp [go_sem], by simp [go_sem]⟩
    rintro u w1 ⟨R1, n1, rfl⟩ hF
    simp [moreFacts, apartFacts, Fact.more, Fact.isNew, List.range_succ, IsNew, World.more_drew] at hF
    obtain ⟨⟨b8, e8, -, -⟩, ⟨b7, o7, e7, -, -⟩, b6, e6, h6, s6⟩ := hF
    have g6 : Grew (w.alloc (.cells #[.int .i64 k, .int .i64 a, .int .i64 b, .slice ra recs.length rc, .string ⟨plan.toArray⟩, .slice ka keep.length kc, .int .i64 ct] 27)) ((w.alloc (.cells #[.int .i64 k, .int .i64 a, .int .i64 b, .slice ra recs.length rc, .string ⟨plan.toArray⟩, .slice ka keep.length kc, .int .i64 ct] 27)).more R1 n1) := ⟨_, _, rfl⟩
    simp [putFacts, Region.dstOf, Fact.at, Act.put, List.range_succ, World.more_drew, e6, e7, e8]
    generalize ((w.alloc (.cells #[.int .i64 k, .int .i64 a, .int .i64 b, .slice ra recs.length rc, .string ⟨plan.toArray⟩, .slice ka keep.length kc, .int .i64 ct] 27)).more R1 n1) = wx at *
    have q0 := cell_of (o := 0) h6
    have q1 := cell_of (o := 1) h6
    have q2 := frozen_of (o := 0) h6
    have q3 := frozen_of (o := 1) h6
    simp at q0 q1
    have H6 := Lib.hid h6
    clear h6
    go_wp2_with fail
    go_meet
    refine ⟨b6, rfl, (g6.set (by simpa [go_sem] using s6) _).set (by simpa [go_sem] using s6) _, ?_⟩
    rw [set_self (set_self H6.out)]; rfl
  case rest =>
    obtain ⟨b6, rfl, ⟨R6, N6, rfl⟩, h6⟩ := hcut
    have q0 := cell_of (o := 0) h6
    have q1 := cell_of (o := 1) h6
    simp at q0 q1
    have p6 : Pre b6 ((w.alloc (.cells #[.int .i64 k, .int .i64 a, .int .i64 b, .slice ra recs.length rc, .string ⟨plan.toArray⟩, .slice ka keep.length kc, .int .i64 ct] 27)).more R6 N6) := heap_lt h6
    clear h6
    cases q
    · go_wp2_with (go_at_call 12; refine (HBq.out _ (by repeat (first | with_reducible exact Grew.refl _ | apply Grew.more | apply Grew.alloc | apply Grew.drew | apply Grew.drewN))).mono ?_; rintro e w2 ⟨rfl, R2, n2, rfl⟩)
      go_ret
      exact ⟨by rw [← HRES.out]; rfl, by repeat (first | with_reducible exact Grew.refl _ | apply Grew.more | apply Grew.alloc | apply Grew.drew | apply Grew.drewN)⟩
    · go_wp2_with (go_at_call 12; refine (HBq.out _ (by repeat (first | with_reducible exact Grew.refl _ | apply Grew.more | apply Grew.alloc | apply Grew.drew | apply Grew.drewN))).mono ?_; rintro e w2 ⟨rfl, R2, n2, rfl⟩)
      clear q0 q1 p6
      go_loopg [4] lt.length (fun gg s4 wr => ∃ j : Nat, j ≤ lt.length ∧ lt.length - j ≤ gg ∧ Hid (Grew (w.alloc (.cells #[.int .i64 k, .int .i64 a, .int .i64 b, .slice ra recs.length rc, .string ⟨plan.toArray⟩, .slice ka keep.length kc, .int .i64 ct] 27)) wr) ∧ Hid (wr.heap[(w.heap.size + 1 + R6.size + R2.size + 1)]? = some (.stringIter ⟨lt.toArray⟩ j)) ∧ Hid (OwnAt (w.alloc (.cells #[.int .i64 k, .int .i64 a, .int .i64 b, .slice ra recs.length rc, .string ⟨plan.toArray⟩, .slice ka keep.length kc, .int .i64 ct] 27)).heap.size 9 1 encS wr s4 (nm :: wf (lt.take j))))
      case atStart =>
        refine ⟨0, by omega, by omega, Lib.hid (Grew.alloc (by repeat (first | with_reducible exact Grew.refl _ | apply Grew.more | apply Grew.alloc | apply Grew.drew | apply Grew.drewN)) _), Lib.hid (heap_new_at _ _ _ (by simp [go_sem])), Lib.hid ?_⟩
        rw [HF.out]
        exact OwnAt.grew (OwnAt.fresh (base := (w.alloc (.cells #[.int .i64 k, .int .i64 a, .int .i64 b, .slice ra recs.length rc, .string ⟨plan.toArray⟩, .slice ka keep.length kc, .int .i64 ct] 27)).heap.size) (k := 1) (enc := encS) (l := [nm]) (t := 9) rfl rfl rfl (by simp [maxLen]) encS_len (by simp [go_sem]) (by simp [go_sem]; omega) rfl) ((Grew.refl _).alloc _)
      case round =>
        obtain ⟨j, hj, hgg, HG, HI, HO⟩ := hrel
        have hln : (wf (lt.take j)).length ≤ 2 := by
          rw [HF.out]
          refine Nat.le_trans (List.length_filter_le _ _) ?_
          rw [List.length_map, List.length_take]
          have := HL2.out
          omega
        obtain ⟨R8, N8, rfl⟩ := HG.out
        by_cases hlt : j < lt.length
        · have hc : lt[j] ∈ lt := List.getElem_mem hlt
          have hnx := fun ty => Lib.run_next_ascii_at (P := Tryz.prog) _ (w.heap.size + 1 + R6.size + R2.size + 1) ⟨lt.toArray⟩ j ty HI.out hlt (HAS.out _ hc)
          obtain ⟨R9, N9, e9⟩ := grew_iter HG.out (k := (w.heap.size + 1 + R6.size + R2.size + 1)) (by simp [go_sem]; omega) ⟨lt.toArray⟩ (j + 1)
          have hi9 := Lib.iterAt_heap _ (w.heap.size + 1 + R6.size + R2.size + 1) ⟨lt.toArray⟩ j (j + 1) HI.out
          have ho9 := own_iter (p2 := j + 1) HO.out HI.out
          rw [e9] at hnx hi9 ho9
          have hnx2 : ∀ ty, (Instr.next (.pointer (some ⟨(w.heap.size + 1 + R6.size + R2.size + 1), 0, none⟩)) true ty).run Tryz.prog ((w.alloc (.cells #[.int .i64 k, .int .i64 a, .int .i64 b, .slice ra recs.length rc, .string ⟨plan.toArray⟩, .slice ka keep.length kc, .int .i64 ct] 27)).more R8 N8) = .ok (.tuple #[.bool true, .int .i64 j, .int .i32 (lt[j].toNat : Int)]) ((w.alloc (.cells #[.int .i64 k, .int .i64 a, .int .i64 b, .slice ra recs.length rc, .string ⟨plan.toArray⟩, .slice ka keep.length kc, .int .i64 ct] 27)).more R9 N9) := hnx
          have HI9 := Lib.hid hi9
          have HO9 := Lib.hid ho9
          have HWC := Lib.hid fun W (g : Grew w W) => HWq.out trivial W g _ hc
          have HT : Hid (wf (lt.take (j + 1)) = wf (lt.take j) ++ (if (wl (lt[j].toNat : Int)).isEmpty then [] else [wl (lt[j].toNat : Int)])) := Lib.hid (by
            rw [HF.out, HF.out, List.take_succ_eq_append_getElem hlt, List.map_append, List.filter_append]
            simp only [List.map_cons, List.map_nil, List.filter_cons, List.filter_nil]
            cases (wl (lt[j].toNat : Int)).isEmpty <;> rfl)
          clear hnx hi9 ho9 e9 HG HI HO hc
          generalize (lt[j].toNat : Int) = c at *
          generalize wf (lt.take j) = xs at *
          generalize wl c = x at *
          have hms : lt.length - (j + 1) < lt.length - j := Nat.sub_lt_sub_left hlt (Nat.lt_succ_self j)
          cases x with
          | nil =>
            have HT2 : Hid (wf (lt.take (j + 1)) = xs) := Lib.hid (by rw [HT.out]; simp)
            go_wp2_with (go_at_call 13; refine (HWC.out _ (by repeat (first | with_reducible exact Grew.refl _ | apply Grew.more | apply Grew.alloc | apply Grew.drew | apply Grew.drewN))).mono ?_; rintro e w2 ⟨rfl, R3, n3, rfl⟩)
            go_roundg (lt.length - (j + 1))
            case measure => exact Nat.lt_of_lt_of_le hms hgg
            case rel => exact ⟨j + 1, hlt, Nat.le_refl _, Lib.hid (by repeat (first | with_reducible exact Grew.refl _ | apply Grew.more | apply Grew.alloc | apply Grew.drew | apply Grew.drewN)), Lib.hid (iter_kept (by repeat (first | with_reducible exact Grew.refl _ | apply Grew.more | apply Grew.alloc | apply Grew.drew | apply Grew.drewN)) HI9.out), Lib.hid (by rw [HT2.out]; exact OwnAt.grew HO9.out (by repeat (first | with_reducible exact Grew.refl _ | apply Grew.more | apply Grew.alloc | apply Grew.drew | apply Grew.drewN)))⟩
          | cons x0 xt =>
            have HT2 : Hid (wf (lt.take (j + 1)) = xs ++ [x0 :: xt]) := Lib.hid (by rw [HT.out]; simp)
            go_wp2_with (first
              | (go_at_call 13; refine (HWC.out _ (by repeat (first | with_reducible exact Grew.refl _ | apply Grew.more | apply Grew.alloc | apply Grew.drew | apply Grew.drewN))).mono ?_; rintro e w2 ⟨rfl, R3, n3, rfl⟩)
              | (at_builtin; go_loud (refine wpList_ownK (w0 := (w.alloc (.cells #[.int .i64 k, .int .i64 a, .int .i64 b, .slice ra recs.length rc, .string ⟨plan.toArray⟩, .slice ka keep.length kc, .int .i64 ct] 27))) rfl (.tmp 40) (.tmp 42) 50 _ _ _ _ [x0 :: xt] rfl Tryz.underlying50 infoStr rfl (by decide) encS_len encS_one rfl (OwnAt.grew HO9.out (by repeat (first | with_reducible exact Grew.refl _ | apply Grew.more | apply Grew.alloc | apply Grew.drew | apply Grew.drewN))) (by repeat (first | with_reducible exact Grew.refl _ | apply Grew.more | apply Grew.alloc | apply Grew.drew | apply Grew.drewN)) rfl (str_at _ _ _ _ _ rfl rfl (by simp [go_sem])) (by simp; omega) (by decide) (by simp) ?_); intro v7 W7 hA; (have HI7 := Lib.hid (iter_app (OwnAt.grew HO9.out (by repeat (first | with_reducible exact Grew.refl _ | apply Grew.more | apply Grew.alloc | apply Grew.drew | apply Grew.drewN))) hA (iter_kept (by repeat (first | with_reducible exact Grew.refl _ | apply Grew.more | apply Grew.alloc | apply Grew.drew | apply Grew.drewN)) HI9.out))); (have HA7 := Lib.hid hA); clear hA))
            go_roundg (lt.length - (j + 1))
            case measure => exact Nat.lt_of_lt_of_le hms hgg
            case rel => exact ⟨j + 1, hlt, Nat.le_refl _, Lib.hid HA7.out.1, Lib.hid HI7.out, Lib.hid (by rw [HT2.out]; exact HA7.out.2.1)⟩
        · obtain rfl : j = lt.length := by omega
          have hnx : ∀ ty, (Instr.next (.pointer (some ⟨(w.heap.size + 1 + R6.size + R2.size + 1), 0, none⟩)) true ty).run Tryz.prog ((w.alloc (.cells #[.int .i64 k, .int .i64 a, .int .i64 b, .slice ra recs.length rc, .string ⟨plan.toArray⟩, .slice ka keep.length kc, .int .i64 ct] 27)).more R8 N8) = .ok (.tuple #[.bool false]) ((w.alloc (.cells #[.int .i64 k, .int .i64 a, .int .i64 b, .slice ra recs.length rc, .string ⟨plan.toArray⟩, .slice ka keep.length kc, .int .i64 ct] 27)).more R8 N8) := fun ty => Lib.run_next_end_at (P := Tryz.prog) _ (w.heap.size + 1 + R6.size + R2.size + 1) ⟨lt.toArray⟩ lt.length ty HI.out (Nat.lt_irrefl _)
          have ho := HO.out
          rw [List.take_length] at ho hln
          have HO2 := Lib.hid ho
          have hlm : (nm :: wf lt).length ≤ 1000 := by rw [List.length_cons]; omega
          clear ho HO HI HG
          go_wp2_with (go_at_call 14; refine (join_any _ (nm :: wf lt) [32] _ _ (HO2.out.grew (by repeat (first | with_reducible exact Grew.refl _ | apply Grew.more | apply Grew.alloc | apply Grew.drew | apply Grew.drewN))) hlm (HJ.out trivial)).mono ?_; rintro e w1 ⟨rfl, R3, n3, rfl⟩)
          go_ret
          exact ⟨by rw [← HRES.out]; rfl, by repeat (first | with_reducible exact Grew.refl _ | apply Grew.more | apply Grew.alloc | apply Grew.drew | apply Grew.drewN)⟩
end Go.Proofs.YtmnllmbchpebbaaGreatDoor

/-! lines: right records, and which letters the verbs have, in plain words. -/
namespace Go.Proofs.YtmnllmbchpebbaaGreatDoor
set_option linter.unusedSimpArgs false
set_option linter.unusedVariables false
open Go.RowKit Ga
set_option maxRecDepth 100000

theorem okRq_iff (r : Rq) : okRq r = true ↔ Li.okRec r := by
  obtain ⟨k, x, y⟩ := r
  unfold okRq thereB rightV Li.okRec
  simp only [Bool.and_eq_true, decide_eq_true_eq]
  have hx := into_range x
  have hy := into_range y
  constructor
  · rintro ⟨⟨⟨-, h1⟩, h2⟩, h3, h4⟩
    exact ⟨⟨by omega, by omega⟩, ⟨by omega, by omega⟩, ⟨by omega, by omega⟩⟩
  · rintro ⟨h1, h2, h3⟩
    have e1 := into_id h2
    have e2 := into_id h3
    refine ⟨⟨⟨⟨by omega, by omega⟩, by omega⟩, by omega⟩, by omega, by omega⟩
theorem allRq_iff (l : List Rq) : l.all okRq = true ↔ ∀ r ∈ l, Li.okRec r := by
  rw [List.all_eq_true]
  exact ⟨fun h r hr => (okRq_iff r).1 (h r hr), fun h r hr => (okRq_iff r).2 (h r hr)⟩
theorem has_k {k : Nat} (h : 1 ≤ k ∧ k ≤ 13) : hasB (lettersN k) 65 = decide (Li.hasA1 (k : Int) ∨ (k : Int) = 8) ∧ hasB (lettersN k) 66 = decide ((k : Int) = 8) ∧ hasB (lettersN k) 67 = decide ((k : Int) = 11) ∧ hasB (lettersN k) 82 = decide ((k : Int) = 1) ∧ hasB (lettersN k) 80 = decide ((k : Int) = 2) := by
  rcases (show k = 1 ∨ k = 2 ∨ k = 3 ∨ k = 4 ∨ k = 5 ∨ k = 6 ∨ k = 7 ∨ k = 8 ∨ k = 9 ∨ k = 10 ∨ k = 11 ∨ k = 12 ∨ k = 13 by omega) with rfl | rfl | rfl | rfl | rfl | rfl | rfl | rfl | rfl | rfl | rfl | rfl | rfl <;> decide +kernel
theorem has_mem {k : Nat} (h : 1 ≤ k ∧ k ≤ 13) : (hasB (lettersN k) 65, hasB (lettersN k) 66, hasB (lettersN k) 67, hasB (lettersN k) 82, hasB (lettersN k) 80) ∈ [(false, false, false, true, false), (false, false, false, false, true), (false, false, false, false, false), (true, false, false, false, false), (true, true, false, false, false), (false, false, true, false, false)] := by
  rcases (show k = 1 ∨ k = 2 ∨ k = 3 ∨ k = 4 ∨ k = 5 ∨ k = 6 ∨ k = 7 ∨ k = 8 ∨ k = 9 ∨ k = 10 ∨ k = 11 ∨ k = 12 ∨ k = 13 by omega) with rfl | rfl | rfl | rfl | rfl | rfl | rfl | rfl | rfl | rfl | rfl | rfl | rfl <;> decide +kernel
theorem letters_ok {k : Nat} (h : 1 ≤ k ∧ k ≤ 13) : (lettersN k).length ≤ 2 ∧ ∀ c ∈ lettersN k, c.toNat < 128 ∧ (c.toNat = 65 ∨ c.toNat = 66 ∨ c.toNat = 82 ∨ c.toNat = 80 ∨ c.toNat = 75 ∨ c.toNat = 67) := by
  rcases (show k = 1 ∨ k = 2 ∨ k = 3 ∨ k = 4 ∨ k = 5 ∨ k = 6 ∨ k = 7 ∨ k = 8 ∨ k = 9 ∨ k = 10 ∨ k = 11 ∨ k = 12 ∨ k = 13 by omega) with rfl | rfl | rfl | rfl | rfl | rfl | rfl | rfl | rfl | rfl | rfl | rfl | rfl <;> decide +kernel
end Go.Proofs.YtmnllmbchpebbaaGreatDoor

/-! Events and crashes' plans as arguments. -/
namespace Go.Proofs.YtmnllmbchpebbaaGreatDoor
set_option linter.unusedSimpArgs false
set_option maxRecDepth 100000
set_option linter.unusedVariables false
open Go.RowKit Ga Go.ChangeShapes Go.WideShapes

theorem cells_valE : Tryz.prog.cellsOf 60 = 2 := by kernel_rfl
theorem cells_recE : Tryz.prog.cellsOf 62 = 3 := by kernel_rfl
theorem cells_planE : Tryz.prog.cellsOf 25 = 2 := by kernel_rfl
theorem cells_evE : Tryz.prog.cellsOf 27 = 7 := by kernel_rfl
theorem cells_slRec : Tryz.prog.cellsOf 22 = 1 := by kernel_rfl
theorem cells_slBool : Tryz.prog.cellsOf 23 = 1 := by kernel_rfl
theorem cells_strE : Tryz.prog.cellsOf 9 = 1 := by kernel_rfl
theorem opens_valE : Opens Tryz.prog 60 (fun _ cs (a : Ga.Val) => cs = [Value.int .i64 a.1, Value.int .i64 a.2] ∧ True) := by
  intro H enc w fuel cs x hx
  obtain ⟨hl, hf⟩ := Opens.fields Tryz.underlying60 hx
  rw [cells_valE] at hl
  match cs, hl with
  | [c0, c1], _ =>
    obtain ⟨n0, y0, h0⟩ := hf 0 _ rfl
    obtain ⟨n1, y1, h1⟩ := hf 1 _ rfl
    have h0' : DataW.trod enc Tryz.prog w 0 (fun _ => true) true n0 3 (([c0, c1].drop 0).take (Tryz.prog.cellsOf 3)) = some y0 := h0
    rw [cells_int1] at h0'
    have h1' : DataW.trod enc Tryz.prog w 0 (fun _ => true) true n1 3 (([c0, c1].drop 1).take (Tryz.prog.cellsOf 3)) = some y1 := h1
    rw [cells_int1] at h1'
    obtain ⟨i0, e0, -⟩ := opens_int1 H enc w n0 _ _ h0'
    obtain ⟨i1, e1, -⟩ := opens_int1 H enc w n1 _ _ h1'
    simp at e0 e1
    subst e0 e1
    exact ⟨(i0, i1), rfl, trivial⟩
theorem opens_recE : Opens Tryz.prog 62 (fun _ cs (x : Rq) => cs = encRq x ∧ True) := by
  intro H enc w fuel cs x hx
  obtain ⟨hl, hf⟩ := Opens.fields Tryz.underlying62 hx
  rw [cells_recE] at hl
  match cs, hl with
  | [c0, c1, c2], _ =>
    obtain ⟨n0, y0, h0⟩ := hf 0 _ rfl
    obtain ⟨n1, y1, h1⟩ := hf 1 _ rfl
    have h0' : DataW.trod enc Tryz.prog w 0 (fun _ => true) true n0 3 (([c0, c1, c2].drop 0).take (Tryz.prog.cellsOf 3)) = some y0 := h0
    rw [cells_int1] at h0'
    have h1' : DataW.trod enc Tryz.prog w 0 (fun _ => true) true n1 60 (([c0, c1, c2].drop 1).take (Tryz.prog.cellsOf 60)) = some y1 := h1
    rw [cells_valE] at h1'
    obtain ⟨i0, e0, -⟩ := opens_int1 H enc w n0 _ _ h0'
    obtain ⟨a, e1, -⟩ := opens_valE H enc w n1 _ _ h1'
    simp at e0 e1
    obtain ⟨p0, p1⟩ := e1
    subst e0 p0 p1
    exact ⟨(i0, a), rfl, trivial⟩
theorem opens_planE : Opens Tryz.prog 25 (fun w cs (x : Value × List Bool × Int) => cs = [x.1, Value.int .i64 x.2.2] ∧ BoolsAt w x.1 x.2.1) := by
  intro H enc w fuel cs x hx
  obtain ⟨hl, hf⟩ := Opens.fields Tryz.underlying25 hx
  rw [cells_planE] at hl
  match cs, hl with
  | [c0, c1], _ =>
    obtain ⟨n0, y0, h0⟩ := hf 0 _ rfl
    obtain ⟨n1, y1, h1⟩ := hf 1 _ rfl
    have h0' : DataW.trod enc Tryz.prog w 0 (fun _ => true) true n0 23 (([c0, c1].drop 0).take (Tryz.prog.cellsOf 23)) = some y0 := h0
    rw [cells_slBool] at h0'
    have h1' : DataW.trod enc Tryz.prog w 0 (fun _ => true) true n1 3 (([c0, c1].drop 1).take (Tryz.prog.cellsOf 3)) = some y1 := h1
    rw [cells_int1] at h1'
    obtain ⟨l0, v0, e0, s0⟩ := Opens.slice Tryz.underlying23 cells_bool1 (by decide) opens_bool1 H enc w n0 _ _ h0'
    obtain ⟨i1, e1, -⟩ := opens_int1 H enc w n1 _ _ h1'
    have r0 := (SlAt.rowsC (enc := encBo) s0).1
    simp at e0 e1
    subst e0 e1
    exact ⟨(c0, l0, i1), rfl, r0⟩
theorem opens_evE : Opens Tryz.prog 27 (fun w cs (x : Value × Value × Li.Ev) => cs = [.int .i64 x.2.2.kind, .int .i64 x.2.2.a, .int .i64 x.2.2.b, x.1, .string ⟨x.2.2.plan.toArray⟩, x.2.1, .int .i64 x.2.2.cut] ∧ EvIs w x.2.2 x.1 x.2.1) := by
  intro H enc w fuel cs x hx
  obtain ⟨hl, hf⟩ := Opens.fields Tryz.underlying27 hx
  rw [cells_evE] at hl
  match cs, hl with
  | [c0, c1, c2, c3, c4, c5, c6], _ =>
    obtain ⟨n0, y0, h0⟩ := hf 0 _ rfl
    obtain ⟨n1, y1, h1⟩ := hf 1 _ rfl
    obtain ⟨n2, y2, h2⟩ := hf 2 _ rfl
    obtain ⟨n3, y3, h3⟩ := hf 3 _ rfl
    obtain ⟨n4, y4, h4⟩ := hf 4 _ rfl
    obtain ⟨n5, y5, h5⟩ := hf 5 _ rfl
    have h0' : DataW.trod enc Tryz.prog w 0 (fun _ => true) true n0 3 (([c0, c1, c2, c3, c4, c5, c6].drop 0).take (Tryz.prog.cellsOf 3)) = some y0 := h0
    rw [cells_int1] at h0'
    have h1' : DataW.trod enc Tryz.prog w 0 (fun _ => true) true n1 3 (([c0, c1, c2, c3, c4, c5, c6].drop 1).take (Tryz.prog.cellsOf 3)) = some y1 := h1
    rw [cells_int1] at h1'
    have h2' : DataW.trod enc Tryz.prog w 0 (fun _ => true) true n2 3 (([c0, c1, c2, c3, c4, c5, c6].drop 2).take (Tryz.prog.cellsOf 3)) = some y2 := h2
    rw [cells_int1] at h2'
    have h3' : DataW.trod enc Tryz.prog w 0 (fun _ => true) true n3 22 (([c0, c1, c2, c3, c4, c5, c6].drop 3).take (Tryz.prog.cellsOf 22)) = some y3 := h3
    rw [cells_slRec] at h3'
    have h4' : DataW.trod enc Tryz.prog w 0 (fun _ => true) true n4 9 (([c0, c1, c2, c3, c4, c5, c6].drop 4).take (Tryz.prog.cellsOf 9)) = some y4 := h4
    rw [cells_strE] at h4'
    have h5' : DataW.trod enc Tryz.prog w 0 (fun _ => true) true n5 25 (([c0, c1, c2, c3, c4, c5, c6].drop 5).take (Tryz.prog.cellsOf 25)) = some y5 := h5
    rw [cells_planE] at h5'
    obtain ⟨i0, e0, -⟩ := opens_int1 H enc w n0 _ _ h0'
    obtain ⟨i1, e1, -⟩ := opens_int1 H enc w n1 _ _ h1'
    obtain ⟨i2, e2, -⟩ := opens_int1 H enc w n2 _ _ h2'
    obtain ⟨l3, v3, e3, s3⟩ := Opens.slice Tryz.underlying22 cells_recE (by decide) opens_recE H enc w n3 _ _ h3'
    obtain ⟨s4, e4, -⟩ := Opens.string Tryz.underlying9 H enc w n4 _ _ h4'
    obtain ⟨⟨v5, l5, i6⟩, e5, r5⟩ := opens_planE H enc w n5 _ _ h5'
    have r3 := (SlAt.rowsC (enc := encRq) s3).1
    obtain ⟨⟨s4⟩⟩ := s4
    simp at e0 e1 e2 e3 e4 e5
    obtain ⟨p0, p1⟩ := e5
    subst e0 e1 e2 e3 e4 p0 p1
    exact ⟨(c3, c5, ⟨i0, i1, i2, l3, s4, l5, i6⟩), rfl, ⟨r3, r5⟩⟩
theorem arg_ev {H : Type} {enc : TypeId × Value → H} {w : World} {v : Value} {d : DataW H} {ps : List MemPlace} {r : Reach} {b : Nat} (ho : Value.okWide Tryz.prog w r b 27 v) (h : DataW.Trod enc Tryz.prog w 0 (fun _ => true) true 27 v d ps) : ∃ (x : Li.Ev) (rv kv : Value), v = evV x rv kv ∧ EvIs w x rv kv := by
  obtain ⟨⟨rv, kv, x⟩, h1, h2⟩ := opens_evE.arg h
  exact ⟨x, rv, kv, cells_agg Tryz.underlying27 ho h1, h2⟩
end Go.Proofs.YtmnllmbchpebbaaGreatDoor

/-! What the listed variables of layer 27 give the readers of events. -/
namespace Go.Proofs.YtmnllmbchpebbaaGreatDoor
set_option linter.unusedSimpArgs false
set_option linter.unusedVariables false
open Go.RowKit Go.Lib
set_option maxRecDepth 100000

theorem envEv_of {W : World} (h : laidMet Tryz.prog Rows.linesEventsRow.laid W) (hs : W.ShapedOpen Tryz.prog) : EnvEv W :=
  ⟨env27_of h hs, utf8_of h (.tail _ (.tail _ (.tail _ (.tail _ (.tail _ (.tail _ (.tail _ (.tail _ (.head _))))))))) (.tail _ (.tail _ (.tail _ (.head _))))⟩
end Go.Proofs.YtmnllmbchpebbaaGreatDoor
