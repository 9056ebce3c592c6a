import Derived.Test.YtlgbipfpnfphjaaGreatDoorGb35
import Derived.Test.YtlgbipfpnfphjaaGreatDoorGb37
import Derived.Test.YtlgbipfpnfphjaaGreatDoorGb38
import Derived.Test.YtlgbipfpnfphjaaGreatDoorGb14
import Derived.Test.YtlgbipfpnfphjaaGreatDoorGb34
import Derived.Test.YtlgbipfpnfphjaaGreatDoorGb9
/-! lines: parseStep, ParsePlan. -/
namespace Go.Proofs.YtlgbipfpnfphjaaGreatDoor
set_option linter.unusedSimpArgs false
set_option linter.unusedVariables false
open Go.RowKit Ga
set_option maxRecDepth 100000

theorem parseStep_any (s : List UInt8) (hs : s.length ≤ 100000) (w : World) (hV : Env27 w) : Calls Tryz.prog 36 #[.string ⟨s.toArray⟩] w (StGives (Li.stepP s) w) := by
  have H := step_head s hs w hV
  unfold Li.stepP
  generalize (Lib.cut s [32]).1 = v at *
  generalize (Lib.cut s [32]).2.1 = r at *
  generalize Li.wordsP r = wp at *
  obtain ⟨ws, p⟩ := wp
  simp only at H ⊢
  unfold Li.stepQ
  simp only
  by_cases h1 : v = Li.sSWAP
  · subst h1
    by_cases hl : ws.length = 2
    · match ws, hl with
      | [a, bb], _ =>
        rw [if_pos (by simp)]
        exact pstep_swap s w r a bb p H
    · rw [if_neg (fun q => hl q.2), if_neg (by decide), if_neg (by decide), if_neg (fun q => absurd q.1 (by decide)), if_neg (fun q => absurd q.1 (by decide))]
      exact pstep_swapN s w r ws p H hl
  rw [if_neg (fun q => h1 q.1)]
  by_cases h2 : v = Li.sADD
  · subst h2
    rw [if_pos rfl]
    exact pstep_add s w r ws p H
  rw [if_neg h2]
  by_cases h3 : v = Li.sREMOVE
  · subst h3
    rw [if_pos rfl]
    exact pstep_remove s w r ws p H
  rw [if_neg h3]
  by_cases h4 : v = Li.sROUTE
  · subst h4
    by_cases hl : ws.length = 3
    · match ws, hl with
      | [a, bb, cc], _ =>
        rw [if_pos (by simp)]
        exact pstep_route s w r a bb cc p H
    · rw [if_neg (fun q => hl q.2), if_neg (fun q => absurd q.1 (by decide))]
      exact pstep_routeN s w r ws p H hl
  rw [if_neg (fun q => h4 q.1)]
  by_cases h5 : v = Li.sLINK
  · subst h5
    by_cases hl : ws.length = 2
    · match ws, hl with
      | [a, bb], _ =>
        rw [if_pos (by simp)]
        exact pstep_link s w r a bb p H
    · rw [if_neg (fun q => hl q.2)]
      exact pstep_linkN s w r ws p H hl
  rw [if_neg (fun q => h5 q.1)]
  exact pstep_other s w v r ws p H h1 h2 h3 h4 h5
theorem steps_app {w1 W3 W' : World} {base : Nat} {v v' : Value} {lc : List StC} {c : StC} {l : List Gr.Stp} {y : Gr.Stp} (ho : StepsOwn w1.heap.size W3 v lc) (hn : StepsIn base W3 lc l) (h9 : StepIs W3 c y) (o9 : OwnsNd base W3 c.c y.nd) (hA : Appended w1 51 15 encSt W3 v (lc ++ [c]) v' W') : StepsIn base W' (lc ++ [c]) (l ++ [y]) := by
  have hk : ∀ c n, OwnsNd base W3 c n → OwnsNd base W' c n := fun c n o => o.to3 fun q cs t hq _ hne => hA.2.2.2.1 q (heap_lt hq) (OwnAt.other ho hq hne)
  have h5 : OwnsNd base W' c.c y.nd := hk _ _ o9
  exact Rel.snoc (hn.map hk) ⟨h9.of h5, h5⟩
theorem parseP_ok {s : List UInt8} (h1 : s ≠ []) (h2 : Li.planT (Li.stepsP s) = s) : Li.parseP s = (Li.stepsP s, 0) := by unfold Li.parseP; exact if_pos ⟨h1, h2⟩
theorem parseP_no1 {s : List UInt8} (h1 : s = []) : Li.parseP s = ([], 4) := by unfold Li.parseP; exact if_neg (fun q => q.1 h1)
theorem parseP_no2 {s : List UInt8} (h2 : Li.planT (Li.stepsP s) ≠ s) : Li.parseP s = ([], 4) := by unfold Li.parseP; exact if_neg (fun q => h2 q.2)
set_option maxHeartbeats 16000000 in
theorem parsePlan_any (s : List UInt8) (hs : s.length ≤ 100000) (w : World) (hV : Env27 w) : Calls Tryz.prog 14 #[.string ⟨s.toArray⟩] w (fun e w' => ∃ v, e = .returned (.tuple #[v, .int .i64 (Li.parseP s).2]) ∧ StepsAt w' v (Li.parseP s).1 ∧ Grew w w') := by
  have HS := Lib.hid fun W (q : Grew w W) => split_any s Li.between (by omega) (by decide) W (hV.m.grew q)
  obtain ⟨hl1, hl2⟩ := split_len s Li.between (by decide)
  have HSUB := Lib.hid (split_sub s Li.between)
  have HV := Lib.hid hV
  have HQ := Lib.hid (show Li.stepsP s = (Lib.split s Li.between).map Li.stepP from rfl)
  clear hV
  have hxs : Lib.split s Li.between ≠ [] := by intro e; rw [e] at hl1; simp at hl1
  generalize Lib.split s Li.between = xs at *
  have HXS := Lib.hid hxs
  clear hxs
  go_enter Tryz.func14, Tryz.ntmps14
  go_wp2_with (go_at_call 35; refine (HS.out _ (by repeat (first | with_reducible exact Grew.refl _ | apply Grew.more | apply Grew.alloc | apply Grew.drew | apply Grew.drewN))).mono ?_; rintro e w1 ⟨v1, rfl, hv1, R1, n1, rfl⟩; obtain ⟨bs, cs, rfl, hbs, hcs⟩ := strs_open hv1 HXS.out; (have HCS := Lib.hid hcs); clear hv1 hcs)
  have hgw : Hid (Grew w (w.more R1 n1)) := Lib.hid (by repeat (first | with_reducible exact Grew.refl _ | apply Grew.more | apply Grew.alloc | apply Grew.drew | apply Grew.drewN))
  generalize w.more R1 n1 = w1 at *
  go_loopg [4, 10] xs.length (fun gg s4 s10 wr => ∃ (k : Nat) (lc : List StC), k ≤ xs.length ∧ xs.length - k ≤ gg ∧ s10 = .int .i64 k ∧ lc.length = k ∧ Hid (Grew w1 wr) ∧ Hid (StepsOwn w1.heap.size wr s4 lc) ∧ Hid (StepsIn w1.heap.size wr lc ((xs.take k).map Li.stepP)))
  case atStart => exact ⟨0, [], by omega, by omega, rfl, rfl, Lib.hid (Grew.refl _), Lib.hid (OwnAt.nil _), Lib.hid trivial⟩
  case round =>
    obtain ⟨k, lc, hk, hgg, rfl, hlc, HG, HO, HI⟩ := hrel
    rename World => wa
    by_cases hlt : k < xs.length
    · have s0 := cell_grew (HCS.out k hlt) HG.out
      have p0 := Pre.ofCell s0
      have hsl := HSUB.out _ (List.getElem_mem hlt)
      have HT := Lib.hid (map_take_snoc Li.stepP xs k hlt)
      generalize xs[k] = x at *
      have HPS := Lib.hid fun W (q : Grew w W) => parseStep_any x (by omega) W (HV.out.grew q)
      generalize Li.stepP x = y at *
      generalize (xs.take k).map Li.stepP = ys at *
      go_wp2_with (first
        | (go_at_call 36; refine (HPS.out _ ((hgw.out.trans HG.out).trans (by repeat (first | with_reducible exact Grew.refl _ | apply Grew.more | apply Grew.alloc | apply Grew.drew | apply Grew.drewN)))).mono ?_; rintro e w2 ⟨c, rfl, h9, o9, R2, n2, rfl⟩; (have H9 := Lib.hid h9); (have O9 := Lib.hid o9); clear h9 o9)
        | (at_builtin; go_loud (refine wpList_ownK (w0 := w1) rfl (.tmp 14) (.tmp 17) 35 _ _ _ _ [c] rfl Tryz.underlying35 infoStep rfl (by decide) encSt_len encSt_one rfl (OwnAt.grew HO.out (by repeat (first | with_reducible exact Grew.refl _ | apply Grew.more | apply Grew.alloc | apply Grew.drew | apply Grew.drewN))) (HG.out.trans (by repeat (first | with_reducible exact Grew.refl _ | apply Grew.more | apply Grew.alloc | apply Grew.drew | apply Grew.drewN))) rfl (st_at _ _ _ _ rfl (by simp [go_sem])) (by simp; omega) (by decide) (by simp) ?_); intro v7 W7 hA; (have HA7 := Lib.hid hA); clear hA))
      go_roundg (xs.length - (k + 1))
      case measure => omega
      case rel =>
        refine ⟨k + 1, lc ++ [c], by omega, by omega, by go_num, by simp [hlc], Lib.hid HA7.out.1, Lib.hid HA7.out.2.1, Lib.hid ?_⟩
        rw [HT.out]
        exact steps_app (OwnAt.grew HO.out (by repeat (first | with_reducible exact Grew.refl _ | apply Grew.more | apply Grew.alloc | apply Grew.drew | apply Grew.drewN))) (HI.out.grew (by repeat (first | with_reducible exact Grew.refl _ | apply Grew.more | apply Grew.alloc | apply Grew.drew | apply Grew.drewN))) (H9.out.grew (by repeat (first | with_reducible exact Grew.refl _ | apply Grew.more | apply Grew.alloc | apply Grew.drew | apply Grew.drewN))) ((O9.out.low HG.out.below.size).grew (by repeat (first | with_reducible exact Grew.refl _ | apply Grew.more | apply Grew.alloc | apply Grew.drew | apply Grew.drewN))) HA7.out
    · obtain rfl : k = xs.length := by omega
      have hi := HI.out
      rw [List.take_length, ← HQ.out] at hi
      have hst := hi.at HO.out
      have HST := Lib.hid hst
      obtain ⟨av, cv, hv9⟩ := (OwnAt.rows HO.out encSt_len).len
      subst hv9
      have HLP := Lib.hid fun W (q : Grew w W) v (h : StepsAt W v (Li.stepsP s)) => linesPlan_any v (Li.stepsP s) W (HV.out.p.grew q) (HV.out.a.grew q) h
      clear hi hst HI HSUB hlc
      by_cases hse : s = []
      · have hP := parseP_no1 hse
        have HP := Lib.hid hP
        have heb : s.isEmpty = true := by rw [hse]; rfl
        clear hP hse
        go_wp2
        go_ret2
        exact ⟨_, by rw [HP.out]; rfl, by rw [HP.out]; exact StepsAt.nil _, (hgw.out.trans HG.out).trans (by repeat (first | with_reducible exact Grew.refl _ | apply Grew.more | apply Grew.alloc | apply Grew.drew | apply Grew.drewN))⟩
      · have heb : s.isEmpty = false := by simpa using hse
        by_cases hq : Li.planT (Li.stepsP s) = s
        · have HP := Lib.hid (parseP_ok hse hq)
          rw [hq] at HLP
          clear hse hq
          go_wp2_with (go_at_call 11; refine (HLP.out _ ((hgw.out.trans HG.out).trans (by repeat (first | with_reducible exact Grew.refl _ | apply Grew.more | apply Grew.alloc | apply Grew.drew | apply Grew.drewN))) _ (HST.out.grew (by repeat (first | with_reducible exact Grew.refl _ | apply Grew.more | apply Grew.alloc | apply Grew.drew | apply Grew.drewN)))).mono ?_; rintro e w2 ⟨rfl, R3, n3, rfl⟩)
          go_ret2
          exact ⟨_, by rw [HP.out]; rfl, by rw [HP.out]; exact HST.out.grew (by repeat (first | with_reducible exact Grew.refl _ | apply Grew.more | apply Grew.alloc | apply Grew.drew | apply Grew.drewN)), (hgw.out.trans HG.out).trans (by repeat (first | with_reducible exact Grew.refl _ | apply Grew.more | apply Grew.alloc | apply Grew.drew | apply Grew.drewN))⟩
        · have HP := Lib.hid (parseP_no2 hq)
          have hqb : (Li.planT (Li.stepsP s) == s) = false := beq_eq_false_iff_ne.2 hq
          clear hse hq
          generalize Li.planT (Li.stepsP s) = pt at *
          go_wp2_with (go_at_call 11; refine (HLP.out _ ((hgw.out.trans HG.out).trans (by repeat (first | with_reducible exact Grew.refl _ | apply Grew.more | apply Grew.alloc | apply Grew.drew | apply Grew.drewN))) _ (HST.out.grew (by repeat (first | with_reducible exact Grew.refl _ | apply Grew.more | apply Grew.alloc | apply Grew.drew | apply Grew.drewN)))).mono ?_; rintro e w2 ⟨rfl, R3, n3, rfl⟩)
          go_ret2
          exact ⟨_, by rw [HP.out]; rfl, by rw [HP.out]; exact StepsAt.nil _, (hgw.out.trans HG.out).trans (by repeat (first | with_reducible exact Grew.refl _ | apply Grew.more | apply Grew.alloc | apply Grew.drew | apply Grew.drewN))⟩
end Go.Proofs.YtlgbipfpnfphjaaGreatDoor

/-! lines: words of records, truths, plans. -/
namespace Go.Proofs.YtlgbipfpnfphjaaGreatDoor
set_option linter.unusedSimpArgs false
set_option linter.unusedVariables false
open Go.RowKit Ga
set_option maxRecDepth 100000

def encBo (b : Bool) : List Value := [.bool b]
theorem encBo_len (b : Bool) : (encBo b).length = 1 := rfl
theorem encBo_one (b : Bool) : ∀ u ∈ encBo b, u.oneCell' = true := by intro u hu; simp [encBo] at hu; subst hu; rfl
theorem infoBo : (Tryz.prog.info? 4).map (fun i => (i.zero, i.size, i.bytes)) = some (some (.bool false), 1, 1) := by kernel_rfl
theorem bo_at (W : World) (x : Bool) (t : TypeId) (b : Nat) {c : Array Value} (hc : c = (encBo x).toArray) (hb : b = W.heap.size) : ∀ j u, (([x] : List Bool).flatMap encBo)[j]? = some u → (W.alloc (.cells c t)).cell? ⟨b, j, none⟩ = some u := by
  subst hc
  intro j u hu
  rw [new_cells W _ t b hb j]
  simpa using hu
abbrev BoolsAt (w : World) (v : Value) (l : List Bool) : Prop := RowsAt 1 encBo w v l
theorem bools_open {w : World} {v : Value} {l : List Bool} (h : BoolsAt w v l) : ∃ a cap, v = .slice a l.length cap ∧ l.length ≤ 9223372036854775807 ∧ ∀ i (hi : i < l.length), ∃ b off, a = some ⟨b, off, none⟩ ∧ Pre b w ∧ w.cell? ⟨b, off + i, none⟩ = some (.bool l[i]) := by
  obtain ⟨a, cap, rfl, hm, hl⟩ := h
  refine ⟨a, cap, rfl, by unfold maxLen at hm; omega, fun i hi => ?_⟩
  obtain ⟨b, off, rfl, hx⟩ := hl (by intro e; subst e; simp at hi)
  have h0 := hx i l[i] (List.getElem?_eq_getElem hi) 0 _ rfl
  rw [Nat.mul_one, Nat.add_zero] at h0
  exact ⟨b, off, rfl, Pre.mk (World.block_lt_of_cell? w _ h0), h0⟩
abbrev Rq := Int × Int × Int
def encRq (r : Rq) : List Value := [.int .i64 r.1, .int .i64 r.2.1, .int .i64 r.2.2]
theorem encRq_len (r : Rq) : (encRq r).length = 3 := rfl
theorem encRq_one (r : Rq) : ∀ u ∈ encRq r, u.oneCell' = true := by intro u hu; simp [encRq] at hu; rcases hu with rfl | rfl | rfl <;> rfl
theorem infoRq : (Tryz.prog.info? 67).map (fun i => (i.zero, i.size, i.bytes)) = some (some (.agg #[.int .i64 0, .int .i64 0, .int .i64 0]), 3, 24) := by kernel_rfl
abbrev RqAt (w : World) (v : Value) (l : List Rq) : Prop := RowsAt 3 encRq w v l
theorem rq_open {w : World} {v : Value} {l : List Rq} (h : RqAt w v l) : ∃ a cap, v = .slice a l.length cap ∧ l.length ≤ 9223372036854775807 ∧ ∀ i (hi : i < l.length), ∃ b off, a = some ⟨b, off, none⟩ ∧ Pre b w ∧ w.cell? ⟨b, off + i * 3, none⟩ = some (.int .i64 l[i].1) ∧ w.cell? ⟨b, off + i * 3 + 1, none⟩ = some (.int .i64 l[i].2.1) ∧ w.cell? ⟨b, off + i * 3 + 2, none⟩ = some (.int .i64 l[i].2.2) := by
  obtain ⟨a, cap, rfl, hm, hl⟩ := h
  refine ⟨a, cap, rfl, by unfold maxLen at hm; omega, fun i hi => ?_⟩
  obtain ⟨b, off, rfl, hx⟩ := hl (by intro e; subst e; simp at hi)
  have hj := fun j u => hx i l[i] (List.getElem?_eq_getElem hi) j u
  have h0 := hj 0 _ rfl
  exact ⟨b, off, rfl, Pre.mk (World.block_lt_of_cell? w _ h0), h0, hj 1 _ rfl, hj 2 _ rfl⟩
set_option maxHeartbeats 8000000 in
theorem bits_any (v : Value) (l : List Bool) (w : World) (hv : BoolsAt w v l) (hl : l.length ≤ 1000) : Calls Tryz.prog 46 #[v] w (Gives (str (Li.bitsT l)) w) := by
  by_cases hn : l = []
  · subst hn
    obtain ⟨a, cap, rfl, -, -⟩ := bools_open hv
    clear hv hl
    show Calls Tryz.prog _ #[.slice a 0 cap] w _
    go_enter Tryz.func46, Tryz.ntmps46
    go_wp2
    go_ret
    exact ⟨rfl, by repeat (first | with_reducible exact Grew.refl _ | apply Grew.more | apply Grew.alloc | apply Grew.drew | apply Grew.drewN)⟩
  have hT : Li.bitsT l = l.map Li.bitB := by unfold Li.bitsT; exact if_neg hn
  rw [hT]
  have HV := Lib.hid hv
  have hpos : 0 < l.length := List.length_pos_iff.2 hn
  have hzb : ((l.length : Int) == 0) = false := by rw [beq_eq_false_iff_ne]; omega
  obtain ⟨a, cap, rfl, -, -⟩ := bools_open hv
  clear hv hT hn
  go_enter Tryz.func46, Tryz.ntmps46
  go_wp2
  go_loopg [3, 12] l.length (fun gg s3 s12 wr => ∃ k : Nat, k ≤ l.length ∧ l.length - k ≤ gg ∧ s12 = .int .i64 k ∧ Hid (Grew w wr) ∧ Hid (OwnAt w.heap.size 5 1 encB wr s3 ((l.take k).map Li.bitB)))
  case atStart => exact ⟨0, by omega, by omega, rfl, Lib.hid (Grew.refl _), Lib.hid (OwnAt.nil _)⟩
  case round =>
    obtain ⟨k, hk, hgg, rfl, HG, HO⟩ := hrel
    rename World => wa
    by_cases hlt : k < l.length
    · obtain ⟨a', cap', e, -, hx⟩ := bools_open (HV.out.grew HG.out)
      cases e
      obtain ⟨b, off, rfl, p0, c0⟩ := hx k hlt
      have HT := Lib.hid (map_take_snoc Li.bitB l k hlt)
      have hln : ((l.take k).map Li.bitB).length = k := by rw [List.length_map, List.length_take]; omega
      clear hx
      generalize l[k] = x at *
      generalize (l.take k).map Li.bitB = xs at *
      cases x
      · go_wp2_with (at_builtin; go_loud (refine wpList_ownK (w0 := w) rfl (.tmp 17) (.tmp 19) 86 _ _ _ _ [Li.bitB false] rfl Tryz.underlying86 infoU8 rfl (by decide) encB_len encB_one rfl (OwnAt.grew HO.out (by repeat (first | with_reducible exact Grew.refl _ | apply Grew.more | apply Grew.alloc | apply Grew.drew | apply Grew.drewN))) (HG.out.trans (by repeat (first | with_reducible exact Grew.refl _ | apply Grew.more | apply Grew.alloc | apply Grew.drew | apply Grew.drewN))) rfl (by_at _ _ _ _ rfl (by simp [go_sem])) (by simp; omega) (by decide) (by simp) ?_); intro v7 W7 hA; (have HA7 := Lib.hid hA); clear hA)
        go_roundg (l.length - (k + 1))
        case measure => omega
        case rel => exact ⟨k + 1, by omega, by omega, by go_num, Lib.hid HA7.out.1, Lib.hid (by rw [HT.out]; exact HA7.out.2.1)⟩
      · go_wp2_with (at_builtin; go_loud (refine wpList_ownK (w0 := w) rfl (.tmp 17) (.tmp 19) 86 _ _ _ _ [Li.bitB true] rfl Tryz.underlying86 infoU8 rfl (by decide) encB_len encB_one rfl (OwnAt.grew HO.out (by repeat (first | with_reducible exact Grew.refl _ | apply Grew.more | apply Grew.alloc | apply Grew.drew | apply Grew.drewN))) (HG.out.trans (by repeat (first | with_reducible exact Grew.refl _ | apply Grew.more | apply Grew.alloc | apply Grew.drew | apply Grew.drewN))) rfl (by_at _ _ _ _ rfl (by simp [go_sem])) (by simp; omega) (by decide) (by simp) ?_); intro v7 W7 hA; (have HA7 := Lib.hid hA); clear hA)
        go_roundg (l.length - (k + 1))
        case measure => omega
        case rel => exact ⟨k + 1, by omega, by omega, by go_num, Lib.hid HA7.out.1, Lib.hid (by rw [HT.out]; exact HA7.out.2.1)⟩
    · obtain rfl : k = l.length := by omega
      have ho := HO.out
      rw [List.take_length] at ho
      generalize hq : l.map Li.bitB = bs at *
      have HQ := Lib.hid hq
      have hcv := conv_own wa _ _ _ ho
      obtain ⟨av, cv, rfl⟩ := (OwnAt.rows ho encB_len).len
      clear ho HO hq
      go_wp2
      go_ret
      exact ⟨by first | rfl | (rw [HQ.out]; rfl), HG.out.trans (by repeat (first | with_reducible exact Grew.refl _ | apply Grew.more | apply Grew.alloc | apply Grew.drew | apply Grew.drewN))⟩
theorem idx_str (s : List UInt8) (k : Nat) (h : k < s.length) (w : World) : (Instr.index 9 (.string ⟨s.toArray⟩) (.int .i64 k)).run Tryz.prog w = .ok (.int .u8 (s[k]).toNat) w := by
  simp [Instr.index, go_sem, h]
  rfl
end Go.Proofs.YtlgbipfpnfphjaaGreatDoor

/-! lines: truths, records, record, planned. -/
namespace Go.Proofs.YtlgbipfpnfphjaaGreatDoor
set_option linter.unusedSimpArgs false
set_option linter.unusedVariables false
open Go.RowKit Ga
set_option maxRecDepth 100000

set_option maxHeartbeats 8000000 in
theorem truths_any (s : List UInt8) (hs : s.length ≤ 100000) (w : World) : Calls Tryz.prog 114 #[.string ⟨s.toArray⟩] w (fun e w' => ∃ v, e = .returned v ∧ OwnAt w.heap.size 4 1 encBo w' v (Li.truthsP s) ∧ Grew w w') := by
  by_cases hd : s = [45]
  · subst hd
    clear hs
    show Calls Tryz.prog _ #[.string ⟨#[45]⟩] w _
    go_enter Tryz.func114, Tryz.ntmps114
    go_wp2
    go_ret
    exact ⟨_, rfl, OwnAt.nil _, by repeat (first | with_reducible exact Grew.refl _ | apply Grew.more | apply Grew.alloc | apply Grew.drew | apply Grew.drewN)⟩
  have hT : Li.truthsP s = s.map (· == 49) := by unfold Li.truthsP; exact if_neg hd
  rw [hT]
  have hne : (s == [45]) = false := by simpa using hd
  have HIX := Lib.hid (idx_str s)
  clear hT hd
  go_enter Tryz.func114, Tryz.ntmps114
  go_wp2
  go_loopg [3, 9] s.length (fun gg s3 s9 wr => ∃ k : Nat, k ≤ s.length ∧ s.length - k ≤ gg ∧ s9 = .int .i64 k ∧ Hid (Grew w wr) ∧ Hid (OwnAt w.heap.size 4 1 encBo wr s3 ((s.take k).map (· == 49))))
  case atStart => exact ⟨0, by omega, by omega, rfl, Lib.hid (Grew.refl _), Lib.hid (OwnAt.nil _)⟩
  case round =>
    obtain ⟨k, hk, hgg, rfl, HG, HO⟩ := hrel
    rename World => wa
    by_cases hlt : k < s.length
    · have hix := HIX.out k hlt wa
      have HT := Lib.hid (map_take_snoc (fun b : UInt8 => b == 49) s k hlt)
      have hln : ((s.take k).map (fun b : UInt8 => b == 49)).length = k := by rw [List.length_map, List.length_take]; omega
      have hq : ((s[k].toNat : Int) == 49) = (s[k] == 49) := by
        have h1 : (49 : UInt8).toNat = 49 := rfl
        by_cases h : s[k] = 49
        · rw [h]; rfl
        · have h2 : s[k].toNat ≠ 49 := fun e => h (UInt8.toNat_inj.1 (e.trans h1.symm))
          rw [beq_eq_false_iff_ne.2 h, beq_eq_false_iff_ne]
          omega
      generalize s[k] = x at *
      generalize (s.take k).map (fun b : UInt8 => b == 49) = xs at *
      generalize (x == 49) = q at *
      generalize x.toNat = xn at *
      go_wp2_with (at_builtin; go_loud (refine wpList_ownK (w0 := w) rfl (.tmp 12) (.tmp 17) 23 _ _ _ _ [q] rfl Tryz.underlying23 infoBo rfl (by decide) encBo_len encBo_one rfl (OwnAt.grew HO.out (by repeat (first | with_reducible exact Grew.refl _ | apply Grew.more | apply Grew.alloc | apply Grew.drew | apply Grew.drewN))) (HG.out.trans (by repeat (first | with_reducible exact Grew.refl _ | apply Grew.more | apply Grew.alloc | apply Grew.drew | apply Grew.drewN))) rfl (bo_at _ _ _ _ rfl (by simp [go_sem])) (by simp; omega) (by decide) (by simp) ?_); intro v7 W7 hA; (have HA7 := Lib.hid hA); clear hA)
      go_roundg (s.length - (k + 1))
      case measure => omega
      case rel => exact ⟨k + 1, by omega, by omega, by go_num, Lib.hid HA7.out.1, Lib.hid (by rw [HT.out]; exact HA7.out.2.1)⟩
    · obtain rfl : k = s.length := by omega
      have ho := HO.out
      rw [List.take_length] at ho
      have HO2 := Lib.hid ho
      clear ho HO
      obtain ⟨av, cv, rfl⟩ := (OwnAt.rows HO2.out encBo_len).len
      go_wp2
      go_ret
      exact ⟨_, rfl, HO2.out, HG.out.trans (by repeat (first | with_reducible exact Grew.refl _ | apply Grew.more | apply Grew.alloc | apply Grew.drew | apply Grew.drewN))⟩
theorem recW_len {r : Rq} (h : Li.okRec r) : (Li.recW r).length ≤ 100 := by
  obtain ⟨h1, h2, h3⟩ := h
  have l1 := Li.itoa_len8 (Li.num_iff.2 (show -1000000 ≤ r.1 ∧ r.1 ≤ 1000000 by omega))
  have l2 := Li.itoa_len8 (Li.num_iff.2 (show -1000000 ≤ r.2.1 ∧ r.2.1 ≤ 1000000 by omega))
  have l3 := Li.itoa_len8 (Li.num_iff.2 (show -1000000 ≤ r.2.2 ∧ r.2.2 ≤ 1000000 by omega))
  unfold Li.recW Tx.textL
  simp only [List.length_append, List.length_cons, List.length_nil]
  split
  · simp; omega
  · simp; omega
theorem textL_len100 {x y : Int} (h2 : -524288 ≤ x ∧ x < 524288) (h3 : -524288 ≤ y ∧ y < 524288) : (Tx.textL x y).length ≤ 50 := by
  have l2 := Li.itoa_len8 (Li.num_iff.2 (show -1000000 ≤ x ∧ x ≤ 1000000 by omega))
  have l3 := Li.itoa_len8 (Li.num_iff.2 (show -1000000 ≤ y ∧ y ≤ 1000000 by omega))
  unfold Tx.textL
  simp only [List.length_append, List.length_cons, List.length_nil]
  split
  · simp; omega
  · simp; omega
/-- a slice of one text -/
def OneS (x : List UInt8) (v : Value) (w : World) : Prop := ∃ b, v = .slice (some ⟨b, 0, none⟩) 1 1 ∧ w.cell? ⟨b, 0, none⟩ = some (.string ⟨x.toArray⟩)
theorem OneS.st (x : List UInt8) : ∀ v w w', OneS x v w → Grew w w' → OneS x v w' := fun _ _ _ ⟨b, h1, h2⟩ g => ⟨b, h1, cell_grew h2 g⟩
theorem one_cells {W : World} {b : Nat} {x : List UInt8} (h : W.cell? ⟨b, 0, none⟩ = some (.string ⟨x.toArray⟩)) : ∀ j u, (([x] : List (List UInt8)).flatMap encS)[j]? = some u → W.cell? ⟨b, j, none⟩ = some u := by
  intro j u hu
  match j with
  | 0 => simp [encS] at hu; subst hu; exact h
  | j + 1 => simp [encS] at hu
set_option maxHeartbeats 16000000 in
theorem records_any (v : Value) (l : List Rq) (w : World) (hP : Pow w) (hv : RqAt w v l) (hl : ∀ r ∈ l, Li.okRec r) (h60 : l.length ≤ 60) : Calls Tryz.prog 45 #[v] w (Gives (str (Li.recsT l)) w) := by
  have hJ : (Lib.join (l.map Li.recW) [32]).length ≤ 1000000 := by
    have := join_len (l.map Li.recW) [32] 100 fun x hx => by
      obtain ⟨n, hn2, rfl⟩ := List.mem_map.1 hx
      exact recW_len (hl n hn2)
    rw [List.length_map] at this
    have e : ([32] : List UInt8).length = 1 := rfl
    rw [e] at this
    omega
  have HJ := Lib.hid hJ
  have HP := Lib.hid hP
  have HV := Lib.hid hv
  have HL := Lib.hid hl
  obtain ⟨a, cap, rfl, -, -⟩ := rq_open hv
  clear hP hv hJ hl
  show Calls _ _ _ _ (Gives (str (Lib.join (l.map Li.recW) [32])) w)
  go_enter Tryz.func45, Tryz.ntmps45
  go_wp2
  go_loopg [3, 8] l.length (fun gg s3 s8 wr => ∃ k : Nat, k ≤ l.length ∧ l.length - k ≤ gg ∧ s8 = .int .i64 k ∧ Hid (Grew w wr) ∧ Hid (OwnAt w.heap.size 9 1 encS wr s3 ((l.take k).map Li.recW)))
  case atStart => exact ⟨0, by omega, by omega, rfl, Lib.hid (Grew.refl _), Lib.hid (OwnAt.nil _)⟩
  case round =>
    obtain ⟨k, hk, hgg, rfl, HG, HO⟩ := hrel
    rename World => wa
    by_cases hlt : k < l.length
    · obtain ⟨a', cap', e, -, hx⟩ := rq_open (HV.out.grew HG.out)
      cases e
      obtain ⟨b, off, rfl, p0, g0, g1, g2⟩ := hx k hlt
      have HT := Lib.hid (map_take_snoc Li.recW l k hlt)
      have hln : ((l.take k).map Li.recW).length = k := by rw [List.length_map, List.length_take]; omega
      have hok := HL.out _ (List.getElem_mem hlt)
      clear hx
      generalize l[k] = r at *
      obtain ⟨ky, x, y⟩ := r
      simp only at g0 g1 g2
      have hr1 : -9223372036854775808 ≤ ky ∧ ky ≤ 9223372036854775807 := by have := hok.1; simp only at this; omega
      have HI := Lib.hid fun W (q : Grew wa W) => itoa_any ky hr1 W (HP.out.grew (HG.out.trans q))
      have HTX0 := fun W (q : Grew wa W) => text_xyL x y W (HP.out.grew (HG.out.trans q))
      rw [into_id (show -524288 ≤ x ∧ x < 524288 from hok.2.1), into_id (show -524288 ≤ y ∧ y < 524288 from hok.2.2)] at HTX0
      have HTX := Lib.hid HTX0
      have l1 := Li.itoa_len8 (Li.num_iff.2 (show -1000000 ≤ ky ∧ ky ≤ 1000000 by have := hok.1; simp only at this; omega))
      have l2 := textL_len100 (show -524288 ≤ x ∧ x < 524288 from hok.2.1) (show -524288 ≤ y ∧ y < 524288 from hok.2.2)
      have HW : Hid (Li.recW (ky, x, y) = Lib.itoa ky ++ 58 :: Tx.textL x y) := Lib.hid rfl
      clear HTX0 hok hr1
      generalize (l.take k).map Li.recW = xs at *
      generalize Li.recW (ky, x, y) = rw9 at *
      generalize Lib.itoa ky = it at *
      generalize Tx.textL x y = tx at *
      have hcat1 : (⟨it.toArray⟩ ++ ⟨#[58]⟩ : ByteArray) = ⟨(it ++ [58]).toArray⟩ := str_cat it [58]
      have hcat2 : (⟨(it ++ [58]).toArray⟩ ++ ⟨tx.toArray⟩ : ByteArray) = ⟨rw9.toArray⟩ := by rw [str_cat, HW.out]; simp
      have l3 : (it ++ [58]).length ≤ 9 := by simp; omega
      generalize it ++ [58] = i1 at *
      obtain ⟨a3, c3, hv3⟩ := (OwnAt.rows HO.out encS_len).len
      subst hv3
      go_wp2_with fail
      refine wp_region_seq 10 Tryz.mixed (by kernel_rfl) (by kernel_rfl) ?_
      iterate 3
        apply Seq.val
        focus
          rintro w1 u ⟨R1, n1, rfl⟩ hF
          simp [moreFacts, Fact.more, Oper.deps, Region.binds, List.filter_cons, World.more_drew] at hF
          simp [putFacts, Oper.deps, Region.binds, List.filter_cons, Region.dstOf, Fact.at, Act.put, World.more_drew]
          go_wp2
          exact ⟨by repeat (first | with_reducible exact Grew.refl _ | apply Grew.more | apply Grew.alloc | apply Grew.drew | apply Grew.drewN), rfl, _, _, rfl, rfl, rfl⟩
      apply Seq.val
      focus
        rintro w1 u ⟨R1, n1, rfl⟩ hF
        simp [moreFacts, Fact.more, Oper.deps, Region.binds, List.filter_cons, World.more_drew] at hF
        simp [putFacts, Oper.deps, Region.binds, List.filter_cons, Region.dstOf, Fact.at, Act.put, World.more_drew]
        go_wp2_with (first
          | (go_at_call 44; refine (HI.out _ (by repeat (first | with_reducible exact Grew.refl _ | apply Grew.more | apply Grew.alloc | apply Grew.drew | apply Grew.drewN))).mono ?_; rintro e w1 ⟨rfl, R3, n3, rfl⟩)
          )
        exact ⟨by repeat (first | with_reducible exact Grew.refl _ | apply Grew.more | apply Grew.alloc | apply Grew.drew | apply Grew.drewN), rfl, _, _, rfl, rfl, rfl⟩
      iterate 3
        apply Seq.val
        focus
          rintro w1 u ⟨R1, n1, rfl⟩ hF
          simp [moreFacts, Fact.more, Oper.deps, Region.binds, List.filter_cons, World.more_drew] at hF
          simp [putFacts, Oper.deps, Region.binds, List.filter_cons, Region.dstOf, Fact.at, Act.put, World.more_drew]
          go_wp2
          exact ⟨by repeat (first | with_reducible exact Grew.refl _ | apply Grew.more | apply Grew.alloc | apply Grew.drew | apply Grew.drewN), rfl, _, _, rfl, rfl, rfl⟩
      apply Seq.val
      focus
        rintro w1 u ⟨R1, n1, rfl⟩ hF
        simp [moreFacts, Fact.more, Oper.deps, Region.binds, List.filter_cons, World.more_drew] at hF
        simp [putFacts, Oper.deps, Region.binds, List.filter_cons, Region.dstOf, Fact.at, Act.put, World.more_drew]
        go_wp2_with (first
          | (go_at_call 96; refine (HTX.out _ (by repeat (first | with_reducible exact Grew.refl _ | apply Grew.more | apply Grew.alloc | apply Grew.drew | apply Grew.drewN))).mono ?_; rintro e w1 ⟨rfl, R4, n4, rfl⟩)
          )
        exact ⟨by repeat (first | with_reducible exact Grew.refl _ | apply Grew.more | apply Grew.alloc | apply Grew.drew | apply Grew.drewN), rfl, _, _, rfl, rfl, rfl⟩
      iterate 1
        apply Seq.val
        focus
          rintro w1 u ⟨R1, n1, rfl⟩ hF
          simp [moreFacts, Fact.more, Oper.deps, Region.binds, List.filter_cons, World.more_drew] at hF
          simp [putFacts, Oper.deps, Region.binds, List.filter_cons, Region.dstOf, Fact.at, Act.put, World.more_drew]
          go_wp2
          exact ⟨by repeat (first | with_reducible exact Grew.refl _ | apply Grew.more | apply Grew.alloc | apply Grew.drew | apply Grew.drewN), rfl, _, _, rfl, rfl, rfl⟩
      apply Seq.of (OneS rw9) (OneS.st rw9)
      focus
        rintro w1 u ⟨R1, n1, rfl⟩ hF
        simp [moreFacts, Fact.more, Oper.deps, Region.binds, List.filter_cons, World.more_drew] at hF
        simp [putFacts, Oper.deps, Region.binds, List.filter_cons, Region.dstOf, Fact.at, Act.put, World.more_drew]
        go_wp2
        exact ⟨by repeat (first | with_reducible exact Grew.refl _ | apply Grew.more | apply Grew.alloc | apply Grew.drew | apply Grew.drewN), rfl, _, _, rfl, rfl, ⟨_, rfl, (cell_of (o := 0) (heap_new_at _ _ _ (by simp [go_sem]))).trans rfl⟩⟩
      rintro u w1 ⟨R1, n1, rfl⟩ hF
      simp [moreFacts, Fact.more, List.range_succ, World.more_drew] at hF
      obtain ⟨⟨b6, e6, h6⟩, -⟩ := hF
      simp [putFacts, Region.dstOf, Fact.at, Act.put, List.range_succ, World.more_drew, e6]
      have H6 := Lib.hid h6
      clear h6
      go_wp2_with (at_builtin; go_loud (refine wpList_ownK (w0 := w) rfl (.tmp 12) (.tmp 21) 56 _ _ _ _ [rw9] rfl Tryz.underlying56 infoStr rfl (by decide) encS_len encS_one rfl (OwnAt.grew HO.out (by repeat (first | with_reducible exact Grew.refl _ | apply Grew.more | apply Grew.alloc | apply Grew.drew | apply Grew.drewN))) (HG.out.trans (by repeat (first | with_reducible exact Grew.refl _ | apply Grew.more | apply Grew.alloc | apply Grew.drew | apply Grew.drewN))) rfl (one_cells H6.out) (by simp; omega) (by decide) (by simp) ?_); intro v7 W7 hA; (have HA7 := Lib.hid hA); clear hA)
      go_roundg (l.length - (k + 1))
      case measure => omega
      case rel => exact ⟨k + 1, by omega, by omega, by go_num, Lib.hid HA7.out.1, Lib.hid (by rw [HT.out]; exact HA7.out.2.1)⟩
    · obtain rfl : k = l.length := by omega
      have ho := HO.out
      rw [List.take_length] at ho
      have hlm : (l.map Li.recW).length ≤ 1000 := by rw [List.length_map]; omega
      have HO2 := Lib.hid ho
      clear ho HO
      go_wp2_with (go_at_call 18; refine (join_any _ (l.map Li.recW) [32] _ _ (HO2.out.grew (by repeat (first | with_reducible exact Grew.refl _ | apply Grew.more | apply Grew.alloc | apply Grew.drew | apply Grew.drewN))) hlm HJ.out).mono ?_; rintro e w1 ⟨rfl, R3, n3, rfl⟩)
      go_ret
      exact ⟨rfl, HG.out.trans (by repeat (first | with_reducible exact Grew.refl _ | apply Grew.more | apply Grew.alloc | apply Grew.drew | apply Grew.drewN))⟩
theorem planned_any (s : List UInt8) (hs : s.length ≤ 100000) (w : World) (hP : Pow w) (hA : Asc w) : Calls Tryz.prog 42 #[.string ⟨s.toArray⟩] w (Gives (str (Li.planT (Gr.getPl getL s).1)) w) := by
  have HG := Lib.hid fun W => getPlan_any s W hs
  have HP := Lib.hid fun W (q : Grew w W) v (h : StepsAt W v (Gr.getPl getL s).1) => linesPlan_any v _ W (hP.grew q) (hA.grew q) h
  clear hP hA
  generalize Gr.getPl getL s = r at *
  go_enter Tryz.func42, Tryz.ntmps42
  go_wp2_with (first
    | (go_at_call 21; refine (HG.out _).mono ?_; rintro e w1 ⟨v, rfl, hv, R1, n1, rfl⟩; (have HV := Lib.hid hv); clear hv)
    | (go_at_call 11; refine (HP.out _ (by repeat (first | with_reducible exact Grew.refl _ | apply Grew.more | apply Grew.alloc | apply Grew.drew | apply Grew.drewN)) _ (HV.out.grew (by repeat (first | with_reducible exact Grew.refl _ | apply Grew.more | apply Grew.alloc | apply Grew.drew | apply Grew.drewN)))).mono ?_; rintro e w2 ⟨rfl, R2, n2, rfl⟩))
  go_ret
  exact ⟨rfl, by repeat (first | with_reducible exact Grew.refl _ | apply Grew.more | apply Grew.alloc | apply Grew.drew | apply Grew.drewN)⟩
/-- what the parsers of events ask of the library's variables -/
structure EnvEv (w : World) : Prop where
  l : Env27 w
  u : Lib.Utf8Tabs 6 7 w
noncomputable def gvL (s : List UInt8) : Int × Int := (parseOut s).1
end Go.Proofs.YtlgbipfpnfphjaaGreatDoor
