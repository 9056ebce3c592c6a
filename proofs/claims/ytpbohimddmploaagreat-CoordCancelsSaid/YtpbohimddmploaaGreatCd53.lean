import Derived.Test.YtpbohimddmploaaGreatCd51
import Derived.Test.YtpbohimddmploaaGreatCd50
import Derived.Test.YtpbohimddmploaaGreatCd52
import Derived.Test.YtpbohimddmploaaGreatCd44
import Derived.Test.YtpbohimddmploaaGreatCd28
import Derived.Test.YtpbohimddmploaaGreatCd16
import Derived.Test.YtpbohimddmploaaGreatCd10
import Derived.Test.YtpbohimddmploaaGreatRows
set_option linter.unusedSimpArgs false
set_option linter.unusedVariables false
set_option maxRecDepth 100000
set_option maxHeartbeats 64000000
namespace Go.Proofs.YtpbohimddmploaaGreat
open Go.RowKit Ga

theorem awake23_any (w : World) : Calls Tryz.prog 6 #[] w (Gives (.bool true) w) := by
  have hln : ((Gr.putM putI (firstM passL1)).length : Int) + 8 ≤ 10000 := by
    have := first_len pass1_right (by intro n hn; simp only [passL1, List.mem_cons, List.not_mem_nil, or_false] at hn; rcases hn with rfl | rfl <;> rfl)
    omega
  have HLN := Lib.hid hln
  clear hln
  go_enter Tryz.func6, Tryz.ntmps6
  go_wp2_with (first
    | (go_at_call 10; refine (diskNew_any 10000 _ (by decide)).mono ?_; rintro e w1 ⟨x, rfl, hx, hd, R1, n1, rfl⟩; (have HX := Lib.hid hx); (have HD := Lib.hid hd); clear hx hd)
    | (go_at_call 24; refine (pass1O_any _).mono ?_; rintro e w2 ⟨v2, lc2, rfl, ho2, hi2, R2, n2, rfl⟩; (have HO2 := Lib.hid ho2); (have HI2 := Lib.hid hi2); clear ho2 hi2)
    | (go_at_call 9; refine (coOpen_new (w0 := w) (g := passL1) (HD.out.grew (by repeat (first | with_reducible exact Grew.refl _ | apply Grew.more | apply Grew.alloc | apply Grew.drew | apply Grew.drewN))) (fun W' hl _ => (hl.nodes HI2.out (by decide) (by decide)).at (hl.own HO2.out (by decide))) pass1_small pass1_right (by intro n hn; simp only [passL1, List.mem_cons, List.not_mem_nil, or_false] at hn; rcases hn with rfl | rfl <;> rfl) (by repeat (first | with_reducible exact Grew.refl _ | apply Grew.more | apply Grew.alloc | apply Grew.drew | apply Grew.drewN)) HX.out (by decide) HLN.out).mono ?_; rintro e w3 ⟨z, bk, lg, rfl, hc⟩; (have HC := Lib.hid hc); clear hc)
    | (go_at_call 13; refine (coBegin_any HC.out (by decide)).mono ?_; rintro e w4 ⟨rfl, x4, b4, hc4, hg4, hx4, hb4, -⟩; (have HC4 := Lib.hid hc4); (have HG4 : Hid (GatherAt _ x4 b4 0 passL1 1 []) := Lib.hid hg4.ga); (have HB4 := Lib.hid hb4); clear hc4 hg4 hx4 hb4))
  obtain ⟨hv, qv, b1, -, -⟩ := HC4.out.blk
  have HB1 := Lib.hid b1
  clear b1
  refine (coAck_one (w0 := w) HB1.out HG4.out HC4.out.g HB4.out).mono ?_
  rintro e w5 ⟨rfl, hz5, hg5, hgr5⟩
  have HZ5 := Lib.hid (hz5.trans HB1.out)
  have HG5 := Lib.hid hg5
  have HGR5 := Lib.hid hgr5
  clear hz5 hg5 hgr5
  go_wp2_with (go_at_call 29; refine (coReady_one HZ5.out HG5.out).mono ?_; rintro e w6 ⟨rfl, R6, n6, rfl⟩)
  go_ret
  exact ⟨rfl, HGR5.out.trans (by repeat (first | with_reducible exact Grew.refl _ | apply Grew.more | apply Grew.alloc | apply Grew.drew | apply Grew.drewN))⟩

def PlansAt (w : World) (v : Value) (l : List (List Gr.Stp)) : Prop := ∃ xs : List SlC, RowsAt 1 encSl w v xs ∧ Rel (fun (x : SlC) p => StepsAt w x.v p) xs l
theorem PlansAt.at {w : World} {v : Value} {l : List (List Gr.Stp)} (h : PlansAt w v l) : ∃ a cap, v = .slice a l.length cap ∧ l.length ≤ 9223372036854775807 ∧ ∀ k (hk : k < l.length), ∃ b off, a = some ⟨b, off, none⟩ ∧ Pre b w ∧ ∃ x : SlC, StepsAt w x.v l[k] ∧ w.cell? ⟨b, off + k, none⟩ = some x.v := by
  obtain ⟨xs, h1, h2⟩ := h
  have hl := Rel.len h2
  obtain ⟨a, cap, e, hm, hx⟩ := RowsAt.open1 (f := SlC.v) h1
  rw [hl] at e hm
  refine ⟨a, cap, e, hm, fun k hk => ?_⟩
  obtain ⟨b, off, hab, hb, hc⟩ := hx k (by omega)
  exact ⟨b, off, hab, hb, xs[k]'(by omega), Rel.get h2 k _ _ (List.getElem?_eq_getElem (by omega)) (List.getElem?_eq_getElem hk), hc⟩
def clP (p : List Gr.Stp) : List Gr.Stp := p.map Gr.cleanS
structure Live3 (w wr : World) (z bk lg : Nat) (g : List Gr.Nd) (v : Value) (q : List (List Gr.Stp)) : Prop where
  co : CoAt w wr z bk lg [] (firstM g) (q.map clP) (.pointer none) false 0 0
  wt : Gr.Waits checkR (firstM g).graph (q.map clP)
  ws : ∃ ws : List SlC, OwnAt w.heap.size 35 1 encSl wr v ws ∧ Rel (fun (x : SlC) p => StepsAt w x.v p ∧ ∀ s ∈ p, smallS s) ws q
  ap : ∀ qv b, wr.cell? ⟨z, 3, none⟩ = some qv → v.ownBlock = some b → qv.ownBlock ≠ some b
theorem Live3.grew {w wr wx : World} {z bk lg : Nat} {g : List Gr.Nd} {v : Value} {q : List (List Gr.Stp)} (h : Live3 w wr z bk lg g v q) (gr : Grew wr wx) : Live3 w wx z bk lg g v q := by
  obtain ⟨hv, qv, h1, -, -⟩ := h.co.blk
  obtain ⟨ws, h2, h3⟩ := h.ws
  refine ⟨h.co.grew gr, h.wt, ⟨ws, h2.grew gr, h3⟩, fun qv' b hq hb => ?_⟩
  have e1 := cell_grew (cell_of (o := 3) h1) gr
  rw [hq] at e1
  cases e1
  exact h.ap _ b (cell_of (o := 3) h1) hb
theorem Live3.own2 {w wr w2 : World} {z bk lg : Nat} {g : List Gr.Nd} {v : Value} {q : List (List Gr.Stp)} (h : Live3 w wr z bk lg g v q) (hk : QKeep z wr w2) : (∃ ws : List SlC, OwnAt w.heap.size 35 1 encSl w2 v ws ∧ Rel (fun (x : SlC) p => StepsAt w x.v p ∧ ∀ s ∈ p, smallS s) ws q) ∧ ∀ qv b, w2.cell? ⟨z, 3, none⟩ = some qv → v.ownBlock = some b → qv.ownBlock ≠ some b := by
  obtain ⟨hv, qv, h1, -, -⟩ := h.co.blk
  have c3 := cell_of (o := 3) h1
  obtain ⟨ws, h2, h3⟩ := h.ws
  obtain ⟨k1, k2, qv', k3, k4⟩ := hk qv c3
  refine ⟨⟨ws, OwnAt.same h2 fun b hb => ?_, h3⟩, fun q2 b hq hb e => ?_⟩
  · obtain ⟨-, c, hc⟩ := OwnAt.block h2 hb
    exact k2 b (heap_lt hc) (fun e => by rw [e, h1] at hc; cases hc) (h.ap qv b c3 hb)
  · rw [k3] at hq
    cases hq
    obtain ⟨-, c, hc⟩ := OwnAt.block h2 hb
    rcases k4 b e with h4 | h4
    · exact h.ap qv b c3 hb h4
    · have := heap_lt hc; omega
theorem Live3.push {w w1 w2 W7 : World} {z bk lg : Nat} {g : List Gr.Nd} {v v7 : Value} {q : List (List Gr.Stp)} {p : List Gr.Stp} {ws : List SlC} {x : SlC} (gr : Grew w1 w2) (hc : CoAt w w1 z bk lg [] (firstM g) ((q ++ [p]).map clP) (.pointer none) false 0 0) (ho : OwnAt w.heap.size 35 1 encSl w1 v ws) (hr : Rel (fun (x : SlC) p => StepsAt w x.v p ∧ ∀ s ∈ p, smallS s) ws q) (hap : ∀ qv b, w1.cell? ⟨z, 3, none⟩ = some qv → v.ownBlock = some b → qv.ownBlock ≠ some b) (hw : Gr.Waits checkR (firstM g).graph ((q ++ [p]).map clP)) (hx : StepsAt w x.v p ∧ ∀ s ∈ p, smallS s) (hA : Appended w 35 1 encSl w2 v (ws ++ [x]) v7 W7) : Live3 w W7 z bk lg g v7 (q ++ [p]) := by
  obtain ⟨hv0, qv0, h1, -⟩ := hc.blk
  have hap : ∀ qv b, w2.cell? ⟨z, 3, none⟩ = some qv → v.ownBlock = some b → qv.ownBlock ≠ some b := fun qv b hq => by
    have e1 := cell_grew (cell_of (o := 3) h1) gr
    rw [hq] at e1
    cases e1
    exact hap _ b (cell_of (o := 3) h1)
  replace hc := hc.grew gr
  replace ho := ho.grew gr
  clear h1
  obtain ⟨hv, qv, h1, h2, qs, h3, h4⟩ := hc.blk
  have c3 := cell_of (o := 3) h1
  have b1 := app_blk hA (Grew.refl w2) h1 (ho.other h1 (by decide))
  have hl : Leaves [35] w2 W7 := Leaves.app (Leaves.refl _ _) ho hA (by simp)
  have hT : NoData [35] := by simp [NoData]
  refine ⟨⟨⟨hv, qv, b1, h2.leaves hl hT (by simp), qs, OwnAt.same h3 fun b hb => ?_, Rel.mono (fun _ _ e => ⟨e.1.leaves hl hT, e.2⟩) h4⟩, hc.ok, hc.n, hc.z0, hA.1⟩, hw, ⟨ws ++ [x], hA.2.1, Rel.snoc hr hx⟩, fun q2 b hq hb e => ?_⟩
  · obtain ⟨-, c, hc⟩ := OwnAt.block h3 hb
    exact hA.2.2.2.1 b (heap_lt hc) fun e => hap qv b c3 e hb
  · have c3' := cell_of (o := 3) b1
    rw [hq] at c3'
    cases c3'
    obtain ⟨-, c, hc⟩ := OwnAt.block h3 e
    rcases hA.2.2.2.2 b hb with h5 | h5
    · exact hap _ b c3 h5 e
    · have := heap_lt hc; omega
theorem planR_sub {g : List Gr.Nd} {q : List (List Gr.Stp)} {p : List Gr.Stp} (hp : (planR p).2 = 0) (hs : subE g (q.map clP) (planR p).1 = 0) : (Gr.getPl getL (planR p).1).1 = clP p ∧ Gr.goes checkR (Gr.aheadG checkR g (q.map clP)) (clP p) = true := by
  have ho : Gr.OkPl fitsP p := by
    by_cases h : Gr.OkPl fitsP p
    · exact h
    · rw [planR_no h] at hp; cases hp
  rw [planR_ok ho] at hs ⊢
  unfold subE at hs
  rw [Gr.getPl_put codecI ho] at hs ⊢
  simp only at hs ⊢
  rw [if_neg (by simp)] at hs
  refine ⟨rfl, ?_⟩
  split at hs
  · cases hs
  · unfold Gr.goes
    exact decide_eq_true hs
theorem planR_len (p : List Gr.Stp) : (planR p).1.length ≤ 100000 := by
  by_cases h : Gr.OkPl fitsP p
  · rw [planR_ok h]
    have := putPl_len h
    simp only
    omega
  · rw [planR_no h]; simp
theorem coordCancels_great (v vp : Value) (g : List Gr.Nd) (l : List (List Gr.Stp)) (i : Int) (un : Bool) (w : World) (hv : NodesAt w v g) (hp : PlansAt w vp l) (hb : greatG g = true ∨ 20 < l.length ∨ ¬ Gr.RightR g) : Calls Tryz.prog 3 #[v, vp, .agg #[.int .i64 i, .bool un]] w (Gives (.bool true) w) := by
  have hgp : greatP [] = false := rfl
  have HGT := Lib.hid fun W (q : Grew w W) => great10_any v (.slice none 0 0) g [] W (hv.grew q) (StepsAt.nil W)
  rw [hgp, Bool.or_false] at HGT
  have HV := Lib.hid hv
  obtain ⟨av, cv, rfl, hnv, -⟩ := hv.openC
  obtain ⟨ap, cp, rfl, hnp, -⟩ := hp.at
  have HB := Lib.hid hb
  clear hp hv hb hgp
  cases hg : greatG g
  case true =>
    have HCK := Lib.hid (rfl : true = true)
    rw [hg] at HGT
    clear hg HV HB
    go_enter Tryz.func3, Tryz.ntmps3
    go_wp2_with (go_at_call 6; refine (awake23_any _).mono ?_; rintro e w1 ⟨rfl, R1, n1, rfl⟩)
    refine wp_region_seq 6 Tryz.mixed (by kernel_rfl) (by kernel_rfl) ?_
    iterate 6
      apply Seq.val
      focus
        rintro w1 u ⟨R1, n1, rfl⟩ hF
        simp [moreFacts, Fact.more, Oper.deps, Region.binds, List.filter_cons, World.more_drew] at hF
        simp [putFacts, Oper.deps, Region.binds, List.filter_cons, Region.dstOf, Fact.at, Act.put, World.more_drew]
        go_wp2
        exact ⟨by repeat (first | with_reducible exact Grew.refl _ | apply Grew.more | apply Grew.alloc | apply Grew.drew | apply Grew.drewN), rfl, _, _, rfl, rfl, rfl⟩
    rintro u w1 ⟨R1, n1, rfl⟩ hF
    clear hF
    simp [putFacts, Region.dstOf, Fact.at, Act.put, List.range_succ, World.more_drew]
    go_wp2_with (go_at_call 7; refine (HGT.out _ (by repeat (first | with_reducible exact Grew.refl _ | apply Grew.more | apply Grew.alloc | apply Grew.drew | apply Grew.drewN))).mono ?_; rintro e w1 ⟨rfl, R2, n2, rfl⟩)
    go_ret
    exact ⟨rfl, by repeat (first | with_reducible exact Grew.refl _ | apply Grew.more | apply Grew.alloc | apply Grew.drew | apply Grew.drewN)⟩
  case false =>
    have HSM := Lib.hid (great_small hg).1
    rw [hg] at HGT
    by_cases h20 : 20 < l.length
    · have h20' : (20 : Int) < l.length := by omega
      clear hg HV HB HSM
      go_enter Tryz.func3, Tryz.ntmps3
      go_wp2_with (go_at_call 6; refine (awake23_any _).mono ?_; rintro e w1 ⟨rfl, R1, n1, rfl⟩)
      refine wp_region_seq 6 Tryz.mixed (by kernel_rfl) (by kernel_rfl) ?_
      iterate 6
        apply Seq.val
        focus
          rintro w1 u ⟨R1, n1, rfl⟩ hF
          simp [moreFacts, Fact.more, Oper.deps, Region.binds, List.filter_cons, World.more_drew] at hF
          simp [putFacts, Oper.deps, Region.binds, List.filter_cons, Region.dstOf, Fact.at, Act.put, World.more_drew]
          go_wp2
          exact ⟨by repeat (first | with_reducible exact Grew.refl _ | apply Grew.more | apply Grew.alloc | apply Grew.drew | apply Grew.drewN), rfl, _, _, rfl, rfl, rfl⟩
      rintro u w1 ⟨R1, n1, rfl⟩ hF
      clear hF
      simp [putFacts, Region.dstOf, Fact.at, Act.put, List.range_succ, World.more_drew]
      go_wp2_with (go_at_call 7; refine (HGT.out _ (by repeat (first | with_reducible exact Grew.refl _ | apply Grew.more | apply Grew.alloc | apply Grew.drew | apply Grew.drewN))).mono ?_; rintro e w1 ⟨rfl, R2, n2, rfl⟩)
      go_ret
      exact ⟨rfl, by repeat (first | with_reducible exact Grew.refl _ | apply Grew.more | apply Grew.alloc | apply Grew.drew | apply Grew.drewN)⟩
    · have h20' : ¬ (20 : Int) < l.length := by omega
      have hr : ¬ Gr.RightR g := by
        rcases HB.out with h | h | h
        · rw [hg] at h; cases h
        · exact absurd h h20
        · exact h
      have hne := checkR_pos hr
      have HCK := Lib.hid fun W (q : Grew w W) => check_graph _ g W (HV.out.grew q) HSM.out
      clear hg HV HB HSM h20 hr
      generalize checkR g = er at *
      go_enter Tryz.func3, Tryz.ntmps3
      go_wp2_with (go_at_call 6; refine (awake23_any _).mono ?_; rintro e w1 ⟨rfl, R1, n1, rfl⟩)
      refine wp_region_seq 6 Tryz.mixed (by kernel_rfl) (by kernel_rfl) ?_
      iterate 6
        apply Seq.val
        focus
          rintro w1 u ⟨R1, n1, rfl⟩ hF
          simp [moreFacts, Fact.more, Oper.deps, Region.binds, List.filter_cons, World.more_drew] at hF
          simp [putFacts, Oper.deps, Region.binds, List.filter_cons, Region.dstOf, Fact.at, Act.put, World.more_drew]
          go_wp2
          exact ⟨by repeat (first | with_reducible exact Grew.refl _ | apply Grew.more | apply Grew.alloc | apply Grew.drew | apply Grew.drewN), rfl, _, _, rfl, rfl, rfl⟩
      rintro u w1 ⟨R1, n1, rfl⟩ hF
      clear hF
      simp [putFacts, Region.dstOf, Fact.at, Act.put, List.range_succ, World.more_drew]
      go_wp2_with (first
        | (go_at_call 7; refine (HGT.out _ (by repeat (first | with_reducible exact Grew.refl _ | apply Grew.more | apply Grew.alloc | apply Grew.drew | apply Grew.drewN))).mono ?_; rintro e w1 ⟨rfl, R2, n2, rfl⟩)
        | (go_at_call 8; refine (HCK.out _ (by repeat (first | with_reducible exact Grew.refl _ | apply Grew.more | apply Grew.alloc | apply Grew.drew | apply Grew.drewN))).mono ?_; rintro e w1 ⟨rfl, R3, n3, rfl⟩))
      go_ret
      exact ⟨rfl, by repeat (first | with_reducible exact Grew.refl _ | apply Grew.more | apply Grew.alloc | apply Grew.drew | apply Grew.drewN)⟩
theorem coordCancels_go (v vp : Value) (g : List Gr.Nd) (l : List (List Gr.Stp)) (i : Int) (un : Bool) (w : World) (hv : NodesAt w v g) (hp : PlansAt w vp l) (hgf : greatG g = false) (h20 : l.length ≤ 20) (hr : Gr.RightR g) : Calls Tryz.prog 3 #[v, vp, .agg #[.int .i64 i, .bool un]] w (Gives (.bool true) w) := by
  have hgp : greatP [] = false := rfl
  have hgn : greatG [] = false := rfl
  have HGT := Lib.hid fun W (q : Grew w W) => great10_any v (.slice none 0 0) g [] W (hv.grew q) (StepsAt.nil W)
  rw [hgp, Bool.or_false, hgf] at HGT
  have hsm := (great_small hgf).1
  have HCK := Lib.hid fun W (q : Grew w W) => check_graph _ g W (hv.grew q) hsm
  rw [checkR_nil hr] at HCK
  have h8 := nodes_route hv
  have hln := first_len hr h8
  have HCO := Lib.hid fun W x (hd : DiskAt W x [] (.slice none 0 0) [] 1048576) (hg : Grew w W) (hx : w.heap.size ≤ x) => coOpen_new (v := v) hd (fun W' _ q => hv.grew q) hsm hr h8 hg hx (by decide) (by omega)
  have HV := Lib.hid hv
  have HP := Lib.hid hp
  have HSM := Lib.hid hsm
  have HRR := Lib.hid hr
  have H20 := Lib.hid h20
  obtain ⟨av, cv, rfl, hnv, -⟩ := hv.openC
  obtain ⟨ap, cp, rfl, hnp, -⟩ := hp.at
  have h20' : ¬ (20 : Int) < l.length := by omega
  clear hp hv hgp hgn hsm h8 hln hr h20 hgf
  go_enter Tryz.func3, Tryz.ntmps3
  go_wp2_with (go_at_call 6; refine (awake23_any _).mono ?_; rintro e w1 ⟨rfl, R1, n1, rfl⟩)
  refine wp_region_seq 6 Tryz.mixed (by kernel_rfl) (by kernel_rfl) ?_
  iterate 6
    apply Seq.val
    focus
      rintro w1 u ⟨R1, n1, rfl⟩ hF
      simp [moreFacts, Fact.more, Oper.deps, Region.binds, List.filter_cons, World.more_drew] at hF
      simp [putFacts, Oper.deps, Region.binds, List.filter_cons, Region.dstOf, Fact.at, Act.put, World.more_drew]
      go_wp2
      exact ⟨by repeat (first | with_reducible exact Grew.refl _ | apply Grew.more | apply Grew.alloc | apply Grew.drew | apply Grew.drewN), rfl, _, _, rfl, rfl, rfl⟩
  rintro u w1 ⟨R1, n1, rfl⟩ hF
  clear hF
  simp [putFacts, Region.dstOf, Fact.at, Act.put, List.range_succ, World.more_drew]
  go_wp2_with (first
    | (go_at_call 7; refine (HGT.out _ (by repeat (first | with_reducible exact Grew.refl _ | apply Grew.more | apply Grew.alloc | apply Grew.drew | apply Grew.drewN))).mono ?_; rintro e w1 ⟨rfl, R2, n2, rfl⟩)
    | (go_at_call 8; refine (HCK.out _ (by repeat (first | with_reducible exact Grew.refl _ | apply Grew.more | apply Grew.alloc | apply Grew.drew | apply Grew.drewN))).mono ?_; rintro e w1 ⟨rfl, R3, n3, rfl⟩)
    | (go_at_call 10; refine (diskNew_any 1048576 _ (by decide)).mono ?_; rintro e w1 ⟨x, rfl, hx, hd, R4, n4, rfl⟩; (have hx2 := Nat.le_trans (Grew.below (by repeat (first | with_reducible exact Grew.refl _ | apply Grew.more | apply Grew.alloc | apply Grew.drew | apply Grew.drewN) : Grew w _)).size hx); (have HX := Lib.hid hx2); (have HD := Lib.hid hd); clear hx hx2 hd)
    | (go_at_call 9; refine (HCO.out _ x (HD.out.grew (by repeat (first | with_reducible exact Grew.refl _ | apply Grew.more | apply Grew.alloc | apply Grew.drew | apply Grew.drewN))) (by repeat (first | with_reducible exact Grew.refl _ | apply Grew.more | apply Grew.alloc | apply Grew.drew | apply Grew.drewN)) HX.out).mono ?_; rintro e w3 ⟨z, bk, lg, rfl, hc⟩; (have HC := Lib.hid hc); clear hc))
  go_loopg [11, 53] l.length (fun gg s11 s53 wr => ∃ (k : Nat) (q : List (List Gr.Stp)), k ≤ l.length ∧ l.length - k ≤ gg ∧ q.length ≤ k ∧ s53 = .int .i64 k ∧ Hid (Live3 w wr z bk lg g s11 q))
  case atStart => exact ⟨0, [], by omega, by omega, Nat.le_refl _, rfl, Lib.hid ⟨HC.out.grew (by repeat (first | with_reducible exact Grew.refl _ | apply Grew.more | apply Grew.alloc | apply Grew.drew | apply Grew.drewN)), Gr.Waits.nil _, ⟨[], OwnAt.nil _, trivial⟩, fun qv b _ hb => by cases hb⟩⟩
  case round =>
    obtain ⟨k, q, hk, hgg, hqk, rfl, HL⟩ := hrel
    rename World => wa
    by_cases hlt : k < l.length
    · obtain ⟨a', c', e, -, hx⟩ := HP.out.at
      cases e
      obtain ⟨b, off, rfl, hb, ⟨pa, pn, pc⟩, hst, hc⟩ := hx k hlt
      simp only [SlC.v] at hst hc
      have hg0 := HL.out.co.g
      have hcw := cell_grew hc hg0
      have hbw := Pre.ofCell hcw
      have hk2 : (k : Int) < l.length := by omega
      have HST := Lib.hid hst
      have HG8 := Lib.hid fun W' (gr : Grew w W') => great10_any (.slice none 0 0) _ [] l[k] W' (NodesAt.nil W') (hst.grew gr)
      rw [show greatG [] = false from rfl, Bool.false_or] at HG8
      have HPL := Lib.hid fun (hsm : ∀ s ∈ l[k], s.nd.frm.length ≤ 100 ∧ s.nd.prog.length ≤ 1000) W' (gr : Grew w W') => plan16_any _ l[k] W' (hst.grew gr) hsm
      have hpl := planR_len l[k]
      have HSU := Lib.hid fun W' (gr : Grew wa W') => coSubmit_any (planR l[k]).1 (HL.out.co.grew gr) hpl
      have HPS := Lib.hid (planR_sub (g := (firstM g).graph) (q := q) (p := l[k]))
      have HGP := Lib.hid (greatP_small (p := l[k]))
      have HG0 := Lib.hid hg0
      clear hx hst hc hg0 hpl
      generalize l[k] = p at *
      cases hgp : greatP p
      case true =>
        rw [hgp] at HG8
        clear hgp
        go_wp2_with (go_at_call 7; refine (HG8.out _ (HG0.out.trans (by repeat (first | with_reducible exact Grew.refl _ | apply Grew.more | apply Grew.alloc | apply Grew.drew | apply Grew.drewN)))).mono ?_; rintro e w1 ⟨rfl, R5, n5, rfl⟩)
        go_ret
        exact ⟨rfl, HG0.out.trans (by repeat (first | with_reducible exact Grew.refl _ | apply Grew.more | apply Grew.alloc | apply Grew.drew | apply Grew.drewN))⟩
      case false =>
        have hsm := HGP.out hgp
        rw [hgp] at HG8
        have HPL2 := Lib.hid (HPL.out hsm)
        have HSS : Hid (∀ s ∈ p, smallS s) := Lib.hid fun s hs => ⟨by have := hsm s hs; omega, by have := hsm s hs; omega⟩
        obtain ⟨⟨ts, te⟩, htp⟩ : ∃ r, planR p = r := ⟨_, rfl⟩
        rw [htp] at HPL2 HSU HPS
        simp only at HPL2 HSU HPS
        clear hgp hsm HPL HGP htp
        by_cases hte : te = 0
        case neg =>
          have hne : (te == 0) = false := by rw [beq_eq_false_iff_ne]; exact hte
          clear hte
          go_wp2_with (first
            | (go_at_call 7; refine (HG8.out _ (HG0.out.trans (by repeat (first | with_reducible exact Grew.refl _ | apply Grew.more | apply Grew.alloc | apply Grew.drew | apply Grew.drewN)))).mono ?_; rintro e w1 ⟨rfl, R5, n5, rfl⟩)
            | (go_at_call 11; refine (HPL2.out _ (HG0.out.trans (by repeat (first | with_reducible exact Grew.refl _ | apply Grew.more | apply Grew.alloc | apply Grew.drew | apply Grew.drewN)))).mono ?_; rintro e w1 ⟨rfl, R6, n6, rfl⟩))
          go_roundg (l.length - (k + 1))
          case measure => omega
          case rel => exact ⟨k + 1, q, by omega, by omega, by omega, by go_num, Lib.hid (HL.out.grew (by repeat (first | with_reducible exact Grew.refl _ | apply Grew.more | apply Grew.alloc | apply Grew.drew | apply Grew.drewN)))⟩
        case pos =>
          subst hte
          obtain ⟨es, hes⟩ : ∃ r, subE (firstM g).graph (q.map clP) ts = r := ⟨_, rfl⟩
          rw [hes] at HSU HPS
          clear hes
          by_cases hz0 : es = 0
          case neg =>
            have hne : (es == 0) = false := by rw [beq_eq_false_iff_ne]; exact hz0
            rw [if_neg hz0] at HSU
            clear hz0
            go_wp2_with (first
              | (go_at_call 7; refine (HG8.out _ (HG0.out.trans (by repeat (first | with_reducible exact Grew.refl _ | apply Grew.more | apply Grew.alloc | apply Grew.drew | apply Grew.drewN)))).mono ?_; rintro e w1 ⟨rfl, R5, n5, rfl⟩)
              | (go_at_call 11; refine (HPL2.out _ (HG0.out.trans (by repeat (first | with_reducible exact Grew.refl _ | apply Grew.more | apply Grew.alloc | apply Grew.drew | apply Grew.drewN)))).mono ?_; rintro e w1 ⟨rfl, R6, n6, rfl⟩)
              | (go_at_call 12; refine (HSU.out _ (by repeat (first | with_reducible exact Grew.refl _ | apply Grew.more | apply Grew.alloc | apply Grew.drew | apply Grew.drewN))).mono ?_; rintro e wS ⟨rfl, hcS, -, hkS⟩; (have HCS := Lib.hid hcS); (have HO2 := Lib.hid ((HL.out.grew (by repeat (first | with_reducible exact Grew.refl _ | apply Grew.more | apply Grew.alloc | apply Grew.drew | apply Grew.drewN))).own2 hkS)); clear hcS hkS))
            go_roundg (l.length - (k + 1))
            case measure => omega
            case rel => exact ⟨k + 1, q, by omega, by omega, by omega, by go_num, Lib.hid (Live3.grew ⟨HCS.out, HL.out.wt, HO2.out.1, HO2.out.2⟩ (by repeat (first | with_reducible exact Grew.refl _ | apply Grew.more | apply Grew.alloc | apply Grew.drew | apply Grew.drewN)))⟩
          case pos =>
            subst hz0
            obtain ⟨hp1, hp2⟩ := HPS.out rfl rfl
            rw [if_pos rfl, hp1] at HSU
            have HWT : Hid (Gr.Waits checkR (firstM g).graph ((q ++ [p]).map clP)) := Lib.hid (by rw [List.map_append]; exact HL.out.wt.snoc hp2)
            clear hp1 hp2
            go_wp2_with (first
              | (go_at_call 7; refine (HG8.out _ (HG0.out.trans (by repeat (first | with_reducible exact Grew.refl _ | apply Grew.more | apply Grew.alloc | apply Grew.drew | apply Grew.drewN)))).mono ?_; rintro e w1 ⟨rfl, R5, n5, rfl⟩)
              | (go_at_call 11; refine (HPL2.out _ (HG0.out.trans (by repeat (first | with_reducible exact Grew.refl _ | apply Grew.more | apply Grew.alloc | apply Grew.drew | apply Grew.drewN)))).mono ?_; rintro e w1 ⟨rfl, R6, n6, rfl⟩)
              | (go_at_call 12; refine (HSU.out _ (by repeat (first | with_reducible exact Grew.refl _ | apply Grew.more | apply Grew.alloc | apply Grew.drew | apply Grew.drewN))).mono ?_; rintro e wS ⟨rfl, hcS, -, hkS⟩; (have HCS : Hid (CoAt w wS z bk lg [] (firstM g) ((q ++ [p]).map clP) (.pointer none) false 0 0) := Lib.hid (by rw [List.map_append]; exact hcS)); (have HO2 := Lib.hid ((HL.out.grew (by repeat (first | with_reducible exact Grew.refl _ | apply Grew.more | apply Grew.alloc | apply Grew.drew | apply Grew.drewN))).own2 hkS)); clear hcS hkS)
              | (at_builtin; go_loud (obtain ⟨⟨ws, how, hrw⟩, hap⟩ := HO2.out; (have hlw := Rel.len hrw); refine wpList_ownK (w0 := w) rfl (.tmp 72) (.tmp 74) 23 _ _ _ _ [(pa, pn, pc)] rfl Tryz.underlying23 infoSl rfl (by decide) encSl_len encSl_one rfl (OwnAt.grew how (by repeat (first | with_reducible exact Grew.refl _ | apply Grew.more | apply Grew.alloc | apply Grew.drew | apply Grew.drewN))) (HCS.out.g.trans (by repeat (first | with_reducible exact Grew.refl _ | apply Grew.more | apply Grew.alloc | apply Grew.drew | apply Grew.drewN))) rfl (sl_at _ _ _ _ rfl (by simp [go_sem])) (by have := H20.out; simp; omega) (by decide) (by simp) ?_); intro v7 W7 hA; (have HL7 := Lib.hid (Live3.push (by repeat (first | with_reducible exact Grew.refl _ | apply Grew.more | apply Grew.alloc | apply Grew.drew | apply Grew.drewN)) HCS.out how hrw hap HWT.out ⟨HST.out, HSS.out⟩ hA)); clear hA how hrw hap hlw))
            go_roundg (l.length - (k + 1))
            case measure => omega
            case rel => exact ⟨k + 1, q ++ [p], by omega, by omega, by simp; omega, by go_num, Lib.hid (HL7.out.grew (by repeat (first | with_reducible exact Grew.refl _ | apply Grew.more | apply Grew.alloc | apply Grew.drew | apply Grew.drewN)))⟩
    · obtain rfl : k = l.length := by omega
      obtain ⟨ws, how, hrw⟩ := HL.out.ws
      have hlw := Rel.len hrw
      obtain ⟨aw, cw, ew⟩ := (OwnAt.rows how encSl_len).len
      rw [hlw] at ew
      subst ew
      have hq20 : q.length ≤ 20 := Nat.le_trans hqk H20.out
      have HQ20 := Lib.hid hq20
      have HRW := Lib.hid hrw
      have HWT := Lib.hid HL.out.wt
      have HL0 := HL
      clear hlw hgg hk hqk hlt
      have hap := HL.out.ap
      have HAP := Lib.hid (rfl : true = true)
      clear HAP hap
      cases un
      case' false =>
        have HCB : Hid (∃ uv pl la, CoAt w wa z bk lg [] (firstM g) (q.map clP) uv pl la 0 ∧ (i = 0 → pl = false)) := Lib.hid ⟨_, _, _, HL.out.co, fun _ => rfl⟩
        have HOW := Lib.hid how
        clear how hrw HL HL0
        go_upto_region 21 with fail
        generalize wa = wb at *
        by_cases h0 : i = 0
      case' true =>
        have HBE := Lib.hid (coBegin_any HL.out.co (by decide))
        have HOW0 := Lib.hid how
        clear how hrw HL0
        go_upto_region 21 with (go_at_call 13; refine HBE.out.mono ?_; rintro e wb ⟨rfl, x4, b4, hc4, -, -, -, hl4⟩; (have HC4 := Lib.hid hc4); (have HOW := Lib.hid (hl4.own HOW0.out (by decide))); clear hc4 hl4)
        clear HOW0 HL HBE
        by_cases h0 : i = 0 ∧ 0 < q.length
        · obtain ⟨rfl, hq0⟩ := h0
          have hc5 := HC4.out
          rw [decide_eq_true (show 0 < (q.map clP).length by rw [List.length_map]; exact hq0)] at hc5
          have HCA := Lib.hid (coCancel_busy hc5 (by rw [List.length_map]; exact hq0))
          have HQU := Lib.hid fun W' (gr : Grew wb W') => coQueue_any (hc5.grew gr)
          rw [List.length_map] at HQU
          have q1 : ¬ q.length = 0 := by omega
          have q2 : ¬ q = [] := by intro e; rw [e] at hq0; simp at hq0
          have q3 : ¬ (q.length : Int) ≤ 0 := by omega
          have HG5 := Lib.hid hc5.g
          clear hc5 hq0 HC4
          go_wp2_with (first
            | (go_at_call 14; refine HCA.out.mono ?_; rintro e w5 ⟨rfl, R5, n5, rfl⟩)
            | (go_at_call 15; refine (HQU.out _ (by repeat (first | with_reducible exact Grew.refl _ | apply Grew.more | apply Grew.alloc | apply Grew.drew | apply Grew.drewN))).mono ?_; rintro e w6 ⟨rfl, R6, n6, rfl⟩))
          go_ret
          exact ⟨rfl, HG5.out.trans (by repeat (first | with_reducible exact Grew.refl _ | apply Grew.more | apply Grew.alloc | apply Grew.drew | apply Grew.drewN))⟩
        have HCB : Hid (∃ uv pl la, CoAt w wb z bk lg [] (firstM g) (q.map clP) uv pl la 0 ∧ (i = 0 → pl = false)) := Lib.hid ⟨_, _, _, HC4.out, fun h => decide_eq_false (by rw [List.length_map]; exact fun h2 => h0 ⟨h, h2⟩)⟩
        clear HC4
      all_goals
        obtain ⟨uv, pl, la, hcb, hpl⟩ := HCB.out
        have HG5 := Lib.hid hcb.g
        have hq30 : (q.length : Int) ≤ 9223372036854775807 := by omega
        by_cases h1 : i < 0 ∨ (q.length : Int) ≤ i
        · have HCA := Lib.hid (coCancel_none i hcb (by rw [List.length_map]; exact h1))
          have HQU := Lib.hid fun W' (gr : Grew wb W') => coQueue_any (hcb.grew gr)
          rw [List.length_map] at HQU
          clear hcb hpl HCB h0
          by_cases h2 : i < 0
          · clear h1
            go_wp2_with (first
              | (go_at_call 14; refine HCA.out.mono ?_; rintro e w5 ⟨rfl, R5, n5, rfl⟩)
              | (go_at_call 15; refine (HQU.out _ (by repeat (first | with_reducible exact Grew.refl _ | apply Grew.more | apply Grew.alloc | apply Grew.drew | apply Grew.drewN))).mono ?_; rintro e w6 ⟨rfl, R6, n6, rfl⟩))
            go_ret
            exact ⟨rfl, HG5.out.trans (by repeat (first | with_reducible exact Grew.refl _ | apply Grew.more | apply Grew.alloc | apply Grew.drew | apply Grew.drewN))⟩
          · have h3 : (q.length : Int) ≤ i := by omega
            clear h1
            go_wp2_with (first
              | (go_at_call 14; refine HCA.out.mono ?_; rintro e w5 ⟨rfl, R5, n5, rfl⟩)
              | (go_at_call 15; refine (HQU.out _ (by repeat (first | with_reducible exact Grew.refl _ | apply Grew.more | apply Grew.alloc | apply Grew.drew | apply Grew.drewN))).mono ?_; rintro e w6 ⟨rfl, R6, n6, rfl⟩))
            go_ret
            exact ⟨rfl, HG5.out.trans (by repeat (first | with_reducible exact Grew.refl _ | apply Grew.more | apply Grew.alloc | apply Grew.drew | apply Grew.drewN))⟩
        · have h1a : ¬ i < 0 := fun h => h1 (.inl h)
          have h1b : ¬ (q.length : Int) ≤ i := fun h => h1 (.inr h)
          obtain ⟨n, rfl⟩ : ∃ n : Nat, i = n := ⟨i.toNat, by omega⟩
          have hnq : n < q.length := by omega
          have HCA := Lib.hid (coCancel_any n hcb (by rw [List.length_map]; exact hnq) (fun h => hpl (by omega)) (by decide))
          first
            | (have hz1 : ((n : Int) == 0) = false := by rw [beq_eq_false_iff_ne]; omega)
            | (have hz1 : ((n : Int) == 0) = true := by rw [beq_iff_eq]; exact h0)
          obtain ⟨hv9, qv9, hzb, -⟩ := hcb.blk
          have HZB : Hid (∀ b, Value.ownBlock (.slice aw q.length cw) = some b → b < wb.heap.size ∧ b ≠ z) := Lib.hid fun b hb => by
            obtain ⟨-, c, hc⟩ := OwnAt.block HOW.out hb
            exact ⟨heap_lt hc, fun e => by rw [e, hzb] at hc; cases hc⟩
          have HCN : Hid ((Gr.backQ checkR (firstM g).graph (q.map clP) n).length = (Gr.keepQ checkR g (q.eraseIdx n)).length) := Lib.hid (Gr.back_count chkR (Gr.normG_perm HRR.out.ids HRR.out.r7) HWT.out n)
          have HNQ := Lib.hid hnq
          clear hcb hpl HCB h0 h1 hzb HWT
          generalize Gr.backQ checkR (firstM g).graph (q.map clP) n = bq at *
          rw [List.length_map] at HCA
          have hz2 : (n : Int) ≤ 20 := by have := HQ20.out; omega
          have h1c : ¬ q.length ≤ n := by omega
          go_wp2_with (go_at_call 14; refine HCA.out.mono ?_; rintro e wC ⟨rfl, hcC, hkC⟩; (have HOC : Hid (OwnAt w.heap.size 35 1 encSl wC (.slice aw q.length cw) ws) := Lib.hid (OwnAt.same HOW.out fun b hb => hkC.2 b (HZB.out b hb).1 (HZB.out b hb).2)); (have HCC := Lib.hid hcC); clear hcC hkC)
          clear hz1 h1a h1b h1c
          go_loopg [17, 18, 119] q.length (fun gg s17 s18 s119 wr => ∃ k : Nat, k ≤ q.length ∧ q.length - k ≤ gg ∧ s119 = .int .i64 k ∧ s18 = .int .i64 ((Gr.keepQ checkR g ((q.take k).eraseIdx n)).length : Nat) ∧ Hid (Grew wC wr) ∧ Hid (∃ lk, NodesAt wr s17 lk ∧ Small lk ∧ lk.Perm (Gr.aheadG checkR g ((q.take k).eraseIdx n))))
          case atStart => exact ⟨0, by omega, by omega, rfl, rfl, Lib.hid (by repeat (first | with_reducible exact Grew.refl _ | apply Grew.more | apply Grew.alloc | apply Grew.drew | apply Grew.drewN)), Lib.hid ⟨g, HV.out.grew (HCC.out.g.trans (by repeat (first | with_reducible exact Grew.refl _ | apply Grew.more | apply Grew.alloc | apply Grew.drew | apply Grew.drewN))), HSM.out, List.Perm.refl _⟩⟩
          case round =>
            obtain ⟨k, hk, hgg, rfl, rfl, HG, HLK⟩ := hrel
            rename World => wd
            by_cases hlt : k < q.length
            · have hk2 : (k : Int) < q.length := by omega
              obtain ⟨a8, c8, e8, -, hx8⟩ := RowsAt.open1 (f := SlC.v) (OwnAt.rows HOC.out encSl_len)
              have hlw := Rel.len HRW.out
              obtain ⟨b8, off8, ha8, hb8, hc8⟩ := hx8 k (by omega)
              have q1 := (Value.slice.inj e8).1
              rw [ha8] at q1
              subst q1
              have hst := Rel.get HRW.out k _ _ (List.getElem?_eq_getElem (by omega)) (List.getElem?_eq_getElem hlt)
              obtain ⟨⟨pa, pn, pc⟩, hpx⟩ : ∃ x, ws[k]'(by omega) = x := ⟨_, rfl⟩
              rw [hpx] at hst hc8
              simp only [SlC.v] at hst hc8
              have hcw := cell_grew hc8 HG.out
              have hpw := Pre.ofCell hcw
              clear hx8 hc8 hb8 hpx hlw e8 ha8
              by_cases hkn : k = n
              · subst hkn
                have he := Gr.erase_eq (q := q) HNQ.out
                clear hst
                go_wp2_with fail
                go_roundg (q.length - (k + 1))
                case measure => omega
                case rel => exact ⟨k + 1, by omega, by omega, by go_num, by rw [he], Lib.hid (HG.out.trans (by repeat (first | with_reducible exact Grew.refl _ | apply Grew.more | apply Grew.alloc | apply Grew.drew | apply Grew.drewN))), by rw [he]; obtain ⟨lk, h1, h2, h3⟩ := HLK.out; exact Lib.hid ⟨lk, h1.grew (by repeat (first | with_reducible exact Grew.refl _ | apply Grew.more | apply Grew.alloc | apply Grew.drew | apply Grew.drewN)), h2, h3⟩⟩
              · have hne : ((k : Int) == (n : Int)) = false := by rw [beq_eq_false_iff_ne]; omega
                have HER := Lib.hid (Gr.erase_ne (q := q) (i := n) hlt hkn)
                obtain ⟨lk, hl1, hl2, hl3⟩ := HLK.out
                have HAP := Lib.hid fun W' (gr : Grew wd W') => planApply_any _ _ lk q[k] W' (hl1.grew gr) hl2 (hst.1.grew ((HCC.out.g.trans HG.out).trans gr)) hst.2
                obtain ⟨⟨er, ir, gq⟩, hrr⟩ : ∃ r, Gr.applyE checkR lk q[k] = r := ⟨_, rfl⟩
                have hgo : Gr.goes checkR (Gr.aheadG checkR g ((q.take k).eraseIdx n)) q[k] = decide (er = 0) := by rw [← Gr.goes_perm chkR hl3]; unfold Gr.goes; rw [hrr]
                have hgl : Gr.goes checkR lk q[k] = decide (er = 0) := by unfold Gr.goes; rw [hrr]
                have hnx := Gr.nextG_perm chkR hl3 q[k]
                have HKS := Lib.hid (Gr.keepQ_snoc (chk := checkR) g ((q.take k).eraseIdx n) q[k])
                have HAS := Lib.hid (Gr.aheadG_snoc (chk := checkR) g ((q.take k).eraseIdx n) q[k])
                have hkl := Gr.keepQ_len (chk := checkR) ((q.take k).eraseIdx n) g
                have hel : ((q.take k).eraseIdx n).length ≤ 20 := Nat.le_trans (List.length_eraseIdx_le _ _) (by rw [List.length_take]; have := HQ20.out; omega)
                rw [hgo] at HKS
                unfold Gr.nextG at hnx
                rw [hgl, hgo, hrr] at hnx
                unfold Gr.nextG at HAS
                rw [hgo] at HAS
                rw [hrr] at HAP
                have HNX := Lib.hid hnx
                have HL2 := Lib.hid hl2
                have HL1 := Lib.hid hl1
                obtain ⟨stay, hsy⟩ : ∃ x, (Gr.keepQ checkR g ((q.take k).eraseIdx n)).length = x := ⟨_, rfl⟩
                have hs30 : (stay : Int) + 1 ≤ 9223372036854775807 := by omega
                have HSY := Lib.hid hsy
                rw [hsy]
                clear hl1 hl2 hl3 hst hrr hgo hgl hnx hkl hel hsy hkn HLK
                by_cases h0 : er = 0
                · subst h0
                  go_wp2_with (go_at_call 16; refine (HAP.out _ (by repeat (first | with_reducible exact Grew.refl _ | apply Grew.more | apply Grew.alloc | apply Grew.drew | apply Grew.drewN))).mono ?_; rintro e w2 ⟨⟨R2, n2, rfl⟩, h9⟩; rcases h9 with ⟨hq9, -⟩ | ⟨-, v9, lc9, l9, rfl, ho9, hi9, hp9, -, hs9⟩; exact absurd rfl hq9; (have H9 := Lib.hid (hi9.at ho9)); (have HP9 := Lib.hid hp9); (have HS9 := Lib.hid hs9); clear ho9 hi9 hp9 hs9)
                  go_roundg (q.length - (k + 1))
                  case measure => omega
                  case rel => exact ⟨k + 1, by omega, by omega, by go_num, by rw [HER.out, HKS.out, List.length_append, HSY.out]; simp, Lib.hid (HG.out.trans (by repeat (first | with_reducible exact Grew.refl _ | apply Grew.more | apply Grew.alloc | apply Grew.drew | apply Grew.drewN))), Lib.hid ⟨l9, H9.out.grew (by repeat (first | with_reducible exact Grew.refl _ | apply Grew.more | apply Grew.alloc | apply Grew.drew | apply Grew.drewN)), HS9.out, by rw [HER.out, HAS.out]; exact HP9.out.trans (by simpa using HNX.out)⟩⟩
                · have hq0 : (er == 0) = false := by rw [beq_eq_false_iff_ne]; exact h0
                  have HR0 := Lib.hid h0
                  clear h0
                  go_wp2_with (go_at_call 16; refine (HAP.out _ (by repeat (first | with_reducible exact Grew.refl _ | apply Grew.more | apply Grew.alloc | apply Grew.drew | apply Grew.drewN))).mono ?_; rintro e w2 ⟨⟨R2, n2, rfl⟩, h9⟩; rcases h9 with ⟨-, rfl⟩ | ⟨h9, -⟩; rotate_left; exact absurd h9 HR0.out)
                  go_roundg (q.length - (k + 1))
                  case measure => omega
                  case rel => exact ⟨k + 1, by omega, by omega, by go_num, by rw [HER.out, HKS.out, List.length_append, HSY.out]; simp [HR0.out], Lib.hid (HG.out.trans (by repeat (first | with_reducible exact Grew.refl _ | apply Grew.more | apply Grew.alloc | apply Grew.drew | apply Grew.drewN))), Lib.hid ⟨lk, HL1.out.grew (by repeat (first | with_reducible exact Grew.refl _ | apply Grew.more | apply Grew.alloc | apply Grew.drew | apply Grew.drewN)), HL2.out, by rw [HER.out, HAS.out]; simpa [HR0.out] using HNX.out⟩⟩
            · obtain rfl : k = q.length := by omega
              rw [List.take_length, ← HCN.out]
              have hbl : bq.length ≤ 20 := by rw [HCN.out]; exact Nat.le_trans (Gr.keepQ_len _ _) (Nat.le_trans (List.length_eraseIdx_le _ _) HQ20.out)
              have HQU := Lib.hid fun W' (gr : Grew wC W') => coQueue_any (HCC.out.grew gr)
              have HRF := Lib.hid fun W' (gr : Grew wC W') => coRefused_any (HCC.out.grew gr)
              have HNI := Lib.hid fun W' => coCancel_nil (n : Int) W'
              have hs1 : (q.length : Int) - 1 ≤ 9223372036854775807 := by omega
              have hs2 : -9223372036854775808 ≤ (q.length : Int) - 1 := by omega
              have hs3 : (q.length : Int) - 1 - bq.length ≤ 9223372036854775807 := by omega
              have hs4 : -9223372036854775808 ≤ (q.length : Int) - 1 - bq.length := by omega
              clear hlt hk hgg HLK HCN
              go_wp2_with (first
                | (go_at_call 15; refine (HQU.out _ (HG.out.trans (by repeat (first | with_reducible exact Grew.refl _ | apply Grew.more | apply Grew.alloc | apply Grew.drew | apply Grew.drewN)))).mono ?_; rintro e w6 ⟨rfl, R6, n6, rfl⟩)
                | (go_at_call 17; refine (HRF.out _ (HG.out.trans (by repeat (first | with_reducible exact Grew.refl _ | apply Grew.more | apply Grew.alloc | apply Grew.drew | apply Grew.drewN)))).mono ?_; rintro e w7 ⟨rfl, R7, n7, rfl⟩)
                | (go_at_call 14; refine (HNI.out _).mono ?_; rintro e w8 ⟨rfl, R8, n8, rfl⟩))
              go_ret
              exact ⟨by simp, HCC.out.g.trans (HG.out.trans (by repeat (first | with_reducible exact Grew.refl _ | apply Grew.more | apply Grew.alloc | apply Grew.drew | apply Grew.drewN)))⟩
theorem coordCancels_any (v vp : Value) (g : List Gr.Nd) (l : List (List Gr.Stp)) (i : Int) (un : Bool) (w : World) (hv : NodesAt w v g) (hp : PlansAt w vp l) : Calls Tryz.prog 3 #[v, vp, .agg #[.int .i64 i, .bool un]] w (Gives (.bool true) w) := by
  by_cases h : greatG g = true ∨ 20 < l.length ∨ ¬ Gr.RightR g
  · exact coordCancels_great v vp g l i un w hv hp h
  · refine coordCancels_go v vp g l i un w hv hp ?_ ?_ ?_
    · cases hg : greatG g
      · rfl
      · exact absurd (.inl hg) h
    · exact Nat.le_of_not_lt fun h2 => h (.inr (.inl h2))
    · exact Classical.byContradiction fun h2 => h (.inr (.inr h2))
end Go.Proofs.YtpbohimddmploaaGreat
namespace Go.Proofs.YtpbohimddmploaaGreat
open Go.RowKit Ga Go.ChangeShapes Go.WideShapes

theorem cells_slStep : Tryz.prog.cellsOf 35 = 1 := by kernel_rfl
theorem cells_cancel : Tryz.prog.cellsOf 25 = 2 := by kernel_rfl
theorem opens_plan : Opens Tryz.prog 35 (fun w cs (x : SlC × List Gr.Stp) => cs = encSl x.1 ∧ StepsAt w x.1.v x.2) := by
  intro H enc w fuel cs x hx
  obtain ⟨l, u, h1, h2⟩ := Opens.slice Tryz.underlying35 cells_step (by decide) opens_step H enc w fuel cs x hx
  have h3 := steps_of h2
  obtain ⟨a, cap, rfl, -⟩ := h2
  exact ⟨((a, l.length, cap), l.map (·.2)), h1, h3⟩
theorem plans_of {w : World} {v : Value} {l : List (SlC × List Gr.Stp)} (h : SlAt 1 (fun w cs (x : SlC × List Gr.Stp) => cs = encSl x.1 ∧ StepsAt w x.1.v x.2) w v l) : PlansAt w v (l.map (·.2)) := by
  obtain ⟨a, cap, rfl, hl, hm, hnil, hx⟩ := h
  refine ⟨l.map (·.1), ⟨a, cap, by simp, Nat.le_trans (by simpa using hl) hm, fun hne => ?_⟩, ?_⟩
  · obtain ⟨b, off, rfl, hc⟩ := hx (by intro e; subst e; exact hne rfl)
    refine ⟨b, off, rfl, fun i c hi j u hu => ?_⟩
    rw [List.getElem?_map] at hi
    obtain ⟨y, hy, rfl⟩ := Option.map_eq_some_iff.1 hi
    obtain ⟨cs, -, ⟨rfl, -⟩, h2⟩ := hc i y hy
    exact h2 j u hu
  · have key : ∀ y ∈ l, StepsAt w y.1.v y.2 := fun y hy => by
      obtain ⟨i, hi, rfl⟩ := List.mem_iff_getElem.1 hy
      obtain ⟨b, off, rfl, hx2⟩ := hx (by intro e; subst e; simp at hi)
      obtain ⟨cs, -, ⟨-, h1⟩, -⟩ := hx2 i _ (List.getElem?_eq_getElem hi)
      exact h1
    clear hx hl hm hnil
    induction l with
    | nil => exact trivial
    | cons y l ih => exact ⟨key y List.mem_cons_self, ih fun z hz => key z (List.mem_cons_of_mem _ hz)⟩
theorem arg_plans {H : Type} {enc : TypeId × Value → H} {w : World} {v : Value} {d : DataW H} {ps : List MemPlace} {r : Reach} {b : Nat} (ho : Value.okWide Tryz.prog w r b 23 v) (h : DataW.Trod enc Tryz.prog w 0 (fun _ => true) true 23 v d ps) : ∃ l, PlansAt w v l := by
  obtain ⟨l, u, h1, h2⟩ := (Opens.slice Tryz.underlying23 cells_slStep (by decide) opens_plan).arg h
  obtain rfl := cells_slice Tryz.underlying23 ho h1
  exact ⟨_, plans_of h2⟩
theorem opens_cancel : Opens Tryz.prog 25 (fun _ cs (x : Int × Bool) => cs = [Value.int .i64 x.1, Value.bool x.2] ∧ True) := by
  intro H enc w fuel cs x hx
  obtain ⟨hl, hf⟩ := Opens.fields Tryz.underlying25 hx
  rw [cells_cancel] at hl
  match cs, hl with
  | [c0, c1], _ =>
    obtain ⟨n0, y0, h0⟩ := hf 0 _ rfl
    obtain ⟨n1, y1, h1⟩ := hf 1 _ rfl
    have h0' : DataW.trod enc Tryz.prog w 0 (fun _ => true) true n0 3 (([c0, c1].drop 0).take (Tryz.prog.cellsOf 3)) = some y0 := h0
    rw [cells_int1] at h0'
    have h1' : DataW.trod enc Tryz.prog w 0 (fun _ => true) true n1 4 (([c0, c1].drop 1).take (Tryz.prog.cellsOf 4)) = some y1 := h1
    rw [cells_bool1] at h1'
    obtain ⟨i0, e0, -⟩ := opens_int1 H enc w n0 _ _ h0'
    obtain ⟨b1, e1, -⟩ := opens_bool1 H enc w n1 _ _ h1'
    simp at e0 e1
    subst e0 e1
    exact ⟨(i0, b1), rfl, trivial⟩
theorem arg_cancel {H : Type} {enc : TypeId × Value → H} {w : World} {v : Value} {d : DataW H} {ps : List MemPlace} {r : Reach} {b : Nat} (ho : Value.okWide Tryz.prog w r b 25 v) (h : DataW.Trod enc Tryz.prog w 0 (fun _ => true) true 25 v d ps) : ∃ (i : Int) (u : Bool), v = .agg #[.int .i64 i, .bool u] := by
  obtain ⟨⟨i, u⟩, h1, -⟩ := opens_cancel.arg h
  exact ⟨i, u, cells_agg Tryz.underlying25 ho h1⟩
end Go.Proofs.YtpbohimddmploaaGreat
/-
  The statement CoordCancels: called with any graph, any plans and any plan that is taken back the law returns true, and each argument reads afterwards as it read before. Conditions: none.
-/
namespace Go.Proofs.YtpbohimddmploaaGreat.coordCancels
open Go.ChangeShapes Go.WideShapes Go.ChangeAt Go.RowKit

theorem laid23 : laidOutB Tryz.prog = true := by kernel_rfl

theorem own : ownKnob Tryz.prog.godebug = none := by kernel_rfl

theorem lifted (os : Os) (started : os.Started) (H : Type) (enc : TypeId × Value → H) :
    ReturnsInHanded {} Tryz.checked os 3 .any (Rows.coordCancelsSpec.pre6 enc Tryz.prog Tryz.f3 Rows.coordCancelsRow.domain false) (Rows.coordCancelsSpec.post enc Tryz.prog Tryz.f3 false true false false) := by
  refine returnsInHanded_of_change (C := Tryz.checked) own started (by kernel_rfl) Tryz.func3
    (ChangeSpec.witness6 (enc := enc) (C := Tryz.checked) false ⟨#[], #[.slice none 0 0, .slice none 0 0, .agg #[.int .i64 0, .bool false]], []⟩ 8 (by kernel_rfl) (by kernel_rfl) (by kernel_rfl) (by kernel_rfl)) ?_
  intro W base args ds gs before hval0 hW _ _
  have hval : ∀ (j : Nat) t v, Tryz.f3.params[j]? = some t → args[j]? = some v → Value.okWide Tryz.prog W .any base t v := hval0
  have hW' := hW
  obtain ⟨p, q, hA0, hV, rfl, _, _⟩ := hW
  have hA : DataW.TrodAll enc Tryz.prog W 0 (fun _ => true) true Tryz.f3.params.toList args.toList ds p := hA0
  rw [Tryz.params3] at hA hval
  obtain ⟨v0, v1, v2, d0, d1, d2, p0, p1, p2, hargs, rfl, rfl, h0, h1, h2⟩ := trodAll_three hA
  obtain rfl : args = #[v0, v1, v2] := by cases args; simp_all
  obtain ⟨g, hg0⟩ := arg_nodes (hval 0 _ _ rfl rfl) h0
  obtain ⟨l, hl0⟩ := arg_plans (hval 1 _ _ rfl rfl) h1
  obtain ⟨i, u, rfl⟩ := arg_cancel (hval 2 _ _ rfl rfl) h2
  refine (coordCancels_any v0 v1 g l i u W hg0 hl0).mono fun e W' he => ?_
  obtain ⟨rfl, hg⟩ := he
  exact ⟨_, rfl, law_post laid23 (by kernel_rfl) rfl rfl Tryz.underlying4 hW' (fun gs h => by subst h; rfl) hg⟩

theorem holds : Rows.CoordCancelsSaid :=
  OpenClaim.holds_of_wide 3 Tryz.f3 rfl rfl rfl rfl rfl rfl rfl ⟨rfl, rfl, rfl, rfl, rfl⟩ rfl rfl rfl rfl rfl (by kernel_rfl) Tryz.func3 (by kernel_rfl)
    (of_decide_eq_true (by kernel_rfl)) (by unfold Func.isWrapper; rw [if_neg (of_decide_eq_false (by kernel_rfl))]; exact ⟨rfl, rfl⟩)
    (fun os started H enc _ => lifted os started H enc)
#print axioms holds
end Go.Proofs.YtpbohimddmploaaGreat.coordCancels
