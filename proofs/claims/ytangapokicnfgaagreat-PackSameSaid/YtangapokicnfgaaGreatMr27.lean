import Derived.Test.YtangapokicnfgaaGreatMr26
import Derived.ChangeKeysEq
/-! pack.sorted: the nodes stand by their numbers. -/
namespace Go.Proofs.YtangapokicnfgaaGreat
set_option linter.unusedSimpArgs false
set_option linter.unusedVariables false
open Go.RowKit Ga
set_option maxRecDepth 100000

def sortedB (l : List Gr.Nd) : Bool := decide (l.Pairwise fun a b => a.id ≤ b.id)
theorem sortedB_true {l : List Gr.Nd} (h : ∀ j (hj : j < l.length), 0 < j → l[j - 1].id ≤ l[j].id) : sortedB l = true := by
  unfold sortedB
  rw [decide_eq_true_eq, List.pairwise_iff_getElem]
  have key : ∀ d i (hj : i + d < l.length), l[i].id ≤ l[i + d].id := by
    intro d
    induction d with
    | zero => intro i hj; exact Int.le_refl _
    | succ d ih =>
      intro i hj
      have h1 := ih i (by omega)
      have h2 := h (i + (d + 1)) hj (by omega)
      simp only [show i + (d + 1) - 1 = i + d by omega] at h2
      exact Int.le_trans h1 h2
  intro i j hi hj hij
  have := key (j - i) i (by omega)
  simp only [show i + (j - i) = j by omega] at this
  exact this
theorem sortedB_false {l : List Gr.Nd} {j : Nat} (hj : j < l.length) (h0 : 0 < j) (h : l[j].id < l[j - 1].id) : sortedB l = false := by
  unfold sortedB
  rw [decide_eq_false_iff_not, List.pairwise_iff_getElem]
  intro hp
  have := hp (j - 1) j (by omega) hj (by omega)
  omega
theorem cmpD_any (x y : NdC) (W : World) (h1 : 0 ≤ x.id ∧ x.id ≤ 1000) (h2 : 0 ≤ y.id ∧ y.id ≤ 1000) : Calls Tryz.prog 83 #[.agg #[.int .i64 x.id, .int .i64 x.kind, .slice x.af x.nf x.cf, .slice x.ap x.np x.cp, .int .i64 x.par, .int .i64 x.r0, .int .i64 x.r1, .int .i64 x.r2, .int .i64 x.r3, .int .i64 x.r4, .int .i64 x.r5, .int .i64 x.r6, .int .i64 x.r7], .agg #[.int .i64 y.id, .int .i64 y.kind, .slice y.af y.nf y.cf, .slice y.ap y.np y.cp, .int .i64 y.par, .int .i64 y.r0, .int .i64 y.r1, .int .i64 y.r2, .int .i64 y.r3, .int .i64 y.r4, .int .i64 y.r5, .int .i64 y.r6, .int .i64 y.r7]] W (Gives (.int .i64 (x.id - y.id)) W) := by
  obtain ⟨xi, xk, xaf, xnf, xcf, xap, xnp, xcp, xpar, x0, x1, x2, x3, x4, x5, x6, x7⟩ := x
  obtain ⟨yi, yk, yaf, ynf, ycf, yap, ynp, ycp, ypar, y0, y1, y2, y3, y4, y5, y6, y7⟩ := y
  simp only at *
  obtain ⟨h1, h1'⟩ := h1
  obtain ⟨h2, h2'⟩ := h2
  go_enter Tryz.func83, Tryz.ntmps83
  go_wp2
  go_ret
  refine ⟨rfl, ?_⟩
  repeat (first | with_reducible exact Grew.refl _ | apply Grew.more | apply Grew.alloc | apply Grew.drew | apply Grew.drewN)
theorem enters83 : ∀ args w, (callFunc 83 args).run Tryz.prog w = .ok (.enter 83 args) w := enters_of Tryz.func83 (by kernel_rfl) rfl
set_option maxHeartbeats 8000000 in
theorem isSorted_any (v : Value) (l : List Gr.Nd) (w : World) (hv : NodesAt w v l) (hid : ∀ n ∈ l, 0 ≤ n.id ∧ n.id ≤ 1000) (hl : l.length ≤ 1000) :
    Calls Tryz.prog 82 #[v, .func (.func 83) #[] #[]] w (Gives (.bool (sortedB l)) w) := by
  have HV := Lib.hid hv
  have HID := Lib.hid hid
  have eg := enters83
  obtain ⟨a, cap, rfl, hm, -⟩ := hv.openC
  clear hv hid
  go_enter Tryz.func82, Tryz.ntmps82
  go_wp2
  go_loopg [5] l.length (fun gg s5 wr => ∃ i : Int, -1 ≤ i ∧ i < l.length ∧ i ≤ gg ∧ s5 = .int .i64 i ∧ Hid (Grew w wr) ∧ Hid (∀ j (hj : j < l.length), i < j → 0 < j → l[j - 1].id ≤ l[j].id))
  case atStart => exact ⟨(l.length : Int) - 1, by omega, by omega, by omega, rfl, Lib.hid (by repeat (first | with_reducible exact Grew.refl _ | apply Grew.more | apply Grew.alloc | apply Grew.drew | apply Grew.drewN)), Lib.hid fun j hj h _ => by omega⟩
  case round =>
    obtain ⟨i, hi0, hi1, hgg, rfl, HG, HNO⟩ := hrel
    by_cases hpos : 0 < i
    · obtain ⟨k, rfl⟩ : ∃ k : Nat, i = (k : Int) + 1 := ⟨(i - 1).toNat, by omega⟩
      have hk1 : k + 1 < l.length := by omega
      obtain ⟨a', cap', e, -, hx⟩ := (HV.out.grew HG.out).openC
      cases e
      obtain ⟨b, off, c, rfl, hb, hn, c0, c1, c2, c3, c4, c5, c6, c7, c8, c9, c10, c11, c12⟩ := hx (k + 1) hk1
      obtain ⟨b', off', d, eb, hb', hn', d0, d1, d2, d3, d4, d5, d6, d7, d8, d9, d10, d11, d12⟩ := hx k (by omega)
      cases eb
      have hi1 := HID.out _ (List.getElem_mem hk1)
      have hi2 := HID.out _ (List.getElem_mem (show k < l.length by omega))
      have e1 := hn.id
      have e2 := hn'.id
      rw [e1] at hi1
      rw [e2] at hi2
      have hcm := fun W => cmpD_any c d W hi1 hi2
      have E1 := Lib.hid e1
      have E2 := Lib.hid e2
      clear hx hn hn' e1 e2
      obtain ⟨cid, kind, af, nf, cf, ap, np, cp, par, r0, r1, r2, r3, r4, r5, r6, r7⟩ := c
      obtain ⟨did, dkind, daf, dnf, dcf, dap, dnp, dcp, dpar, t0, t1, t2, t3, t4, t5, t6, t7⟩ := d
      simp only at c0 c1 c2 c3 c4 c5 c6 c7 c8 c9 c10 c11 c12 d0 d1 d2 d3 d4 d5 d6 d7 d8 d9 d10 d11 d12 hcm hi1 hi2
      have HCM := Lib.hid hcm
      obtain ⟨i1, i2⟩ := hi1
      obtain ⟨j1, j2⟩ := hi2
      clear hcm
      go_upto_region 4 with fail
      refine wp_region_seq 12 Tryz.mixed (by kernel_rfl) (by kernel_rfl) ?_
      iterate 12
        apply Seq.val
        focus
          rintro w1 u ⟨R1, n1, rfl⟩ hF
          simp [moreFacts, Fact.more, Oper.deps, Region.binds, List.filter_cons, World.more_drew] at hF
          simp [putFacts, Oper.deps, Region.binds, List.filter_cons, Region.dstOf, Fact.at, Act.put, World.more_drew]
          go_wp2_with (go_at_fn 83; refine (HCM.out _).mono ?_; rintro e w2 ⟨rfl, R3, n3, rfl⟩)
          exact ⟨by repeat (first | with_reducible exact Grew.refl _ | apply Grew.more | apply Grew.alloc | apply Grew.drew | apply Grew.drewN), rfl, _, _, rfl, rfl, rfl⟩
      rintro u w1 ⟨R1, n1, rfl⟩ hF
      clear hF
      simp [putFacts, Region.dstOf, Fact.at, Act.put, List.range_succ, World.more_drew]
      by_cases hlt : cid - did < 0
      · have hr := sortedB_false hk1 (by omega) (by simp only [Nat.add_sub_cancel]; rw [E1.out, E2.out]; simp only; omega)
        have HR := Lib.hid hr
        clear hr
        go_wp2
        go_ret
        exact ⟨by rw [HR.out]; rfl, HG.out.trans (by repeat (first | with_reducible exact Grew.refl _ | apply Grew.more | apply Grew.alloc | apply Grew.drew | apply Grew.drewN))⟩
      · have hge : 0 ≤ cid - did := by omega
        go_wp2
        go_roundg (k : Nat)
        case measure => omega
        case rel => exact ⟨(k : Int), by omega, by omega, by omega, by go_num, Lib.hid (HG.out.trans (by repeat (first | with_reducible exact Grew.refl _ | apply Grew.more | apply Grew.alloc | apply Grew.drew | apply Grew.drewN))), Lib.hid fun j hj h h0 => by
          by_cases h1 : (k : Int) + 1 < j
          · exact HNO.out j hj h1 h0
          · obtain rfl : j = k + 1 := by omega
            have h4 : l[k + 1].id = cid := E1.out
            have h5 : l[k].id = did := E2.out
            show l[k].id ≤ l[k + 1].id
            omega⟩
    · go_wp2
      have hr := sortedB_true fun j hj h0 => HNO.out j hj (by omega) h0
      have HR := Lib.hid hr
      clear hr
      go_ret
      exact ⟨by rw [HR.out]; rfl, HG.out⟩
theorem sorted_any (v : Value) (l : List Gr.Nd) (w : World) (hv : NodesAt w v l) (hid : ∀ n ∈ l, 0 ≤ n.id ∧ n.id ≤ 1000) (hl : l.length ≤ 1000) : Calls Tryz.prog 40 #[v] w (Gives (.bool (sortedB l)) w) := by
  have HI := Lib.hid (isSorted_any v l w hv hid hl)
  obtain ⟨a, cap, rfl, hm, -⟩ := hv.openC
  clear hv
  go_enter Tryz.func40, Tryz.ntmps40
  go_wp2_with (go_at_call 82; refine HI.out.mono ?_; rintro e w1 ⟨rfl, R3, n3, rfl⟩)
  go_ret
  refine ⟨rfl, ?_⟩
  repeat (first | with_reducible exact Grew.refl _ | apply Grew.more | apply Grew.alloc | apply Grew.drew | apply Grew.drewN)
end Go.Proofs.YtangapokicnfgaaGreat

/-! pack.GetGraph. -/
namespace Go.Proofs.YtangapokicnfgaaGreat
set_option linter.unusedSimpArgs false
set_option linter.unusedVariables false
open Go.RowKit Ga
set_option maxRecDepth 100000

theorem readL_many : ∀ (n : Nat) (s : List UInt8) (acc : List Val), (readL n s acc).1.length ≤ acc.length + n
  | 0, s, acc => Nat.le_refl _
  | n + 1, s, acc => by
    rw [readL]
    split
    · simp
    · split
      · simp
      · have := readL_many n (numR (within s 0 17).2.2).2.2 (acc ++ [((within s 0 17).1, (numR (within s 0 17).2.2).1)])
        rw [List.length_append] at this
        simp at this
        omega
theorem getL_many (s : List UInt8) : (getL s).1.length ≤ 24 := by
  have h0 : (within s 0 24).1.toNat ≤ 24 := by
    have := numS_range (a := 0) (b := 24) (s, 0) (by omega) (by omega)
    unfold Gr.numS at this
    rw [if_neg (by simp)] at this
    have h2 : (within s 0 24).1 ≤ 24 := this.2
    omega
  have h1 := readL_many (within s 0 24).1.toNat (within s 0 24).2.2 []
  simp only [List.length_nil, Nat.zero_add] at h1
  unfold getL
  split
  · simp
  · split
    · omega
    · split
      · omega
      · simp
theorem nodeS_small (lp : Int) (s : Gr.Rs) : (Gr.nodeS getL lp s).1.frm.length ≤ 3 ∧ (Gr.nodeS getL lp s).1.prog.length ≤ 24 ∧ 0 ≤ (Gr.nodeS getL lp s).1.id ∧ (Gr.nodeS getL lp s).1.id ≤ 7 ∧ (Gr.nodeS getL lp s).1.route.length = 8 := by
  unfold Gr.nodeS
  simp only
  have h1 := numS_range (a := 0) (b := 7) s (by omega) (by omega)
  refine ⟨?_, ?_, h1.1, h1.2, (listS_len 0 2 8 _).1⟩
  · rw [(listS_len 0 7 _ _).1]
    have := numS_range (a := 0) (b := 3) (Gr.numS 0 2 (Gr.numS 0 7 s).2).2 (by omega) (by omega)
    omega
  · unfold Gr.progS
    split
    · simp
    · exact getL_many _
theorem nodesS_small (lp : Int) : ∀ (k : Nat) (s : Gr.Rs), ∀ n ∈ (Gr.nodesS getL lp k s).1, n.frm.length ≤ 3 ∧ n.prog.length ≤ 24 ∧ 0 ≤ n.id ∧ n.id ≤ 7 ∧ n.route.length = 8
  | 0, s, n, h => by cases h
  | k + 1, s, n, h => by
    rw [Gr.nodesS] at h
    rcases List.mem_cons.1 h with rfl | h1
    · exact nodeS_small lp s
    · exact nodesS_small lp k _ n h1
/-- a graph, or none, and the error -/
def GetPost (r : List Gr.Nd × Int) (w : World) (e : Ending) (w' : World) : Prop := ∃ v, e = .returned (.tuple #[v, .int .i64 r.2]) ∧ NodesAt w' v r.1 ∧ Grew w w'
theorem NodesAt.nil (w : World) : NodesAt w (.slice none 0 0) [] := ⟨[], RowsAt.nil, rfl, fun i c n h => by simp at h⟩
theorem getG_err {s : List UInt8} {l : List Gr.Nd} {z : List UInt8} {x : Int} (h : Gr.graphS getL s = (l, (z, x))) (he : endE (z, x) (sortedB l) ≠ 0) : Gr.getG getL s = ([], endE (z, x) (sortedB l)) := by
  by_cases hx : x = 0
  · subst hx
    have he' : endE (z, 0) (sortedB l) = if (decide (0 < z.length) || !sortedB l) = true then 4 else 0 := by
      unfold endE
      rw [if_neg (by simp)]
    rw [he'] at he ⊢
    by_cases hb : (decide (0 < z.length) || !sortedB l) = true
    · rw [if_pos hb]
      have hor : 0 < z.length ∨ ¬ Gr.sortedG l := by
        rw [Bool.or_eq_true, decide_eq_true_eq] at hb
        rcases hb with hb | hb
        · exact .inl hb
        · refine .inr fun hs => ?_
          have : sortedB l = true := by unfold sortedB; exact decide_eq_true hs
          rw [this] at hb
          cases hb
      unfold Gr.getG
      rw [h]
      simp only
      rw [if_neg (by simp), if_pos hor]
    · rw [if_neg hb] at he
      exact absurd rfl he
  · have he' : endE (z, x) (sortedB l) = x := by
      unfold endE
      rw [if_pos hx]
    rw [he']
    unfold Gr.getG
    rw [h]
    simp only
    rw [if_pos hx]
theorem getG_fine {s : List UInt8} {l : List Gr.Nd} {z : List UInt8} {x : Int} (h : Gr.graphS getL s = (l, (z, x))) (he : endE (z, x) (sortedB l) = 0) : (Gr.RightR l → Gr.getG getL s = (l, 0)) ∧ (¬ Gr.RightR l → Gr.getG getL s = ([], 10)) := by
  have hx : x = 0 := by
    refine Classical.byContradiction fun hx => ?_
    unfold endE at he
    simp only at he
    rw [if_pos hx] at he
    exact hx he
  subst hx
  have hb : (decide (0 < z.length) || !sortedB l) = false := by
    unfold endE at he
    rw [if_neg (by simp)] at he
    simp only at he
    cases hq : (decide (0 < z.length) || !sortedB l)
    · rfl
    · rw [hq] at he; simp at he
  rw [Bool.or_eq_false_iff, decide_eq_false_iff_not] at hb
  obtain ⟨hb1, hb2⟩ := hb
  have hs : Gr.sortedG l := by
    unfold sortedB at hb2
    simp only [Bool.not_eq_false', decide_eq_true_eq] at hb2
    exact hb2
  have hno : ¬ (0 < z.length ∨ ¬ Gr.sortedG l) := fun q => q.elim hb1 fun q => q hs
  constructor
  · intro hr
    unfold Gr.getG
    rw [h]
    simp only
    rw [if_neg (by simp), if_neg hno, if_pos hr]
  · intro hr
    unfold Gr.getG
    rw [h]
    simp only
    rw [if_neg (by simp), if_neg hno, if_neg hr]
theorem rd_new (w : World) (s : List UInt8) : RdAt w.heap.size (w.heap.size + 1) w.heap.size ((w.alloc (.cells #[.string ⟨s.toArray⟩] 135)).alloc (.cells #[.pointer (some ⟨w.heap.size, 0, none⟩), .int .i64 0] 82)) (s, 0) :=
  ⟨by omega, heap_new_at _ _ _ (by rw [World.size_alloc]), Nat.le_refl _, heap_alloc_old (heap_new_at _ _ _ rfl) _⟩
set_option maxHeartbeats 8000000 in
theorem getGraph_any (s : List UInt8) (w : World) (hs : s.length ≤ 100000) : Calls Tryz.prog 12 #[.string ⟨s.toArray⟩] w (GetPost (Gr.getG getL s) w) := by
  obtain ⟨l, ⟨z, x⟩, hg⟩ : ∃ l t, Gr.graphS getL s = (l, t) := ⟨_, _, rfl⟩
  have hN := fun W A B h g => rdNodes_any w A B (s, 0) W h g (by simpa using Nat.le_trans hs (by decide))
  have hsm : ∀ n ∈ l, n.frm.length ≤ 3 ∧ n.prog.length ≤ 24 ∧ 0 ≤ n.id ∧ n.id ≤ 7 ∧ n.route.length = 8 := by
    have := nodesS_small 1 (Gr.numS 0 8 (s, 0)).1.toNat (Gr.numS 0 8 (s, 0)).2
    unfold Gr.graphS at hg
    rw [hg] at this
    exact this
  have hl8 : l.length ≤ 8 := by
    have h1 := (nodesS_len 1 (Gr.numS 0 8 (s, 0)).1.toNat (Gr.numS 0 8 (s, 0)).2).1
    have h2 := numS_range (a := 0) (b := 8) (s, 0) (by omega) (by omega)
    unfold Gr.graphS at hg
    rw [hg] at h1
    simp only at h1
    omega
  have hgu := hg
  unfold Gr.graphS at hgu
  rw [hgu] at hN
  simp only at hN
  have HN := Lib.hid hN
  have HSM := Lib.hid hsm
  have HSMALL : Hid (Small l) := Lib.hid fun n hn => ⟨by have := hsm n hn; omega, by have := hsm n hn; omega⟩
  have HGG := Lib.hid hg
  clear hN hsm hgu
  by_cases he : endE (z, x) (sortedB l) = 0
  · obtain ⟨hg1, hg2⟩ := getG_fine hg he
    have HE := Lib.hid he
    clear he hg
    by_cases hr : Gr.RightR l
    · rw [hg1 hr]
      have HR := Lib.hid hr
      have hck := checkR_ok hl8 hr
      have HCK := Lib.hid hck
      clear hg1 hg2 hr hck
      go_enter Tryz.func12, Tryz.ntmps12
      go_wp2_with (first
        | (go_at_call 37; refine (octNew_any s _).mono ?_; rintro e w1 ⟨rfl, rfl⟩)
        | (go_at_call 38; go_loud (refine (HN.out _ _ w.heap.size (rd_new w s) (by repeat (first | with_reducible exact Grew.refl _ | apply Grew.more | apply Grew.alloc | apply Grew.drew | apply Grew.drewN))).mono ?_; rintro e w2 ⟨v2, lc, rfl, ho, hi, hr2, hg2, -⟩; obtain ⟨a2, c2, rfl⟩ := (OwnAt.rows ho encNd_len).len; (have hat := hi.at ho); (have HAT := Lib.hid hat); (have HR2 := Lib.hid hr2); (have HG2 := Lib.hid hg2); clear ho hi hr2 hg2 hat))
        | (go_at_call 40; refine (sorted_any _ l _ (HAT.out.grew (by repeat (first | with_reducible exact Grew.refl _ | apply Grew.more | apply Grew.alloc | apply Grew.drew | apply Grew.drewN))) (fun n hn => by have := HSM.out n hn; omega) (by omega)).mono ?_; rintro e w3 ⟨rfl, R3, n3, rfl⟩)
        | (go_at_call 39; refine (rdEnd_any _ _ _ _ (sortedB l) _ (HR2.out.grew (by repeat (first | with_reducible exact Grew.refl _ | apply Grew.more | apply Grew.alloc | apply Grew.drew | apply Grew.drewN)))).mono ?_; rintro e w4 ⟨rfl, hw4⟩; obtain rfl := hw4; rw [HE.out])
        | (go_at_call 30; refine (check_graph _ l _ (HAT.out.grew (by repeat (first | with_reducible exact Grew.refl _ | apply Grew.more | apply Grew.alloc | apply Grew.drew | apply Grew.drewN))) HSMALL.out).mono ?_; rintro e w5 ⟨rfl, R5, n5, rfl⟩; rw [HCK.out]))
      exact bodyPost_ret (v := .tuple #[.slice a2 lc.length c2, .int .i64 0]) (by simp [results, Tryz.results12, go_sem]) rfl ⟨_, rfl, HAT.out.grew (by repeat (first | with_reducible exact Grew.refl _ | apply Grew.more | apply Grew.alloc | apply Grew.drew | apply Grew.drewN)), HG2.out.trans (by repeat (first | with_reducible exact Grew.refl _ | apply Grew.more | apply Grew.alloc | apply Grew.drew | apply Grew.drewN))⟩
    · rw [hg2 hr]
      have hck := checkR_bad hl8 hr
      have HCK := Lib.hid hck
      clear hg1 hg2 hr hck
      go_enter Tryz.func12, Tryz.ntmps12
      go_wp2_with (first
        | (go_at_call 37; refine (octNew_any s _).mono ?_; rintro e w1 ⟨rfl, rfl⟩)
        | (go_at_call 38; refine (HN.out _ _ w.heap.size (rd_new w s) (by repeat (first | with_reducible exact Grew.refl _ | apply Grew.more | apply Grew.alloc | apply Grew.drew | apply Grew.drewN))).mono ?_; rintro e w2 ⟨v2, lc, rfl, ho, hi, hr2, hg2, -⟩; obtain ⟨a2, c2, rfl⟩ := (OwnAt.rows ho encNd_len).len; (have hat := hi.at ho); (have HAT := Lib.hid hat); (have HR2 := Lib.hid hr2); (have HG2 := Lib.hid hg2); clear ho hi hr2 hg2 hat)
        | (go_at_call 40; refine (sorted_any _ l _ (HAT.out.grew (by repeat (first | with_reducible exact Grew.refl _ | apply Grew.more | apply Grew.alloc | apply Grew.drew | apply Grew.drewN))) (fun n hn => by have := HSM.out n hn; omega) (by omega)).mono ?_; rintro e w3 ⟨rfl, R3, n3, rfl⟩)
        | (go_at_call 39; refine (rdEnd_any _ _ _ _ (sortedB l) _ (HR2.out.grew (by repeat (first | with_reducible exact Grew.refl _ | apply Grew.more | apply Grew.alloc | apply Grew.drew | apply Grew.drewN)))).mono ?_; rintro e w4 ⟨rfl, hw4⟩; obtain rfl := hw4; rw [HE.out])
        | (go_at_call 30; refine (check_graph _ l _ (HAT.out.grew (by repeat (first | with_reducible exact Grew.refl _ | apply Grew.more | apply Grew.alloc | apply Grew.drew | apply Grew.drewN))) HSMALL.out).mono ?_; rintro e w5 ⟨rfl, R5, n5, rfl⟩; rw [HCK.out]))
      exact bodyPost_ret (v := .tuple #[.slice none 0 0, .int .i64 10]) (by simp [results, Tryz.results12, go_sem]) rfl ⟨_, rfl, NodesAt.nil _, HG2.out.trans (by repeat (first | with_reducible exact Grew.refl _ | apply Grew.more | apply Grew.alloc | apply Grew.drew | apply Grew.drewN))⟩
  · rw [getG_err hg he]
    have hne : (endE (z, x) (sortedB l) != 0) = true := by rw [bne_iff_ne]; exact he
    generalize hen : endE (z, x) (sortedB l) = en at *
    have HEN := Lib.hid hen
    clear he hg hen
    go_enter Tryz.func12, Tryz.ntmps12
    go_wp2_with (first
        | (go_at_call 37; refine (octNew_any s _).mono ?_; rintro e w1 ⟨rfl, rfl⟩)
        | (go_at_call 38; refine (HN.out _ _ w.heap.size (rd_new w s) (by repeat (first | with_reducible exact Grew.refl _ | apply Grew.more | apply Grew.alloc | apply Grew.drew | apply Grew.drewN))).mono ?_; rintro e w2 ⟨v2, lc, rfl, ho, hi, hr2, hg2, -⟩; obtain ⟨a2, c2, rfl⟩ := (OwnAt.rows ho encNd_len).len; (have hat := hi.at ho); (have HAT := Lib.hid hat); (have HR2 := Lib.hid hr2); (have HG2 := Lib.hid hg2); clear ho hi hr2 hg2 hat)
        | (go_at_call 40; refine (sorted_any _ l _ (HAT.out.grew (by repeat (first | with_reducible exact Grew.refl _ | apply Grew.more | apply Grew.alloc | apply Grew.drew | apply Grew.drewN))) (fun n hn => by have := HSM.out n hn; omega) (by omega)).mono ?_; rintro e w3 ⟨rfl, R3, n3, rfl⟩)
        | (go_at_call 39; refine (rdEnd_any _ _ _ _ (sortedB l) _ (HR2.out.grew (by repeat (first | with_reducible exact Grew.refl _ | apply Grew.more | apply Grew.alloc | apply Grew.drew | apply Grew.drewN)))).mono ?_; rintro e w4 ⟨rfl, hw4⟩; obtain rfl := hw4; rw [HEN.out]))
    exact bodyPost_ret (v := .tuple #[.slice none 0 0, .int .i64 en]) (by simp [results, Tryz.results12, go_sem]) rfl ⟨_, rfl, NodesAt.nil _, HG2.out.trans (by repeat (first | with_reducible exact Grew.refl _ | apply Grew.more | apply Grew.alloc | apply Grew.drew | apply Grew.drewN))⟩
end Go.Proofs.YtangapokicnfgaaGreat

/-! [8]int: equal. -/
namespace Go.Proofs.YtangapokicnfgaaGreat
set_option linter.unusedSimpArgs false
set_option linter.unusedVariables false
open Go.RowKit Ga
set_option maxRecDepth 100000
set_option maxHeartbeats 4000000 in
theorem eq8 (r0 r1 r2 r3 r4 r5 r6 r7 s0 s1 s2 s3 s4 s5 s6 s7 : Int) (w : World) : (binOp .eql 43 (.agg #[.int .i64 r0, .int .i64 r1, .int .i64 r2, .int .i64 r3, .int .i64 r4, .int .i64 r5, .int .i64 r6, .int .i64 r7]) (.agg #[.int .i64 s0, .int .i64 s1, .int .i64 s2, .int .i64 s3, .int .i64 s4, .int .i64 s5, .int .i64 s6, .int .i64 s7])).run Tryz.prog w = .ok (.bool (decide ([r0, r1, r2, r3, r4, r5, r6, r7] = [s0, s1, s2, s3, s4, s5, s6, s7]))) w := by
  have u3 := Tryz.underlying3
  have a3 := Tryz.isAgg3
  have z3 := Tryz.sizeOf3
  obtain ⟨i, hi⟩ : ∃ i, Tryz.prog.info? 3 = some i := info_of_underlying u3
  rw [run_eql_struct, show (10000 : Nat) = 9999 + 1 from rfl, run_equalIn_array w 9999 _ _ Tryz.underlying43 hi]
  rw [show Tryz.prog.cellsOf 3 = 1 by kernel_rfl]
  rw [show List.range 8 = [0, 1, 2, 3, 4, 5, 6, 7] from rfl]
  simp only [Op.eqItems]
  go_simp
  by_cases h0 : r0 = s0
  · by_cases h1 : r1 = s1
    · by_cases h2 : r2 = s2
      · by_cases h3 : r3 = s3
        · by_cases h4 : r4 = s4
          · by_cases h5 : r5 = s5
            · by_cases h6 : r6 = s6
              · by_cases h7 : r7 = s7
                · simp [h0, h1, h2, h3, h4, h5, h6, h7]
                · simp [h0, h1, h2, h3, h4, h5, h6, h7]
              · simp [h0, h1, h2, h3, h4, h5, h6]
            · simp [h0, h1, h2, h3, h4, h5]
          · simp [h0, h1, h2, h3, h4]
        · simp [h0, h1, h2, h3]
      · simp [h0, h1, h2]
    · simp [h0, h1]
  · simp [h0]
end Go.Proofs.YtangapokicnfgaaGreat
