import Derived.Test.YtangapokicnfgaaGreatMq33
/-! pack's reader: nodes; sorted; GetGraph. -/
namespace Go.Proofs.YtangapokicnfgaaGreat
set_option linter.unusedSimpArgs false
set_option linter.unusedVariables false
open Go.RowKit Ga
set_option maxRecDepth 100000

theorem OwnsNd.keep2 {base base0 A B : Nat} {w w' : World} {c : NdC} {n : Gr.Nd} {s : Gr.Rs} (o : OwnsNd base w c n) (hk : Keep2 A B w w') (hr : RdAt base0 A B w s) : OwnsNd base w' c n := ⟨OwnAt.keep2 o.1 hk hr, OwnAt.keep2 o.2 hk hr⟩
theorem NodesIn.keep2 {base base0 A B : Nat} {w w' : World} {lc : List NdC} {l : List Gr.Nd} {s : Gr.Rs} (h : NodesIn base w lc l) (hk : Keep2 A B w w') (hr : RdAt base0 A B w s) : NodesIn base w' lc l :=
  Rel.mono (fun c n ⟨h1, h2⟩ => ⟨(h2.keep2 hk hr).is h1, h2.keep2 hk hr⟩) h
theorem nodeS_len (lp : Int) (s : Gr.Rs) : (Gr.nodeS getL lp s).2.1.length ≤ s.1.length := by
  unfold Gr.nodeS
  simp only
  have l1 := numS_len 0 7 s
  have l2 := numS_len 0 2 (Gr.numS 0 7 s).2
  generalize (Gr.numS 0 2 (Gr.numS 0 7 s).2).2 = s2 at *
  have l3 := numS_len 0 3 s2
  have l4 := (listS_len 0 7 (Gr.numS 0 3 s2).1.toNat (Gr.numS 0 3 s2).2).2
  generalize (Gr.listS 0 7 (Gr.numS 0 3 s2).1.toNat (Gr.numS 0 3 s2).2).2 = s3 at *
  have l5 := progS_len s3
  generalize (Gr.progS getL s3).2 = s4 at *
  have l6 := numS_len lp 3 s4
  have l7 := (listS_len 0 2 8 (Gr.numS lp 3 s4).2).2
  omega
theorem nodesS_succ (lp : Int) : ∀ (k : Nat) (s : Gr.Rs), Gr.nodesS getL lp (k + 1) s = ((Gr.nodesS getL lp k s).1 ++ [(Gr.nodeS getL lp (Gr.nodesS getL lp k s).2).1], (Gr.nodeS getL lp (Gr.nodesS getL lp k s).2).2)
  | 0, s => rfl
  | k + 1, s => by
    have ih := nodesS_succ lp k (Gr.nodeS getL lp s).2
    rw [Gr.nodesS, ih]
    rfl
theorem nodesS_len (lp : Int) : ∀ (k : Nat) (s : Gr.Rs), (Gr.nodesS getL lp k s).1.length = k ∧ (Gr.nodesS getL lp k s).2.1.length ≤ s.1.length
  | 0, s => ⟨rfl, Nat.le_refl _⟩
  | k + 1, s => by
    obtain ⟨h1, h2⟩ := nodesS_len lp k (Gr.nodeS getL lp s).2
    refine ⟨?_, ?_⟩
    · rw [Gr.nodesS, List.length_cons, h1]
    · rw [Gr.nodesS]
      exact Nat.le_trans h2 (nodeS_len lp s)
def RdNodes (w0 W : World) (A B : Nat) (l : List Gr.Nd) (s : Gr.Rs) (e : Ending) (W' : World) : Prop := ∃ v lc, e = .returned v ∧ NodesOwn W.heap.size W' v lc ∧ NodesIn W.heap.size W' lc l ∧ RdAt w0.heap.size A B W' s ∧ Grew w0 W' ∧ Keep2 A B W W'
theorem NodesIn.keepX {base base' : Nat} {w w' : World} {v : Value} {lc lv : List NdC} {l : List Gr.Nd} (h : NodesIn base w lc l) (ho : NodesOwn base' w v lv) (hk : ∀ q, q < w.heap.size → v.ownBlock ≠ some q → w'.heap[q]? = w.heap[q]?) : NodesIn base w' lc l :=
  Rel.mono (fun c n ⟨h1, h2⟩ => by
    have h3 : OwnsNd base w' c n := h2.to2 fun q cs t hq hb hne => hk q (heap_lt hq) (OwnAt.other ho hq hne)
    exact ⟨h3.is h1, h3⟩) h
theorem nodes_round {w0 wr W2 W3 W' : World} {A B base base2 : Nat} {v v' : Value} {lc : List NdC} {c : NdC} {l : List Gr.Nd} {y : Gr.Nd} {s s' : Gr.Rs} (hr : RdAt w0.heap.size A B wr s) (ho : NodesOwn w0.heap.size wr v lc) (hn : NodesIn base wr lc l) (hb : base ≤ base2)
    (hk : Keep2 A B wr W2) (hr2 : RdAt w0.heap.size A B W2 s') (h9 : NodeIs W2 c y) (o9 : OwnsNd base2 W2 c y) (g : Grew W2 W3) (hA : Appended w0 45 13 encNd W3 v (lc ++ [c]) v' W') :
    NodesIn base W' (lc ++ [c]) (l ++ [y]) ∧ RdAt w0.heap.size A B W' s' := by
  have ho3 : NodesOwn w0.heap.size W3 v lc := OwnAt.grew (OwnAt.keep2 ho hk hr) g
  have h5 : OwnsNd base W' c y := ((o9.grew g).low hb).to2 fun q cs t hq _ hne => hA.2.2.2.1 q (heap_lt hq) (OwnAt.other ho3 hq hne)
  exact ⟨Rel.snoc (((hn.keep2 hk hr).grew g).keepX ho3 hA.2.2.2.1) ⟨h5.is h9, h5⟩, RdAt.app (hr2.grew g) ho3 hA⟩
set_option maxHeartbeats 8000000 in
theorem rdNodes_any (w0 : World) (A B : Nat) (s : Gr.Rs) (W : World) (h : RdAt w0.heap.size A B W s) (hg : Grew w0 W) (hs : s.1.length ≤ 1000000) :
    Calls Tryz.prog 38 #[.pointer (some ⟨A, 0, none⟩)] W (RdNodes w0 W A B (Gr.nodesS getL 1 (Gr.numS 0 8 s).1.toNat (Gr.numS 0 8 s).2).1 (Gr.nodesS getL 1 (Gr.numS 0 8 s).1.toNat (Gr.numS 0 8 s).2).2) := by
  have hn := rdNum_any w0 A B s 0 8 W h hg hs
  have hr := numS_range (a := 0) (b := 8) s (by omega) (by omega)
  have hl := numS_len 0 8 s
  generalize Gr.numS 0 8 s = r at *
  obtain ⟨n, s1⟩ := r
  simp only at hn hr hl ⊢
  obtain ⟨N, rfl⟩ : ∃ N : Nat, n = N := ⟨n.toNat, by omega⟩
  rw [Int.toNat_natCast]
  have HN := Lib.hid hn
  have hBlt := heap_lt h.2.2.2
  clear h hg hn
  go_enter Tryz.func38, Tryz.ntmps38
  go_wp2_with (go_at_call 46; refine HN.out.mono ?_; rintro e w1 ⟨rfl, hr1, hg1, hk1⟩; (have HR1 := Lib.hid hr1); (have HG1 := Lib.hid hg1); (have HK1 := Lib.hid hk1); clear hr1 hg1 hk1)
  go_loopg [3, 6] N (fun gg s3 s6 wr => ∃ (k : Nat) (vk : Value) (lc : List NdC), k ≤ N ∧ N - k ≤ gg ∧ s6 = .int .i64 k ∧ vk = s3 ∧ Hid (NodesOwn w0.heap.size wr vk lc) ∧ Hid (NodesIn W.heap.size wr lc (Gr.nodesS getL 1 k s1).1) ∧ Hid (RdAt w0.heap.size A B wr (Gr.nodesS getL 1 k s1).2) ∧ Hid (Grew w0 wr) ∧ Hid (Keep2 A B W wr) ∧ Hid (∀ q, vk.ownBlock = some q → W.heap.size ≤ q))
  case atStart => exact ⟨0, _, [], Nat.zero_le _, by omega, rfl, rfl, Lib.hid (OwnAt.nil _), Lib.hid trivial, HR1, HG1, HK1, Lib.hid fun q h => by cases h⟩
  case round =>
    obtain ⟨k, vk, lc, hk, hgg, rfl, rfl, HO, HN2, HR, HG, HK, HI⟩ := hrel
    obtain ⟨hl1, hl2⟩ := nodesS_len 1 k s1
    have hlc := Rel.len HN2.out
    rw [hl1] at hlc
    by_cases hlt : k < N
    · have hsc := nodesS_succ 1 k s1
      have hnum := rdNode_any w0 A B (Gr.nodesS getL 1 k s1).2 1 (.inr (by decide)) wr HR.out HG.out (by omega)
      have HSC := Lib.hid hsc
      have HNUM := Lib.hid hnum
      obtain ⟨ak, ck, rfl⟩ := (OwnAt.rows HO.out encNd_len).len
      have HLC := Lib.hid hlc
      clear hsc hnum hl1 hl2 hlc
      generalize Gr.nodeS getL 1 (Gr.nodesS getL 1 k s1).2 = y at *
      obtain ⟨y1, y2⟩ := y
      simp only at HNUM HSC
      generalize hLS : Gr.nodesS getL 1 k s1 = LS at *
      have HLS := Lib.hid hLS
      clear hLS
      have hsz := HK.out.1
      go_wp2_with (first
        | (go_at_call 47; refine HNUM.out.mono ?_; rintro e w2 ⟨c9, rfl, hn9, ho9, hr2, hg2, hk2⟩; obtain ⟨cid9, kind9, af9, cf9, ap9, cp9, par9, s0, s1, s2, s3, s4, s5, s6, s7, rfl⟩ := hn9.lit; (have HN9 := Lib.hid hn9); (have HO9 := Lib.hid ho9); (have HR2 := Lib.hid hr2); (have HG2 := Lib.hid hg2); (have HK2 := Lib.hid hk2); (have HO2 := Lib.hid (OwnAt.keep2 HO.out hk2 HR.out)); clear hn9 ho9 hr2 hg2 hk2)
        | (at_builtin; refine wpList_ownK (w0 := w0) rfl (.tmp 8) (.tmp 11) 22 _ _ _ _ [⟨cid9, kind9, af9, y1.frm.length, cf9, ap9, y1.prog.length, cp9, par9, s0, s1, s2, s3, s4, s5, s6, s7⟩] rfl Tryz.underlying22 infoNode rfl (by decide) encNd_len encNd_one rfl (OwnAt.grew HO2.out (by repeat (first | with_reducible exact Grew.refl _ | apply Grew.more | apply Grew.alloc | apply Grew.drew | apply Grew.drewN))) (HG2.out.trans (by repeat (first | with_reducible exact Grew.refl _ | apply Grew.more | apply Grew.alloc | apply Grew.drew | apply Grew.drewN))) rfl (nd_at _ _ _ _ rfl (by simp [go_sem])) (by rw [HLC.out]; simp; omega) (by decide) (by simp) ?_; intro v5 W5 hA; (have HA := Lib.hid hA); clear hA))
      obtain ⟨q1, q2⟩ := nodes_round HR.out HO.out HN2.out hsz HK2.out HR2.out HN9.out HO9.out (by repeat (first | with_reducible exact Grew.refl _ | apply Grew.more | apply Grew.alloc | apply Grew.drew | apply Grew.drewN)) HA.out
      obtain ⟨q4, q5⟩ := Keep2.app (HK.out.trans (HK2.out.trans (Keep2.ofGrew (by repeat (first | with_reducible exact Grew.refl _ | apply Grew.more | apply Grew.alloc | apply Grew.drew | apply Grew.drewN))))) HA.out HI.out
      have Q1 := Lib.hid q1
      have Q2 := Lib.hid q2
      have Q4 := Lib.hid q4
      have Q5 := Lib.hid q5
      clear q1 q2 q4 q5
      go_roundg (N - (k + 1))
      case measure => omega
      case rel => exact ⟨k + 1, _, _, by omega, by omega, by go_num, rfl, Lib.hid HA.out.2.1, Lib.hid (by rw [HSC.out]; exact Q1.out), Lib.hid (by rw [HSC.out]; exact Q2.out), Lib.hid HA.out.1, Q4, Q5⟩
    · obtain rfl : k = N := by omega
      obtain ⟨ak, ck, rfl⟩ := (OwnAt.rows HO.out encNd_len).len
      go_wp2
      go_ret
      exact ⟨_, lc, rfl, OwnAt.up HO.out HI.out, HN2.out, HR.out, HG.out, HK.out⟩
end Go.Proofs.YtangapokicnfgaaGreat

/-! pack.sorted: the nodes stand by their numbers. -/
namespace Go.Proofs.YtangapokicnfgaaGreat
set_option linter.unusedSimpArgs false
set_option linter.unusedVariables false
open Go.RowKit Ga
set_option maxRecDepth 100000

def sortedB (l : List Gr.Nd) : Bool := decide (l.Pairwise fun a b => a.id ≤ b.id)
theorem sortedB_true {l : List Gr.Nd} (h : ∀ j (hj : j < l.length), 0 < j → l[j - 1].id ≤ l[j].id) : sortedB l = true := by
  unfold sortedB
  rw [decide_eq_true_eq, List.pairwise_iff_getElem]
  have key : ∀ d i (hj : i + d < l.length), l[i].id ≤ l[i + d].id := by
    intro d
    induction d with
    | zero => intro i hj; exact Int.le_refl _
    | succ d ih =>
      intro i hj
      have h1 := ih i (by omega)
      have h2 := h (i + (d + 1)) hj (by omega)
      simp only [show i + (d + 1) - 1 = i + d by omega] at h2
      exact Int.le_trans h1 h2
  intro i j hi hj hij
  have := key (j - i) i (by omega)
  simp only [show i + (j - i) = j by omega] at this
  exact this
theorem sortedB_false {l : List Gr.Nd} {j : Nat} (hj : j < l.length) (h0 : 0 < j) (h : l[j].id < l[j - 1].id) : sortedB l = false := by
  unfold sortedB
  rw [decide_eq_false_iff_not, List.pairwise_iff_getElem]
  intro hp
  have := hp (j - 1) j (by omega) hj (by omega)
  omega
theorem cmpD_any (x y : NdC) (W : World) (h1 : 0 ≤ x.id ∧ x.id ≤ 1000) (h2 : 0 ≤ y.id ∧ y.id ≤ 1000) : Calls Tryz.prog 83 #[.agg #[.int .i64 x.id, .int .i64 x.kind, .slice x.af x.nf x.cf, .slice x.ap x.np x.cp, .int .i64 x.par, .int .i64 x.r0, .int .i64 x.r1, .int .i64 x.r2, .int .i64 x.r3, .int .i64 x.r4, .int .i64 x.r5, .int .i64 x.r6, .int .i64 x.r7], .agg #[.int .i64 y.id, .int .i64 y.kind, .slice y.af y.nf y.cf, .slice y.ap y.np y.cp, .int .i64 y.par, .int .i64 y.r0, .int .i64 y.r1, .int .i64 y.r2, .int .i64 y.r3, .int .i64 y.r4, .int .i64 y.r5, .int .i64 y.r6, .int .i64 y.r7]] W (Gives (.int .i64 (x.id - y.id)) W) := by
  obtain ⟨xi, xk, xaf, xnf, xcf, xap, xnp, xcp, xpar, x0, x1, x2, x3, x4, x5, x6, x7⟩ := x
  obtain ⟨yi, yk, yaf, ynf, ycf, yap, ynp, ycp, ypar, y0, y1, y2, y3, y4, y5, y6, y7⟩ := y
  simp only at *
  obtain ⟨h1, h1'⟩ := h1
  obtain ⟨h2, h2'⟩ := h2
  go_enter Tryz.func83, Tryz.ntmps83
  go_wp2
  go_ret
  refine ⟨rfl, ?_⟩
  repeat (first | with_reducible exact Grew.refl _ | apply Grew.more | apply Grew.alloc | apply Grew.drew | apply Grew.drewN)
theorem enters83 : ∀ args w, (callFunc 83 args).run Tryz.prog w = .ok (.enter 83 args) w := enters_of Tryz.func83 (by kernel_rfl) rfl
set_option maxHeartbeats 8000000 in
theorem isSorted_any (v : Value) (l : List Gr.Nd) (w : World) (hv : NodesAt w v l) (hid : ∀ n ∈ l, 0 ≤ n.id ∧ n.id ≤ 1000) (hl : l.length ≤ 1000) :
    Calls Tryz.prog 82 #[v, .func (.func 83) #[] #[]] w (Gives (.bool (sortedB l)) w) := by
  have HV := Lib.hid hv
  have HID := Lib.hid hid
  have eg := enters83
  obtain ⟨a, cap, rfl, hm, -⟩ := hv.openC
  clear hv hid
  go_enter Tryz.func82, Tryz.ntmps82
  go_wp2
  go_loopg [5] l.length (fun gg s5 wr => ∃ i : Int, -1 ≤ i ∧ i < l.length ∧ i ≤ gg ∧ s5 = .int .i64 i ∧ Hid (Grew w wr) ∧ Hid (∀ j (hj : j < l.length), i < j → 0 < j → l[j - 1].id ≤ l[j].id))
  case atStart => exact ⟨(l.length : Int) - 1, by omega, by omega, by omega, rfl, Lib.hid (by repeat (first | with_reducible exact Grew.refl _ | apply Grew.more | apply Grew.alloc | apply Grew.drew | apply Grew.drewN)), Lib.hid fun j hj h _ => by omega⟩
  case round =>
    obtain ⟨i, hi0, hi1, hgg, rfl, HG, HNO⟩ := hrel
    by_cases hpos : 0 < i
    · obtain ⟨k, rfl⟩ : ∃ k : Nat, i = (k : Int) + 1 := ⟨(i - 1).toNat, by omega⟩
      have hk1 : k + 1 < l.length := by omega
      obtain ⟨a', cap', e, -, hx⟩ := (HV.out.grew HG.out).openC
      cases e
      obtain ⟨b, off, c, rfl, hb, hn, c0, c1, c2, c3, c4, c5, c6, c7, c8, c9, c10, c11, c12⟩ := hx (k + 1) hk1
      obtain ⟨b', off', d, eb, hb', hn', d0, d1, d2, d3, d4, d5, d6, d7, d8, d9, d10, d11, d12⟩ := hx k (by omega)
      cases eb
      have hi1 := HID.out _ (List.getElem_mem hk1)
      have hi2 := HID.out _ (List.getElem_mem (show k < l.length by omega))
      have e1 := hn.id
      have e2 := hn'.id
      rw [e1] at hi1
      rw [e2] at hi2
      have hcm := fun W => cmpD_any c d W hi1 hi2
      have E1 := Lib.hid e1
      have E2 := Lib.hid e2
      clear hx hn hn' e1 e2
      obtain ⟨cid, kind, af, nf, cf, ap, np, cp, par, r0, r1, r2, r3, r4, r5, r6, r7⟩ := c
      obtain ⟨did, dkind, daf, dnf, dcf, dap, dnp, dcp, dpar, t0, t1, t2, t3, t4, t5, t6, t7⟩ := d
      simp only at c0 c1 c2 c3 c4 c5 c6 c7 c8 c9 c10 c11 c12 d0 d1 d2 d3 d4 d5 d6 d7 d8 d9 d10 d11 d12 hcm hi1 hi2
      have HCM := Lib.hid hcm
      obtain ⟨i1, i2⟩ := hi1
      obtain ⟨j1, j2⟩ := hi2
      clear hcm
      go_upto_region 4 with fail
      refine wp_region_seq 12 Tryz.mixed (by kernel_rfl) (by kernel_rfl) ?_
      iterate 12
        apply Seq.val
        focus
          rintro w1 u ⟨R1, n1, rfl⟩ hF
          simp [moreFacts, Fact.more, Oper.deps, Region.binds, List.filter_cons, World.more_drew] at hF
          simp [putFacts, Oper.deps, Region.binds, List.filter_cons, Region.dstOf, Fact.at, Act.put, World.more_drew]
          go_wp2_with (go_at_fn 83; refine (HCM.out _).mono ?_; rintro e w2 ⟨rfl, R3, n3, rfl⟩)
          exact ⟨by repeat (first | with_reducible exact Grew.refl _ | apply Grew.more | apply Grew.alloc | apply Grew.drew | apply Grew.drewN), rfl, _, _, rfl, rfl, rfl⟩
      rintro u w1 ⟨R1, n1, rfl⟩ hF
      clear hF
      simp [putFacts, Region.dstOf, Fact.at, Act.put, List.range_succ, World.more_drew]
      by_cases hlt : cid - did < 0
      · have hr := sortedB_false hk1 (by omega) (by simp only [Nat.add_sub_cancel]; rw [E1.out, E2.out]; simp only; omega)
        have HR := Lib.hid hr
        clear hr
        go_wp2
        go_ret
        exact ⟨by rw [HR.out]; rfl, HG.out.trans (by repeat (first | with_reducible exact Grew.refl _ | apply Grew.more | apply Grew.alloc | apply Grew.drew | apply Grew.drewN))⟩
      · have hge : 0 ≤ cid - did := by omega
        go_wp2
        go_roundg (k : Nat)
        case measure => omega
        case rel => exact ⟨(k : Int), by omega, by omega, by omega, by go_num, Lib.hid (HG.out.trans (by repeat (first | with_reducible exact Grew.refl _ | apply Grew.more | apply Grew.alloc | apply Grew.drew | apply Grew.drewN))), Lib.hid fun j hj h h0 => by
          by_cases h1 : (k : Int) + 1 < j
          · exact HNO.out j hj h1 h0
          · obtain rfl : j = k + 1 := by omega
            have h4 : l[k + 1].id = cid := E1.out
            have h5 : l[k].id = did := E2.out
            show l[k].id ≤ l[k + 1].id
            omega⟩
    · go_wp2
      have hr := sortedB_true fun j hj h0 => HNO.out j hj (by omega) h0
      have HR := Lib.hid hr
      clear hr
      go_ret
      exact ⟨by rw [HR.out]; rfl, HG.out⟩
theorem sorted_any (v : Value) (l : List Gr.Nd) (w : World) (hv : NodesAt w v l) (hid : ∀ n ∈ l, 0 ≤ n.id ∧ n.id ≤ 1000) (hl : l.length ≤ 1000) : Calls Tryz.prog 40 #[v] w (Gives (.bool (sortedB l)) w) := by
  have HI := Lib.hid (isSorted_any v l w hv hid hl)
  obtain ⟨a, cap, rfl, hm, -⟩ := hv.openC
  clear hv
  go_enter Tryz.func40, Tryz.ntmps40
  go_wp2_with (go_at_call 82; refine HI.out.mono ?_; rintro e w1 ⟨rfl, R3, n3, rfl⟩)
  go_ret
  refine ⟨rfl, ?_⟩
  repeat (first | with_reducible exact Grew.refl _ | apply Grew.more | apply Grew.alloc | apply Grew.drew | apply Grew.drewN)
end Go.Proofs.YtangapokicnfgaaGreat
