import Derived.Test.YthlmmfljeblflaaGreatDoorMa0
/-! AuditDiffs, cut: the first loop. -/
namespace Go.Proofs.YthlmmfljeblflaaGreatDoor
set_option linter.unusedSimpArgs false
set_option linter.unusedVariables false
open Go.RowKit Ga
set_option maxRecDepth 100000

set_option maxHeartbeats 32000000 in
theorem ad_p2b (w0 W : World) (x y : Nat) (c d : MfC) (ma mb : Gr.Mf) (Q : Exit → Act → World → Prop) (K : Act → World → Prop) (a0 : Act) (l : List NdC) (a9 : Option Addr) (c9 n1 : Nat) (n2 : Int)
    (h0 : Pre28 w0 x y c d a0 W) (hm : MfIs w0 c ma) (hm2 : MfIs w0 d mb) (h39 : a0.tmps.getD 39 undef = .slice a9 n1 c9) (h40 : a0.tmps.getD 40 undef = .int .i64 n2) (h41 : a0.tmps.getD 41 undef = .int .i64 0) (hn1 : n1 = l.length) (hn2 : n2 = (l.length : Int)) (hr : RowsAt 13 encNd W (.slice a9 l.length c9) l) (hl : l.length ≤ 200)
    (hret : ∀ a' w', Ret28 w0 a' w' → Q .ret a' w')
    (hnext : (∀ x ∈ l.map (·.id), -1099511627776 ≤ x ∧ x ≤ 1099511627776) → ∀ a' w', Grew W w' → Pre28 w0 x y c d a' w' → K a' w') :
    Code.wp Tryz.prog (rest28 5) (Exit.then K Q) a0 W := by
  obtain ⟨hfr, h2, h3, hg, hbx, hby⟩ := h0
  obtain ⟨u, hu⟩ : ∃ u : Nat → Value, u = fun i => a0.tmps.getD i undef := ⟨_, rfl⟩
  rw [← hu] at hfr
  have u2 : u 2 = _ := (congrFun hu 2).trans h2
  have u3 : u 3 = _ := (congrFun hu 3).trans h3
  have u39 : u 39 = _ := (congrFun hu 39).trans h39
  have u40 : u 40 = _ := (congrFun hu 40).trans h40
  have u41 : u 41 = _ := (congrFun hu 41).trans h41
  clear hu h2 h3 h39 h40 h41
  subst hfr
  conv => arg 2; whnf
  unfold frame28
  rw [u2, u3, u39, u40, u41]
  clear u2 u3 u39 u40 u41
  have HG := Lib.hid hg
  have HBX := Lib.hid hbx
  have HBY := Lib.hid hby
  have HM := Lib.hid hm
  have HM2 := Lib.hid hm2
  have HRET := Lib.hid hret
  have HNX := Lib.hid hnext
  clear hg hbx hby hm hm2 hret hnext
  subst hn1 hn2
  have HR := Lib.hid hr
  clear hr
  go_wp2
  go_loopg [41] l.length (fun gg s41 wr => ∃ k : Nat, k ≤ l.length ∧ l.length - k ≤ gg ∧ s41 = .int .i64 k ∧ Hid (Grew W wr) ∧ Hid (∀ j (hj : j < l.length), j < k → -1099511627776 ≤ l[j].id ∧ l[j].id ≤ 1099511627776))
  case atStart => exact ⟨0, by omega, by omega, rfl, Lib.hid (by repeat (first | with_reducible exact Grew.refl _ | apply Grew.more | apply Grew.alloc | apply Grew.drew | apply Grew.drewN)), Lib.hid fun j _ h => by omega⟩
  case round =>
    obtain ⟨k, hk, hgg, rfl, HW, HB⟩ := hrel
    rename World => wa
    by_cases hlt : k < l.length
    · obtain ⟨a', cap', e, -, hx⟩ := rows13_open (HR.out.grew HW.out)
      cases e
      obtain ⟨bq, off, rfl, hbq, c0, c1, c2, c3, c4, c5, c6, c7, c8, c10, c11, c12, c13⟩ := hx k hlt
      have HY : Hid (l[k] = l[k]) := Lib.hid rfl
      generalize hy : l[k] = z at *
      have HYE := Lib.hid hy
      clear hx hy HY
      obtain ⟨i0, i1, i2, i3, i4, i5, i6, i7, i8, i9, i10, i11, i12, i13, i14, i15, i16⟩ := z
      simp only at c0 c1 c2 c3 c4 c5 c6 c7 c8 c10 c11 c12 c13
      rcases (show i0 < -1099511627776 ∨ (-1099511627776 ≤ i0 ∧ 1099511627776 < i0) ∨ (-1099511627776 ≤ i0 ∧ i0 ≤ 1099511627776) by omega) with hi | ⟨hi, hi2⟩ | ⟨hi, hi2⟩
      · go_wp2
        exact HRET.out _ _ ⟨rfl, rfl, HG.out.trans (HW.out.trans (by repeat (first | with_reducible exact Grew.refl _ | apply Grew.more | apply Grew.alloc | apply Grew.drew | apply Grew.drewN)))⟩
      · go_wp2
        exact HRET.out _ _ ⟨rfl, rfl, HG.out.trans (HW.out.trans (by repeat (first | with_reducible exact Grew.refl _ | apply Grew.more | apply Grew.alloc | apply Grew.drew | apply Grew.drewN)))⟩
      · have HI : Hid (-1099511627776 ≤ i0 ∧ i0 ≤ 1099511627776) := Lib.hid ⟨hi, hi2⟩
        go_wp2
        go_roundg (l.length - (k + 1))
        case measure => omega
        case rel => exact ⟨k + 1, by omega, by omega, by go_num, Lib.hid (HW.out.trans (by repeat (first | with_reducible exact Grew.refl _ | apply Grew.more | apply Grew.alloc | apply Grew.drew | apply Grew.drewN))), Lib.hid fun j hj h => by
          rcases Nat.lt_or_ge j k with h1 | h1
          · exact HB.out j hj h1
          · obtain rfl : j = k := by omega
            rw [HYE.out]
            exact HI.out⟩
    · have hall : ∀ x ∈ l.map (·.id), -1099511627776 ≤ x ∧ x ≤ 1099511627776 := fun x hx => by
        obtain ⟨n, hn, rfl⟩ := List.mem_map.1 hx
        obtain ⟨j, hj, rfl⟩ := List.mem_iff_getElem.1 hn
        exact HB.out j hj (by omega)
      have HALL := Lib.hid hall
      clear hall
      go_upto_if 42 with fail
      iterate 3 go_step
      refine HNX.out HALL.out _ _ (HW.out.trans (by repeat (first | with_reducible exact Grew.refl _ | apply Grew.more | apply Grew.alloc | apply Grew.drew | apply Grew.drewN))) ?_
      exact ⟨rfl, rfl, rfl, HG.out.trans (HW.out.trans (by repeat (first | with_reducible exact Grew.refl _ | apply Grew.more | apply Grew.alloc | apply Grew.drew | apply Grew.drewN))), HBX.out, HBY.out⟩
end Go.Proofs.YthlmmfljeblflaaGreatDoor

/-! AuditDiffs, cut: the nodes of both, their numbers. -/
namespace Go.Proofs.YthlmmfljeblflaaGreatDoor
set_option linter.unusedSimpArgs false
set_option linter.unusedVariables false
open Go.RowKit Ga
set_option maxRecDepth 100000

set_option maxHeartbeats 32000000 in
theorem ad_p2 (w0 W : World) (x y : Nat) (c d : MfC) (ma mb : Gr.Mf) (Q : Exit → Act → World → Prop) (a0 : Act) (la lb : List NdC)
    (h0 : Pre28 w0 x y c d a0 W) (hm : MfIs w0 c ma) (hm2 : MfIs w0 d mb) (ra : RowsAt 13 encNd w0 (.slice c.ag c.ng c.cg) la) (rb : RowsAt 13 encNd w0 (.slice d.ag d.ng d.cg) lb) (na : NilOr (.slice c.ag c.ng c.cg) la.length) (nb : NilOr (.slice d.ag d.ng d.cg) lb.length) (l1 : la.length ≤ 100) (l2 : lb.length ≤ 100)
    (hret : ∀ a' w', Ret28 w0 a' w' → Q .ret a' w')
    (hnext : (∀ x ∈ (la ++ lb).map (·.id), -1099511627776 ≤ x ∧ x ≤ 1099511627776) → ∀ a' w', Grew W w' → Pre28 w0 x y c d a' w' → Code.wp Tryz.prog (tail28 11) Q a' w') :
    Code.wp Tryz.prog (tail28 5) Q a0 W := by
  obtain ⟨hfr, h2, h3, hg, hbx, hby⟩ := h0
  obtain ⟨u, hu⟩ : ∃ u : Nat → Value, u = fun i => a0.tmps.getD i undef := ⟨_, rfl⟩
  rw [← hu] at hfr
  have u2 : u 2 = _ := (congrFun hu 2).trans h2
  have u3 : u 3 = _ := (congrFun hu 3).trans h3
  clear hu h2 h3
  subst hfr
  conv => arg 2; whnf
  unfold frame28
  rw [u2, u3]
  clear u2 u3
  have HG := Lib.hid hg
  have HBX := Lib.hid hbx
  have HBY := Lib.hid hby
  have HM := Lib.hid hm
  have HM2 := Lib.hid hm2
  have HRET := Lib.hid hret
  have HNX := Lib.hid hnext
  clear hg hbx hby hm hm2 hret hnext
  obtain ⟨ep, pl, ao, no, co, ag, ng, cg, ae, ne, ce, ax, nx, cx, ap, np, cp⟩ := c
  obtain ⟨ep2, pl2, ao2, no2, co2, ag2, ng2, cg2, ae2, ne2, ce2, ax2, nx2, cx2, ap2, np2, cp2⟩ := d
  simp only at ra rb na nb
  have x3 := cell_of (o := 3) (W := W) (grew_heap (HG.out) HBX.out)
  have y3 := cell_of (o := 3) (W := W) (grew_heap (HG.out) HBY.out)
  simp [encMf] at x3 y3
  have px := Pre.mk (W := W) (heap_lt (grew_heap (HG.out) HBX.out))
  have py := Pre.mk (W := W) (heap_lt (grew_heap (HG.out) HBY.out))
  have HRA := Lib.hid ra
  have HRB := Lib.hid rb
  have HNA := Lib.hid na
  have HNB := Lib.hid nb
  clear ra rb na nb
  go_upto_region 5 with fail
  refine wp_region_noPanic ?_
  go_region_law (first
    | (refine if_wanted (wanted_none rfl) ?_; apply wp_ownR (w0 := W) (l := ([] : List NdC)) (l2 := la) (s := .tmp 33) (x := .tmp 35) (t := 30) (ho := rfl) (ht := Tryz.underlying30) (hinfo := infoNdA) (henc := encNd_lenA) (hone := encNd_oneA) (hz := rfl) (hs := rfl) (hx := rfl) (hk := by decide) (hby := by decide); (case hlen => first | (simp; done) | (simp; omega) | fail "L1"); (case hown => first | exact OwnAt.lit _ _ (by simp [go_sem]) (by simp [go_sem]) | fail "O1"); (case hg => first | exact (by repeat (first | with_reducible exact Grew.refl _ | apply Grew.more | apply Grew.alloc | apply Grew.drew | apply Grew.drewN)) | fail "G1"); (case hrows => exact HRA.out.grew (HG.out.trans (by repeat (first | with_reducible exact Grew.refl _ | apply Grew.more | apply Grew.alloc | apply Grew.drew | apply Grew.drewN)))); (case hnil => exact HNA.out); intro v7 R7 N7 hA; (have HA7 : Hid (OwnAt W.heap.size 41 13 encNd (W.more R7 N7) v7 la) := Lib.hid hA); clear hA)
    | (refine if_wanted (wanted_none rfl) ?_; apply wp_ownR (w0 := W) (l := la) (l2 := lb) (s := .tmp 36) (x := .tmp 38) (t := 30) (ho := rfl) (ht := Tryz.underlying30) (hinfo := infoNdA) (henc := encNd_lenA) (hone := encNd_oneA) (hz := rfl) (hs := rfl) (hx := rfl) (hk := by decide) (hby := by decide); (case hlen => omega); (case hown => first | exact HA7.out | exact OwnAt.grew HA7.out (by repeat (first | with_reducible exact Grew.refl _ | apply Grew.more | apply Grew.alloc | apply Grew.drew | apply Grew.drewN)) | fail "O2"); (case hg => first | exact (by repeat (first | with_reducible exact Grew.refl _ | apply Grew.more | apply Grew.alloc | apply Grew.drew | apply Grew.drewN)) | fail "G2"); (case hrows => exact HRB.out.grew (HG.out.trans (by repeat (first | with_reducible exact Grew.refl _ | apply Grew.more | apply Grew.alloc | apply Grew.drew | apply Grew.drewN)))); (case hnil => exact HNB.out); intro v8 R8 N8 hA; (have HA8 := Lib.hid hA); obtain ⟨a9, c9, rfl⟩ := (OwnAt.rows hA encNd_lenA).len; clear hA))
  all_goals
    refine NoPanic.normal ?_
    go_upto_block 0 with fail
    refine ad_p2b w0 (W.more R8 N8) x y _ _ ma mb _ _ _ (la ++ lb) a9 c9 (la.length + lb.length) ((la.length : Int) + (lb.length : Int)) ?_ HM.out HM2.out ?_ ?_ ?_ ?_ ?_ (OwnAt.rows HA8.out encNd_lenA) (by rw [List.length_append]; omega) HRET.out fun hid a' w' g' P' => ?_
    · exact ⟨rfl, rfl, rfl, HG.out.trans (by repeat (first | with_reducible exact Grew.refl _ | apply Grew.more | apply Grew.alloc | apply Grew.drew | apply Grew.drewN)), HBX.out, HBY.out⟩
    · rfl
    · rfl
    · rfl
    · exact (List.length_append).symm
    · rw [List.length_append]; omega
    go_step
    exact HNX.out hid a' w' (Grew.trans (by repeat (first | with_reducible exact Grew.refl _ | apply Grew.more | apply Grew.alloc | apply Grew.drew | apply Grew.drewN)) g') P'
end Go.Proofs.YthlmmfljeblflaaGreatDoor
