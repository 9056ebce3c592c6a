import Derived.Test.YtmdmbimfdpngaaaGreatDoorMp44
import Derived.Test.YtmdmbimfdpngaaaGreatDoorMp46
/-! CellPlays: what is held behind each op. -/
namespace Go.Proofs.YtmdmbimfdpngaaaGreatDoor
set_option linter.unusedSimpArgs false
set_option linter.unusedVariables false
open Go.RowKit Ga
set_option maxRecDepth 100000

theorem run_neq_same7 (a b c d : Int) (w : World) : (binOp .neq 48 (.agg #[.int .i64 a, .int .i64 b, .int .i64 c, .int .i64 d]) (.agg #[.int .i64 a, .int .i64 b, .int .i64 c, .int .i64 d])).run Tryz.prog w = .ok (.bool false) w := by
  simp [go_sem, arr2_eq]
set_option maxHeartbeats 16000000 in
theorem pl_tail (w W : World) (vo : Value) (len k t b n tr ob : Nat) (m : List Tab.En) (f : FTab) (c : OpC) (p : List Val) (gs : List Int) (Q : Exit → Act → World → Prop) (a0 : Act)
    (h0 : Live7 w vo len k 1 t b n tr m f a0 W) (hb : Box7 w ob c a0 W) (hi : OpIs w c p gs) (hk : True) (hlen : k < len ∧ len ≤ 100) (hpl : p.length ≤ 24) (hgl : gs.length ≤ 20)
    (hnext : ∀ a' W', Live7 w vo len k 1 t b n tr m f a' W' → Q .normal a' W') :
    Code.wp Tryz.prog (tail7 61) Q a0 W := by
  obtain ⟨hfr, h5, h7, h70, h71, h72, hs, hrel, hn⟩ := h0
  obtain ⟨h11, hbx, hlo⟩ := hb
  obtain ⟨u, hu⟩ : ∃ u : Nat → Value, u = fun i => a0.tmps.getD i undef := ⟨_, rfl⟩
  rw [← hu] at hfr
  have u5 : u 5 = _ := (congrFun hu 5).trans h5
  have u7 : u 7 = _ := (congrFun hu 7).trans h7
  have u11 : u 11 = _ := (congrFun hu 11).trans h11
  have u70 : u 70 = _ := (congrFun hu 70).trans h70
  have u71 : u 71 = _ := (congrFun hu 71).trans h71
  have u72 : u 72 = _ := (congrFun hu 72).trans h72
  clear hu h5 h7 h11 h70 h71 h72
  subst hfr
  conv => arg 2; whnf
  unfold frame7
  rw [u5, u7, u11, u70, u71, u72]
  clear u5 u7 u11 u70 u71 u72
  obtain ⟨l1, l2⟩ := hi.lens
  obtain ⟨ck, nd, ky, p0, q0, p1, q1, ap, np, cp, rk, rx, ry, al, nl, cl⟩ := c
  simp only at l1 l2
  subst l1 l2
  have x1 := cell_of (o := 1) hbx
  have x2 := cell_of (o := 2) hbx
  have x3 := cell_of (o := 3) hbx
  have x4 := cell_of (o := 4) hbx
  have x5 := cell_of (o := 5) hbx
  have x6 := cell_of (o := 6) hbx
  simp [encOp] at x1 x2 x3 x4 x5 x6
  have px := Pre.mk (heap_lt hbx)
  have HBX := Lib.hid hbx
  have HS := Lib.hid hs
  have HREL := Lib.hid hrel
  have HN := Lib.hid hn
  have HI := Lib.hid hi
  have HNX := Lib.hid hnext
  clear hs hrel hn hi hbx hnext
  have HRT := Lib.hid fun W2 => refRight07_any nd ky p0 q0 p1 q1 W2
  cases hok : okEn ⟨nd, ky, (p0, q0), (p1, q1)⟩
  · rw [hok] at HRT
    clear hok
    go_wp2_with fail
    refine (tabAll_any _ t b n m (HS.out.a.grew (by repeat (first | with_reducible exact Grew.refl _ | apply Grew.more | apply Grew.alloc | apply Grew.drew | apply Grew.drewN)))).mono ?_
    rintro e w5 ⟨v5, s5, rfl, hr5, hp5, hs5, ⟨R5, N5, hw5⟩⟩
    subst hw5
    obtain ⟨a5, c5, rfl⟩ := (OwnAt.rows hr5 encEn_len).len
    have HR5 := Lib.hid (OwnAt.rows hr5 encEn_len)
    have hall := HREL.out.all HS.out.ok hp5 hs5
    have HALL := Lib.hid hall
    clear hr5 hp5 hs5 hall
    go_wp2_with fail
    refine (refAll07_any _ tr f (HS.out.r.grew (by repeat (first | with_reducible exact Grew.refl _ | apply Grew.more | apply Grew.alloc | apply Grew.drew | apply Grew.drewN)))).mono ?_
    rintro e w6 ⟨v6, rfl, ho6, R6, N6, rfl⟩
    obtain ⟨a6, c6, rfl⟩ := (OwnAt.rows ho6 encEn_len).len
    have HR6 := Lib.hid (OwnAt.rows ho6 encEn_len)
    clear ho6
    go_wp2_with fail
    refine (refSame07_yes _ _ s5 _ _ (HR5.out.grew (by repeat (first | with_reducible exact Grew.refl _ | apply Grew.more | apply Grew.alloc | apply Grew.drew | apply Grew.drewN))) (HR6.out.grew (by repeat (first | with_reducible exact Grew.refl _ | apply Grew.more | apply Grew.alloc | apply Grew.drew | apply Grew.drewN))) HALL.out).mono ?_
    rintro e w7 ⟨rfl, R7, N7, rfl⟩
    go_upto_region 63 with fail
    refine wp_region_seq 25 Tryz.mixed (by kernel_rfl) (by kernel_rfl) ?_
    iterate 25
      apply Seq.val
      focus
        rintro w1 u ⟨R1, n1, rfl⟩ hF
        simp [moreFacts, Fact.more, Oper.deps, Region.binds, List.filter_cons, World.more_drew] at hF
        simp [putFacts, Oper.deps, Region.binds, List.filter_cons, Region.dstOf, Fact.at, Act.put, World.more_drew]
        go_wp2_with (first
          | (go_at_call 15; refine (HRT.out _).mono ?_; rintro e w8 ⟨rfl, R8, N8, rfl⟩)
          )
        exact ⟨by repeat (first | with_reducible exact Grew.refl _ | apply Grew.more | apply Grew.alloc | apply Grew.drew | apply Grew.drewN), rfl, _, _, rfl, rfl, rfl⟩
    rintro u w1 ⟨R1, n1, rfl⟩ hF
    clear hF
    simp [putFacts, Region.dstOf, Fact.at, Act.put, List.range_succ, World.more_drew]
    go_wp2
    exact HNX.out _ _ ⟨rfl, rfl, rfl, rfl, rfl, rfl, HS.out.grew (by repeat (first | with_reducible exact Grew.refl _ | apply Grew.more | apply Grew.alloc | apply Grew.drew | apply Grew.drewN)), HREL.out, HN.out⟩
  · have hth := okEn_there hok
    rw [hok] at HRT
    unfold There at hth
    simp only at hth
    obtain ⟨⟨h1, h2⟩, h3, h4⟩ := hth
    obtain ⟨nn, rfl⟩ := Int.eq_ofNat_of_zero_le h1
    obtain ⟨kk, rfl⟩ := Int.eq_ofNat_of_zero_le h3
    have hgt := HREL.out (nn : Int) (kk : Int) h1 h2 h3 h4
    obtain ⟨d0, d1, d2, d3⟩ := HS.out.r.cells (n := nn) (k := kk) (by omega) (by omega)
    have ptr := Pre.mk HS.out.r.lt
    obtain ⟨cc, hcc⟩ : ∃ cc, f nn kk = cc := ⟨_, rfl⟩
    rw [hcc] at hgt d0 d1 d2 d3
    obtain ⟨⟨g0, g1⟩, ⟨g2, g3⟩⟩ := cc
    simp only at d0 d1 d2 d3
    have HGET := Lib.hid fun W2 (g : Grew W W2) => tabGet_any W2 t b n m (HS.out.a.grew g) nn kk (thereB_iff (x := ⟨nn, kk, (0, 0), (0, 0)⟩) |>.2 ⟨⟨h1, h2⟩, h3, h4⟩) (g0, g1) (g2, g3) hgt
    have hnq := run_neq_same7 g0 g1 g2 g3
    clear hok hgt hcc
    go_wp2_with fail
    refine (tabAll_any _ t b n m (HS.out.a.grew (by repeat (first | with_reducible exact Grew.refl _ | apply Grew.more | apply Grew.alloc | apply Grew.drew | apply Grew.drewN)))).mono ?_
    rintro e w5 ⟨v5, s5, rfl, hr5, hp5, hs5, ⟨R5, N5, hw5⟩⟩
    subst hw5
    obtain ⟨a5, c5, rfl⟩ := (OwnAt.rows hr5 encEn_len).len
    have HR5 := Lib.hid (OwnAt.rows hr5 encEn_len)
    have hall := HREL.out.all HS.out.ok hp5 hs5
    have HALL := Lib.hid hall
    clear hr5 hp5 hs5 hall
    go_wp2_with fail
    refine (refAll07_any _ tr f (HS.out.r.grew (by repeat (first | with_reducible exact Grew.refl _ | apply Grew.more | apply Grew.alloc | apply Grew.drew | apply Grew.drewN)))).mono ?_
    rintro e w6 ⟨v6, rfl, ho6, R6, N6, rfl⟩
    obtain ⟨a6, c6, rfl⟩ := (OwnAt.rows ho6 encEn_len).len
    have HR6 := Lib.hid (OwnAt.rows ho6 encEn_len)
    clear ho6
    go_wp2_with fail
    refine (refSame07_yes _ _ s5 _ _ (HR5.out.grew (by repeat (first | with_reducible exact Grew.refl _ | apply Grew.more | apply Grew.alloc | apply Grew.drew | apply Grew.drewN))) (HR6.out.grew (by repeat (first | with_reducible exact Grew.refl _ | apply Grew.more | apply Grew.alloc | apply Grew.drew | apply Grew.drewN))) HALL.out).mono ?_
    rintro e w7 ⟨rfl, R7, N7, rfl⟩
    go_upto_region 63 with fail
    refine wp_region_seq 25 Tryz.mixed (by kernel_rfl) (by kernel_rfl) ?_
    iterate 25
      apply Seq.val
      focus
        rintro w1 u ⟨R1, n1, rfl⟩ hF
        simp [moreFacts, Fact.more, Oper.deps, Region.binds, List.filter_cons, World.more_drew] at hF
        simp [putFacts, Oper.deps, Region.binds, List.filter_cons, Region.dstOf, Fact.at, Act.put, World.more_drew]
        go_wp2_with (first
          | (first | (go_at_call 15; refine (HRT.out _).mono ?_; rintro e w8 ⟨rfl, R8, N8, rfl⟩) | (go_at_call 23; refine (HGET.out _ (by repeat (first | with_reducible exact Grew.refl _ | apply Grew.more | apply Grew.alloc | apply Grew.drew | apply Grew.drewN))).mono ?_; rintro e w8 ⟨rfl, R8, N8, rfl⟩))
          )
        exact ⟨by repeat (first | with_reducible exact Grew.refl _ | apply Grew.more | apply Grew.alloc | apply Grew.drew | apply Grew.drewN), rfl, _, _, rfl, rfl, rfl⟩
    rintro u w1 ⟨R1, n1, rfl⟩ hF
    clear hF
    simp [putFacts, Region.dstOf, Fact.at, Act.put, List.range_succ, World.more_drew]
    go_wp2
    exact HNX.out _ _ ⟨rfl, rfl, rfl, rfl, rfl, rfl, HS.out.grew (by repeat (first | with_reducible exact Grew.refl _ | apply Grew.more | apply Grew.alloc | apply Grew.drew | apply Grew.drewN)), HREL.out, HN.out⟩
end Go.Proofs.YtmdmbimfdpngaaaGreatDoor

/-! CellPlays: an op, whatever its kind; the loop. -/
namespace Go.Proofs.YtmdmbimfdpngaaaGreatDoor
set_option linter.unusedSimpArgs false
set_option linter.unusedVariables false
open Go.RowKit Ga
set_option maxRecDepth 100000

theorem pl_mid (w W : World) (vo : Value) (len k t b n tr ob : Nat) (m : List Tab.En) (f : FTab) (c : OpC) (p : List Val) (gs : List Int) (Q : Exit → Act → World → Prop) (a0 : Act)
    (h0 : Live7 w vo len k 0 t b n tr m f a0 W) (hb : Box7 w ob c a0 W) (hi : OpIs w c p gs) (hlen : k < len ∧ len ≤ 100) (hpl : p.length ≤ 24) (hgl : gs.length ≤ 20)
    (hnext : ∀ a' W' t' b' n' m' f', Live7 w vo len k 1 t' b' n' tr m' f' a' W' → Q .normal a' W') :
    Code.wp Tryz.prog (tail7 21) Q a0 W := by
  have hn : ∀ a' W' t' b' n' m' f', Live7 w vo len k 1 t' b' n' tr m' f' a' W' → Box7 w ob c a' W' → Code.wp Tryz.prog (tail7 61) Q a' W' := fun a' W' t' b' n' m' f' hl hb' =>
    pl_tail w W' vo len k t' b' n' tr ob m' f' c p gs Q a' hl hb' hi trivial hlen hpl hgl fun a'' W'' hl2 => hnext a'' W'' t' b' n' m' f' hl2
  by_cases k0 : c.k = 0
  · exact pl_0 w W vo len k t b n tr ob m f c p gs Q a0 h0 hb hi k0 hlen hpl hgl hn
  by_cases k1 : c.k = 1
  · by_cases hg : 0 ≤ c.nd ∧ c.nd < 8 ∧ recB c.rk (c.rx, c.ry) = true ∧ Vm.safe p = true
    · exact pl_1ok w W vo len k t b n tr ob m f c p gs Q a0 h0 hb hi ⟨k1, hg⟩ hlen hpl hgl hn
    · exact pl_1e w W vo len k t b n tr ob m f c p gs Q a0 h0 hb hi ⟨k1, hg⟩ hlen hpl hgl hn
  by_cases k2 : c.k = 2
  · exact pl_2 w W vo len k t b n tr ob m f c p gs Q a0 h0 hb hi k2 hlen hpl hgl hn
  by_cases k3 : c.k = 3
  · exact pl_3 w W vo len k t b n tr ob m f c p gs Q a0 h0 hb hi k3 hlen hpl hgl hn
  by_cases k4 : c.k = 4
  · exact pl_4 w W vo len k t b n tr ob m f c p gs Q a0 h0 hb hi k4 hlen hpl hgl hn
  exact pl_other w W vo len k t b n tr ob m f c p gs Q a0 h0 hb hi ⟨k0, k1, k2, k3, k4⟩ hlen hpl hgl hn
/-- from round to round -/
def Next7 (w : World) (vo : Value) (len tr N : Nat) (a : Act) (W : World) : Prop := ∃ (k t b n : Nat) (m : List Tab.En) (f : FTab), k ≤ len ∧ N = len - k ∧ Live7 w vo len k 0 t b n tr m f a W
structure Ret7 (w : World) (a : Act) (W : World) : Prop where
  t4 : a.tmps.getD 4 undef = .bool true
  d : a.defers = []
  g : Grew w W
set_option maxHeartbeats 16000000 in
theorem pl_body (w W : World) (aO : Option Addr) (cO : Nat) (lc : List OpC) (k t b n tr : Nat) (m : List Tab.En) (f : FTab) (K : Act → World → Prop) (Q : Exit → Act → World → Prop) (a0 : Act)
    (hO : OpsAt w (.slice aO lc.length cO) lc) (hlen : lc.length ≤ 100) (hk : k ≤ lc.length) (h0 : Live7 w (.slice aO lc.length cO) lc.length k 0 t b n tr m f a0 W)
    (hK : ∀ a' W', (∃ N, N < lc.length - k ∧ Next7 w (.slice aO lc.length cO) lc.length tr N a' W') → K a' W')
    (hX : ∀ a' W', a' = frame7 (fun i => a'.tmps.getD i undef) → Grew w W' → Q (.exit 2) a' W') (hR : ∀ a' W', Ret7 w a' W' → Q .ret a' W') :
    Code.wp Tryz.prog (tail7 17) (Exit.then K Q) a0 W := by
  obtain ⟨hfr, h5, h7, h70, h71, h72, hs, hrel, hn⟩ := h0
  obtain ⟨u, hu⟩ : ∃ u : Nat → Value, u = fun i => a0.tmps.getD i undef := ⟨_, rfl⟩
  rw [← hu] at hfr
  have u5 : u 5 = _ := (congrFun hu 5).trans h5
  have u7 : u 7 = _ := (congrFun hu 7).trans h7
  have u70 : u 70 = _ := (congrFun hu 70).trans h70
  have u71 : u 71 = _ := (congrFun hu 71).trans h71
  have u72 : u 72 = _ := (congrFun hu 72).trans h72
  clear hu h5 h7 h70 h71 h72
  subst hfr
  conv => arg 2; whnf
  unfold frame7
  rw [u5, u7, u70, u71, u72]
  clear u5 u7 u70 u71 u72
  have HS := Lib.hid hs
  have HREL := Lib.hid hrel
  have HN := Lib.hid hn
  have HK := Lib.hid hK
  have HX := Lib.hid hX
  have HR := Lib.hid hR
  by_cases hlt : k < lc.length
  · obtain ⟨a', cap', e, -, hx⟩ := OpsAt.open hO
    cases e
    obtain ⟨bq, off, rfl, hbq, hc⟩ := hx k hlt
    obtain ⟨p, gs, hi⟩ := hO.2 lc[k] (List.getElem_mem hlt)
    have hc' : ∀ j u, (encOp lc[k])[j]? = some u → W.cell? ⟨bq, off + k * 12 + j, none⟩ = some u := fun j u hu => below_keeps HS.out.g.below _ _ (hc j u hu)
    have hbW : Pre bq W := Pre.mk (Nat.lt_of_lt_of_le hbq HS.out.g.below.size)
    obtain ⟨l1, l2⟩ := hi.lens
    clear hx hc hs hrel hn hK hX hR
    generalize hck : lc[k] = c at *
    obtain ⟨ck, nd, ky, p0, q0, p1, q1, ap, np, cp, rk, rx, ry, al, nl, cl⟩ := c
    simp only at l1 l2
    subst l1 l2
    have c0 := hc' 0 _ rfl
    have c1 := hc' 1 _ rfl
    have c2 := hc' 2 _ rfl
    have c3 := hc' 3 _ rfl
    have c4 := hc' 4 _ rfl
    have c5 := hc' 5 _ rfl
    have c6 := hc' 6 _ rfl
    have c7 := hc' 7 _ rfl
    have c8 := hc' 8 _ rfl
    have c9 := hc' 9 _ rfl
    have c10 := hc' 10 _ rfl
    have c11 := hc' 11 _ rfl
    simp only [Nat.add_zero] at c0
    have HI := Lib.hid hi
    clear hc' hi hck
    by_cases hp : p.length ≤ 24
    case neg =>
      go_wp2
      exact HR.out _ _ ⟨rfl, rfl, HS.out.g.trans (by repeat (first | with_reducible exact Grew.refl _ | apply Grew.more | apply Grew.alloc | apply Grew.drew | apply Grew.drewN))⟩
    by_cases hg : gs.length ≤ 20
    case neg =>
      go_wp2
      exact HR.out _ _ ⟨rfl, rfl, HS.out.g.trans (by repeat (first | with_reducible exact Grew.refl _ | apply Grew.more | apply Grew.alloc | apply Grew.drew | apply Grew.drewN))⟩
    go_upto_if 85 with fail
    iterate 4 go_step
    refine pl_mid w _ _ _ k t b n tr W.heap.size m f ⟨ck, nd, ky, p0, q0, p1, q1, ap, p.length, cp, rk, rx, ry, al, gs.length, cl⟩ p gs _ _ ⟨rfl, rfl, rfl, rfl, rfl, rfl, HS.out.grew (by repeat (first | with_reducible exact Grew.refl _ | apply Grew.more | apply Grew.alloc | apply Grew.drew | apply Grew.drewN)), HREL.out, HN.out⟩ ⟨rfl, heap_new_at _ _ _ rfl, HS.out.g.below.size⟩ HI.out ⟨hlt, hlen⟩ hp hg ?_
    intro a1 W1 t1 b1 n1 m1 f1 hl
    obtain ⟨gfr, g5, g7, g70, g71, g72, hs1, hrel1, hn1⟩ := hl
    obtain ⟨v, hv⟩ : ∃ v : Nat → Value, v = fun i => a1.tmps.getD i undef := ⟨_, rfl⟩
    rw [← hv] at gfr
    have v5 : v 5 = _ := (congrFun hv 5).trans g5
    have v7 : v 7 = _ := (congrFun hv 7).trans g7
    have v70 : v 70 = _ := (congrFun hv 70).trans g70
    have v71 : v 71 = _ := (congrFun hv 71).trans g71
    have v72 : v 72 = _ := (congrFun hv 72).trans g72
    clear hv g5 g7 g70 g71 g72
    subst gfr
    unfold frame7
    rw [v5, v7, v70, v71, v72]
    clear v5 v7 v70 v71 v72 c0 c1 c2 c3 c4 c5 c6 c7 c8 c9 c10 c11
    have HS1 := Lib.hid hs1
    have HREL1 := Lib.hid hrel1
    have HN1 := Lib.hid hn1
    clear hs1 hrel1 hn1
    iterate 2 go_step
    go_wp2
    exact HK.out _ _ ⟨lc.length - (k + 1), by omega, k + 1, t1, b1, n1, m1, f1, by omega, rfl, ⟨rfl, rfl, rfl, rfl, rfl, by go_num, HS1.out, HREL1.out, by have := HN1.out; omega⟩⟩
  · obtain rfl : k = lc.length := by omega
    go_wp2
    exact HX.out _ _ rfl HS.out.g
theorem pl_loop (w W : World) (aO : Option Addr) (cO : Nat) (lc : List OpC) (t b n tr : Nat) (m : List Tab.En) (f : FTab) (Q : Exit → Act → World → Prop) (a0 : Act)
    (hO : OpsAt w (.slice aO lc.length cO) lc) (hlen : lc.length ≤ 100) (h0 : Live7 w (.slice aO lc.length cO) lc.length 0 0 t b n tr m f a0 W)
    (hX : ∀ a' W', a' = frame7 (fun i => a'.tmps.getD i undef) → Grew w W' → Q (.exit 2) a' W') (hR : ∀ a' W', Ret7 w a' W' → Q .ret a' W') :
    Code.wp Tryz.prog (.loop (tail7 17)) Q a0 W := by
  refine wp_loop_ghost_k (Next7 w (.slice aO lc.length cO) lc.length tr) lc.length ⟨0, t, b, n, m, f, Nat.zero_le _, rfl, h0⟩ ?_
  rintro N a1 W1 ⟨k, t1, b1, n1, m1, f1, hk, rfl, hl⟩ J K hJ hK
  have hK' : ∀ a' W', (∃ N, N < lc.length - k ∧ Next7 w (.slice aO lc.length cO) lc.length tr N a' W') → K a' W' := fun a' W' ⟨n', h1, h2⟩ => hK _ _ (Handed.intro n' h1 (hJ _ _ _ h2))
  exact pl_body w W1 aO cO lc k t1 b1 n1 tr m1 f1 K Q a1 hO hlen hk hl hK' hX hR
end Go.Proofs.YtmdmbimfdpngaaaGreatDoor
