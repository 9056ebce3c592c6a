import Derived.Test.YtlgbipfpnfphjaaGreatDoorGb20
/-! lines: fits, place, Node. -/
namespace Go.Proofs.YtlgbipfpnfphjaaGreatDoor
set_option linter.unusedSimpArgs false
set_option linter.unusedVariables false
open Go.RowKit Ga
set_option maxRecDepth 100000

/-- route.Text of any route -/
theorem routeText_no (r0 r1 r2 r3 r4 r5 r6 r7 : Int) (w : World) (hr : rtB 3 [r0, r1, r2, r3, r4, r5, r6, r7] = false) : Calls Tryz.prog 115 #[.agg #[.int .i64 r0, .int .i64 r1, .int .i64 r2, .int .i64 r3, .int .i64 r4, .int .i64 r5, .int .i64 r6, .int .i64 r7]] w (Gives (str []) w) := by
  have hrt := fun W => routeRight_any 3 r0 r1 r2 r3 r4 r5 r6 r7 W
  simp only [hr] at hrt
  have HRT := Lib.hid hrt
  clear hr hrt
  go_enter Tryz.func115, Tryz.ntmps115
  go_wp2_with (go_at_call 143; refine (HRT.out _).mono ?_; rintro e w1 ⟨rfl, R1, n1, rfl⟩)
  go_ret
  exact ⟨rfl, by repeat (first | with_reducible exact Grew.refl _ | apply Grew.more | apply Grew.alloc | apply Grew.drew | apply Grew.drewN)⟩
theorem rtx_len8 (r0 r1 r2 r3 r4 r5 r6 r7 : Int) : (Li.rtx [r0, r1, r2, r3, r4, r5, r6, r7]).length = 8 := rfl
set_option maxHeartbeats 16000000 in
theorem fits_any (c : NdC) (n : Gr.Nd) (w : World) (hn : NodeIs w c n) : Calls Tryz.prog 69 #[.agg #[.int .i64 c.id, .int .i64 c.kind, .slice c.af c.nf c.cf, .slice c.ap c.np c.cp, .int .i64 c.par, .int .i64 c.r0, .int .i64 c.r1, .int .i64 c.r2, .int .i64 c.r3, .int .i64 c.r4, .int .i64 c.r5, .int .i64 c.r6, .int .i64 c.r7]] w (Gives (.bool (Li.fitsN n)) w) := by
  obtain ⟨a1, c1, e1, hm1, -⟩ := ints_open hn.f
  have hF : Li.fitsN n = ([c.id, c.par].all Li.num && (n.frm.all Li.num && (decide (n.frm.length ≤ 60) && (rtB 3 [c.r0, c.r1, c.r2, c.r3, c.r4, c.r5, c.r6, c.r7] && Co.fitsI n.prog)))) := by
    unfold Li.fitsN
    rw [hn.id, hn.par, hn.route, rt3_eq]
    simp [Bool.and_assoc]
  rw [hF]
  clear hF
  have HN1 := Lib.hid fun W (q : Grew w W) => num_any _ n.frm W (hn.f.grew q)
  have HN2 := Lib.hid fun W b (hb : b = W.heap.size) => num_any _ [c.id, c.par] _ (ints_two W c.id c.par b hb)
  have HC := Lib.hid fun W (q : Grew w W) => codeFits_any _ n.prog W (hn.p.grew q)
  obtain ⟨id, kd, af, nf, cf, ap, np, cp, par, r0, r1, r2, r3, r4, r5, r6, r7⟩ := c
  cases e1
  clear hn
  generalize Co.fitsI n.prog = q5 at *
  generalize n.frm.all Li.num = q2 at *
  simp only at *
  generalize [id, par].all Li.num = q1 at *
  cases hq4 : rtB 3 [r0, r1, r2, r3, r4, r5, r6, r7]
  all_goals
    first
      | have HT := Lib.hid fun W => routeText_no r0 r1 r2 r3 r4 r5 r6 r7 W hq4
      | (have HT := Lib.hid fun W => routeText_any r0 r1 r2 r3 r4 r5 r6 r7 W hq4
         have hl8 : (rtxt [r0, r1, r2, r3, r4, r5, r6, r7]).isEmpty = false := rfl
         generalize rtxt [r0, r1, r2, r3, r4, r5, r6, r7] = rtt at *)
    clear hq4
    go_enter Tryz.func69, Tryz.ntmps69
    go_wp2_with fail
    refine (HN2.out _ _ (by simp [go_sem])).mono ?_
    rintro e w1 ⟨rfl, R1, n1, rfl⟩
    go_wp2_with (first
      | (go_at_call 41; refine (HN1.out _ (by repeat (first | with_reducible exact Grew.refl _ | apply Grew.more | apply Grew.alloc | apply Grew.drew | apply Grew.drewN))).mono ?_; rintro e w1 ⟨rfl, R2, n2, rfl⟩)
      | (go_at_call 115; refine (HT.out _).mono ?_; rintro e w1 ⟨rfl, R3, n3, rfl⟩)
      | (go_at_call 116; refine (HC.out _ (by repeat (first | with_reducible exact Grew.refl _ | apply Grew.more | apply Grew.alloc | apply Grew.drew | apply Grew.drewN))).mono ?_; rintro e w1 ⟨rfl, R4, n4, rfl⟩))
    all_goals
      go_ret
      exact ⟨ret_bool (by grind), by repeat (first | with_reducible exact Grew.refl _ | apply Grew.more | apply Grew.alloc | apply Grew.drew | apply Grew.drewN)⟩
set_option maxHeartbeats 8000000 in
theorem place_any (id kd par r0 r1 r2 r3 r4 r5 r6 r7 : Int) (af ap : Option Addr) (nf cf np cp : Nat) (w : World) (hP : Pow w) (hp : Li.num par = true) (hr : Li.rt3 [r0, r1, r2, r3, r4, r5, r6, r7] = true) : Calls Tryz.prog 73 #[.agg #[.int .i64 id, .int .i64 kd, .slice af nf cf, .slice ap np cp, .int .i64 par, .int .i64 r0, .int .i64 r1, .int .i64 r2, .int .i64 r3, .int .i64 r4, .int .i64 r5, .int .i64 r6, .int .i64 r7]] w (Gives (str (Lib.itoa par ++ 32 :: Li.rtx [r0, r1, r2, r3, r4, r5, r6, r7])) w) := by
  have HI := Lib.hid fun W (q : Grew w W) => itoa_any par (num_range hp) W (hP.grew q)
  have HT := Lib.hid fun W => routeText_any r0 r1 r2 r3 r4 r5 r6 r7 W (by rw [← rt3_eq]; exact hr)
  have l1 := Li.itoa_len8 hp
  have l2 : (rtxt [r0, r1, r2, r3, r4, r5, r6, r7]).length = 8 := rfl
  rw [rtx_eq]
  clear hP hp hr
  generalize Lib.itoa par = it at *
  generalize rtxt [r0, r1, r2, r3, r4, r5, r6, r7] = rt at *
  go_enter Tryz.func73, Tryz.ntmps73
  go_wp2_with fail
  refine wp_region_seq 9 Tryz.mixed (by kernel_rfl) (by kernel_rfl) ?_
  iterate 2
    apply Seq.val
    focus
      rintro w1 u ⟨R1, n1, rfl⟩ hF
      simp [moreFacts, Fact.more, Oper.deps, Region.binds, List.filter_cons, World.more_drew] at hF
      simp [putFacts, Oper.deps, Region.binds, List.filter_cons, Region.dstOf, Fact.at, Act.put, World.more_drew]
      go_wp2
      exact ⟨by repeat (first | with_reducible exact Grew.refl _ | apply Grew.more | apply Grew.alloc | apply Grew.drew | apply Grew.drewN), rfl, _, _, rfl, rfl, rfl⟩
  apply Seq.val
  focus
    rintro w1 u ⟨R1, n1, rfl⟩ hF
    simp [moreFacts, Fact.more, Oper.deps, Region.binds, List.filter_cons, World.more_drew] at hF
    simp [putFacts, Oper.deps, Region.binds, List.filter_cons, Region.dstOf, Fact.at, Act.put, World.more_drew]
    go_wp2_with (first
      | (go_at_call 44; refine (HI.out _ (by repeat (first | with_reducible exact Grew.refl _ | apply Grew.more | apply Grew.alloc | apply Grew.drew | apply Grew.drewN))).mono ?_; rintro e w1 ⟨rfl, R1, n1, rfl⟩)
      )
    exact ⟨by repeat (first | with_reducible exact Grew.refl _ | apply Grew.more | apply Grew.alloc | apply Grew.drew | apply Grew.drewN), rfl, _, _, rfl, rfl, rfl⟩
  iterate 3
    apply Seq.val
    focus
      rintro w1 u ⟨R1, n1, rfl⟩ hF
      simp [moreFacts, Fact.more, Oper.deps, Region.binds, List.filter_cons, World.more_drew] at hF
      simp [putFacts, Oper.deps, Region.binds, List.filter_cons, Region.dstOf, Fact.at, Act.put, World.more_drew]
      go_wp2
      exact ⟨by repeat (first | with_reducible exact Grew.refl _ | apply Grew.more | apply Grew.alloc | apply Grew.drew | apply Grew.drewN), rfl, _, _, rfl, rfl, rfl⟩
  apply Seq.val
  focus
    rintro w1 u ⟨R1, n1, rfl⟩ hF
    simp [moreFacts, Fact.more, Oper.deps, Region.binds, List.filter_cons, World.more_drew] at hF
    simp [putFacts, Oper.deps, Region.binds, List.filter_cons, Region.dstOf, Fact.at, Act.put, World.more_drew]
    go_wp2_with (first
      | (go_at_call 115; refine (HT.out _).mono ?_; rintro e w1 ⟨rfl, R3, n3, rfl⟩)
      )
    exact ⟨by repeat (first | with_reducible exact Grew.refl _ | apply Grew.more | apply Grew.alloc | apply Grew.drew | apply Grew.drewN), rfl, _, _, rfl, rfl, rfl⟩
  iterate 2
    apply Seq.val
    focus
      rintro w1 u ⟨R1, n1, rfl⟩ hF
      simp [moreFacts, Fact.more, Oper.deps, Region.binds, List.filter_cons, World.more_drew] at hF
      simp [putFacts, Oper.deps, Region.binds, List.filter_cons, Region.dstOf, Fact.at, Act.put, World.more_drew]
      go_wp2
      exact ⟨by repeat (first | with_reducible exact Grew.refl _ | apply Grew.more | apply Grew.alloc | apply Grew.drew | apply Grew.drewN), rfl, _, _, rfl, rfl, rfl⟩
  rintro u w1 ⟨R1, n1, rfl⟩ hF
  clear hF
  simp [putFacts, Region.dstOf, Fact.at, Act.put, List.range_succ, World.more_drew]
  go_wp2
  go_ret
  exact ⟨by simp [str_cat], by repeat (first | with_reducible exact Grew.refl _ | apply Grew.more | apply Grew.alloc | apply Grew.drew | apply Grew.drewN)⟩
theorem listT_len {l : List Int} (hl : ∀ x ∈ l, Li.num x = true) (h60 : l.length ≤ 60) : (Li.listT l).length ≤ 600 := by
  unfold Li.listT
  split
  · simp
  · have := join_len (l.map Lib.itoa) [44] 8 fun x hx => by
      obtain ⟨n, hn2, rfl⟩ := List.mem_map.1 hx
      exact Li.itoa_len8 (hl n hn2)
    rw [List.length_map] at this
    have e : ([44] : List UInt8).length = 1 := rfl
    rw [e] at this
    omega
/-- what all nodes that fit have -/
structure FitN (n : Gr.Nd) : Prop where
  id : Li.num n.id = true
  par : Li.num n.par = true
  frm : ∀ f ∈ n.frm, Li.num f = true
  l60 : n.frm.length ≤ 60
  rt : Li.rt3 n.route = true
  pr : Co.fitsI n.prog = true
theorem fitN {n : Gr.Nd} (h : Li.fitsN n = true) : FitN n :=
  let ⟨a, b, c, d, e, f⟩ := Li.fitsN_iff.1 h
  ⟨a, b, c, d, e, f⟩
theorem textI_len400 {l : List Co.Ins} (h : Co.fitsI l = true) : (Co.textI l).length ≤ 400 := by
  obtain ⟨h1, h2⟩ := Co.fits_parts h
  have := Co.textI_len l h2
  omega
theorem textOut_fits {l : List Co.Ins} (h : Co.fitsI l = true) : Co.textOut l = Co.textI l := by unfold Co.textOut; exact if_pos h
set_option maxHeartbeats 32000000 in
theorem nodeText_any (c : NdC) (n : Gr.Nd) (w : World) (hP : Pow w) (hA : Asc w) (hn : NodeIs w c n) : Calls Tryz.prog 70 #[.agg #[.int .i64 c.id, .int .i64 c.kind, .slice c.af c.nf c.cf, .slice c.ap c.np c.cp, .int .i64 c.par, .int .i64 c.r0, .int .i64 c.r1, .int .i64 c.r2, .int .i64 c.r3, .int .i64 c.r4, .int .i64 c.r5, .int .i64 c.r6, .int .i64 c.r7]] w (Gives (str (Li.nodeT n)) w) := by
  have HF := Lib.hid fun W (q : Grew w W) => fits_any c n W (hn.grew q)
  cases hf : Li.fitsN n
  · have hT : Li.nodeT n = [] := by unfold Li.nodeT; rw [hf]; simp
    rw [hT]
    rw [hf] at HF
    obtain ⟨id, kd, af, nf, cf, ap, np, cp, par, r0, r1, r2, r3, r4, r5, r6, r7⟩ := c
    clear hn hP hA hT hf
    go_enter Tryz.func70, Tryz.ntmps70
    go_wp2_with (go_at_call 69; refine (HF.out _ (by repeat (first | with_reducible exact Grew.refl _ | apply Grew.more | apply Grew.alloc | apply Grew.drew | apply Grew.drewN))).mono ?_; rintro e w1 ⟨rfl, R1, n1, rfl⟩)
    go_ret
    exact ⟨rfl, by repeat (first | with_reducible exact Grew.refl _ | apply Grew.more | apply Grew.alloc | apply Grew.drew | apply Grew.drewN)⟩
  rw [hf] at HF
  have hN := fitN hf
  have hrt := hN.rt
  rw [hn.route] at hrt
  have hpar := hN.par
  rw [hn.par] at hpar
  have hid := hN.id
  rw [hn.id] at hid
  have HI := Lib.hid fun W (q : Grew w W) => itoa_any c.id (num_range hid) W (hP.grew q)
  have HL := Lib.hid fun W (q : Grew w W) => list_any c.vf n.frm W (hP.grew q) (hn.f.grew q) hN.frm hN.l60
  have HPL := Lib.hid fun W (q : Grew w W) => place_any c.id c.kind c.par c.r0 c.r1 c.r2 c.r3 c.r4 c.r5 c.r6 c.r7 c.af c.ap c.nf c.cf c.np c.cp W (hP.grew q) hpar hrt
  have HT := Lib.hid fun W (q : Grew w W) => codeText_any c.vp n.prog W (hn.p.grew q) (hP.grew q) (hA.grew q)
  rw [textOut_fits hN.pr] at HT
  have l1 := Li.itoa_len8 hid
  have l2 := listT_len hN.frm hN.l60
  have l3 := textI_len400 hN.pr
  have l60 := hN.l60
  have l24 := (Co.fits_parts hN.pr).1
  have l4 : (Lib.itoa c.par ++ 32 :: Li.rtx [c.r0, c.r1, c.r2, c.r3, c.r4, c.r5, c.r6, c.r7]).length ≤ 20 := by
    have := Li.itoa_len8 hpar
    have := rtx_len8 c.r0 c.r1 c.r2 c.r3 c.r4 c.r5 c.r6 c.r7
    simp only [List.length_append, List.length_cons]
    omega
  have hNT : Li.nodeT n = if n.kind = 0 ∧ n.frm = [] ∧ n.prog = [] then Lib.itoa c.id ++ 32 :: (Li.sSOURCE ++ 32 :: Li.placeT n)
    else if n.kind = 1 then Lib.itoa c.id ++ 32 :: (Li.sOP ++ 32 :: (Li.listT n.frm ++ 32 :: (Li.placeT n ++ (Li.behind ++ Co.textI n.prog))))
    else if n.kind = 2 ∧ n.prog = [] then Lib.itoa c.id ++ 32 :: (Li.sSINK ++ 32 :: (Li.listT n.frm ++ 32 :: Li.placeT n))
    else [] := by
      unfold Li.nodeT
      rw [if_pos hf, hn.id]
  have hPT : Li.placeT n = Lib.itoa c.par ++ 32 :: Li.rtx [c.r0, c.r1, c.r2, c.r3, c.r4, c.r5, c.r6, c.r7] := by
    unfold Li.placeT
    rw [hn.par, hn.route]
  rw [hPT, hn.kind] at hNT
  obtain ⟨a1, c1, e1, hm1, -⟩ := ints_open hn.f
  obtain ⟨a2, c2, e2, hm2, -⟩ := hn.p.open2
  obtain ⟨id, kd, af, nf, cf, ap, np, cp, par, r0, r1, r2, r3, r4, r5, r6, r7⟩ := c
  cases e1
  cases e2
  have hfl : n.frm = [] ↔ n.frm.length = 0 := List.length_eq_zero_iff.symm
  have hpl : n.prog = [] ↔ n.prog.length = 0 := List.length_eq_zero_iff.symm
  simp only [hfl, hpl] at hNT
  rw [hNT]
  clear hn hN hrt hpar hid hNT hPT hf hP hA hfl hpl
  simp only at *
  generalize Lib.itoa id = it at *
  generalize Li.listT n.frm = lt at *
  generalize Co.textI n.prog = ct at *
  generalize Lib.itoa par ++ 32 :: Li.rtx [r0, r1, r2, r3, r4, r5, r6, r7] = pt at *
  generalize n.frm.length = nf at *
  generalize n.prog.length = np at *
  rcases (show (kd = 0 ∧ nf = 0 ∧ np = 0) ∨ (kd = 0 ∧ ¬ (nf = 0 ∧ np = 0)) ∨ kd = 1 ∨ (kd = 2 ∧ np = 0) ∨ (kd = 2 ∧ np ≠ 0) ∨ (kd ≠ 0 ∧ kd ≠ 1 ∧ kd ≠ 2) by omega) with ⟨rfl, rfl, rfl⟩ | ⟨rfl, h1⟩ | rfl | ⟨rfl, rfl⟩ | ⟨rfl, h1⟩ | ⟨h1, h2, h3⟩
  · rw [if_pos (by simp)]
    go_enter Tryz.func70, Tryz.ntmps70
    go_wp2_with (first
      | (go_at_call 69; refine (HF.out _ (by repeat (first | with_reducible exact Grew.refl _ | apply Grew.more | apply Grew.alloc | apply Grew.drew | apply Grew.drewN))).mono ?_; rintro e w1 ⟨rfl, R1, n1, rfl⟩)
      | (go_at_call 44; refine (HI.out _ (by repeat (first | with_reducible exact Grew.refl _ | apply Grew.more | apply Grew.alloc | apply Grew.drew | apply Grew.drewN))).mono ?_; rintro e w1 ⟨rfl, R2, n2, rfl⟩)
      | (go_at_call 73; refine (HPL.out _ (by repeat (first | with_reducible exact Grew.refl _ | apply Grew.more | apply Grew.alloc | apply Grew.drew | apply Grew.drewN))).mono ?_; rintro e w1 ⟨rfl, R4, n4, rfl⟩))
    go_ret
    exact ⟨by simp [str_cat, Li.sSOURCE], by repeat (first | with_reducible exact Grew.refl _ | apply Grew.more | apply Grew.alloc | apply Grew.drew | apply Grew.drewN)⟩
  · rw [if_neg (by omega), if_neg (by omega), if_neg (by omega)]
    have h1b : ¬ ((nf : Int) + (np : Int) = 0) := by omega
    go_enter Tryz.func70, Tryz.ntmps70
    go_wp2_with (first
      | (go_at_call 69; refine (HF.out _ (by repeat (first | with_reducible exact Grew.refl _ | apply Grew.more | apply Grew.alloc | apply Grew.drew | apply Grew.drewN))).mono ?_; rintro e w1 ⟨rfl, R1, n1, rfl⟩)
      | (go_at_call 44; refine (HI.out _ (by repeat (first | with_reducible exact Grew.refl _ | apply Grew.more | apply Grew.alloc | apply Grew.drew | apply Grew.drewN))).mono ?_; rintro e w1 ⟨rfl, R2, n2, rfl⟩))
    go_ret
    exact ⟨rfl, by repeat (first | with_reducible exact Grew.refl _ | apply Grew.more | apply Grew.alloc | apply Grew.drew | apply Grew.drewN)⟩
  · rw [if_neg (by omega), if_pos rfl]
    go_enter Tryz.func70, Tryz.ntmps70
    go_wp2_with (first
      | (go_at_call 69; refine (HF.out _ (by repeat (first | with_reducible exact Grew.refl _ | apply Grew.more | apply Grew.alloc | apply Grew.drew | apply Grew.drewN))).mono ?_; rintro e w1 ⟨rfl, R1, n1, rfl⟩)
      | (go_at_call 44; refine (HI.out _ (by repeat (first | with_reducible exact Grew.refl _ | apply Grew.more | apply Grew.alloc | apply Grew.drew | apply Grew.drewN))).mono ?_; rintro e w1 ⟨rfl, R2, n2, rfl⟩)
      | fail)
    refine wp_region_seq 16 Tryz.mixed (by kernel_rfl) (by kernel_rfl) ?_
    iterate 4
      apply Seq.val
      focus
        rintro w1 u ⟨R1, n1, rfl⟩ hF
        simp [moreFacts, Fact.more, Oper.deps, Region.binds, List.filter_cons, World.more_drew] at hF
        simp [putFacts, Oper.deps, Region.binds, List.filter_cons, Region.dstOf, Fact.at, Act.put, World.more_drew]
        go_wp2
        exact ⟨by repeat (first | with_reducible exact Grew.refl _ | apply Grew.more | apply Grew.alloc | apply Grew.drew | apply Grew.drewN), rfl, _, _, rfl, rfl, rfl⟩
    apply Seq.val
    focus
      rintro w1 u ⟨R1, n1, rfl⟩ hF
      simp [moreFacts, Fact.more, Oper.deps, Region.binds, List.filter_cons, World.more_drew] at hF
      simp [putFacts, Oper.deps, Region.binds, List.filter_cons, Region.dstOf, Fact.at, Act.put, World.more_drew]
      go_wp2_with (first
        | (go_at_call 74; refine (HL.out _ (by repeat (first | with_reducible exact Grew.refl _ | apply Grew.more | apply Grew.alloc | apply Grew.drew | apply Grew.drewN))).mono ?_; rintro e w1 ⟨rfl, R3, n3, rfl⟩)
        )
      exact ⟨by repeat (first | with_reducible exact Grew.refl _ | apply Grew.more | apply Grew.alloc | apply Grew.drew | apply Grew.drewN), rfl, _, _, rfl, rfl, rfl⟩
    iterate 3
      apply Seq.val
      focus
        rintro w1 u ⟨R1, n1, rfl⟩ hF
        simp [moreFacts, Fact.more, Oper.deps, Region.binds, List.filter_cons, World.more_drew] at hF
        simp [putFacts, Oper.deps, Region.binds, List.filter_cons, Region.dstOf, Fact.at, Act.put, World.more_drew]
        go_wp2
        exact ⟨by repeat (first | with_reducible exact Grew.refl _ | apply Grew.more | apply Grew.alloc | apply Grew.drew | apply Grew.drewN), rfl, _, _, rfl, rfl, rfl⟩
    apply Seq.val
    focus
      rintro w1 u ⟨R1, n1, rfl⟩ hF
      simp [moreFacts, Fact.more, Oper.deps, Region.binds, List.filter_cons, World.more_drew] at hF
      simp [putFacts, Oper.deps, Region.binds, List.filter_cons, Region.dstOf, Fact.at, Act.put, World.more_drew]
      go_wp2_with (first
        | (go_at_call 73; refine (HPL.out _ (by repeat (first | with_reducible exact Grew.refl _ | apply Grew.more | apply Grew.alloc | apply Grew.drew | apply Grew.drewN))).mono ?_; rintro e w1 ⟨rfl, R4, n4, rfl⟩)
        )
      exact ⟨by repeat (first | with_reducible exact Grew.refl _ | apply Grew.more | apply Grew.alloc | apply Grew.drew | apply Grew.drewN), rfl, _, _, rfl, rfl, rfl⟩
    iterate 4
      apply Seq.val
      focus
        rintro w1 u ⟨R1, n1, rfl⟩ hF
        simp [moreFacts, Fact.more, Oper.deps, Region.binds, List.filter_cons, World.more_drew] at hF
        simp [putFacts, Oper.deps, Region.binds, List.filter_cons, Region.dstOf, Fact.at, Act.put, World.more_drew]
        go_wp2
        exact ⟨by repeat (first | with_reducible exact Grew.refl _ | apply Grew.more | apply Grew.alloc | apply Grew.drew | apply Grew.drewN), rfl, _, _, rfl, rfl, rfl⟩
    apply Seq.val
    focus
      rintro w1 u ⟨R1, n1, rfl⟩ hF
      simp [moreFacts, Fact.more, Oper.deps, Region.binds, List.filter_cons, World.more_drew] at hF
      simp [putFacts, Oper.deps, Region.binds, List.filter_cons, Region.dstOf, Fact.at, Act.put, World.more_drew]
      go_wp2_with (first
        | (go_at_call 72; refine (HT.out _ (by repeat (first | with_reducible exact Grew.refl _ | apply Grew.more | apply Grew.alloc | apply Grew.drew | apply Grew.drewN))).mono ?_; rintro e w1 ⟨rfl, R5, n5, rfl⟩)
        )
      exact ⟨by repeat (first | with_reducible exact Grew.refl _ | apply Grew.more | apply Grew.alloc | apply Grew.drew | apply Grew.drewN), rfl, _, _, rfl, rfl, rfl⟩
    iterate 2
      apply Seq.val
      focus
        rintro w1 u ⟨R1, n1, rfl⟩ hF
        simp [moreFacts, Fact.more, Oper.deps, Region.binds, List.filter_cons, World.more_drew] at hF
        simp [putFacts, Oper.deps, Region.binds, List.filter_cons, Region.dstOf, Fact.at, Act.put, World.more_drew]
        go_wp2
        exact ⟨by repeat (first | with_reducible exact Grew.refl _ | apply Grew.more | apply Grew.alloc | apply Grew.drew | apply Grew.drewN), rfl, _, _, rfl, rfl, rfl⟩
    rintro u w1 ⟨R1, n1, rfl⟩ hF
    clear hF
    simp [putFacts, Region.dstOf, Fact.at, Act.put, List.range_succ, World.more_drew]
    go_wp2
    go_ret
    exact ⟨by simp [str_cat, Li.sOP, Li.behind], by repeat (first | with_reducible exact Grew.refl _ | apply Grew.more | apply Grew.alloc | apply Grew.drew | apply Grew.drewN)⟩
  · rw [if_neg (by omega), if_neg (by omega), if_pos (by simp)]
    go_enter Tryz.func70, Tryz.ntmps70
    go_wp2_with (first
      | (go_at_call 69; refine (HF.out _ (by repeat (first | with_reducible exact Grew.refl _ | apply Grew.more | apply Grew.alloc | apply Grew.drew | apply Grew.drewN))).mono ?_; rintro e w1 ⟨rfl, R1, n1, rfl⟩)
      | (go_at_call 44; refine (HI.out _ (by repeat (first | with_reducible exact Grew.refl _ | apply Grew.more | apply Grew.alloc | apply Grew.drew | apply Grew.drewN))).mono ?_; rintro e w1 ⟨rfl, R2, n2, rfl⟩)
      | fail)
    refine wp_region_seq 11 Tryz.mixed (by kernel_rfl) (by kernel_rfl) ?_
    iterate 4
      apply Seq.val
      focus
        rintro w1 u ⟨R1, n1, rfl⟩ hF
        simp [moreFacts, Fact.more, Oper.deps, Region.binds, List.filter_cons, World.more_drew] at hF
        simp [putFacts, Oper.deps, Region.binds, List.filter_cons, Region.dstOf, Fact.at, Act.put, World.more_drew]
        go_wp2
        exact ⟨by repeat (first | with_reducible exact Grew.refl _ | apply Grew.more | apply Grew.alloc | apply Grew.drew | apply Grew.drewN), rfl, _, _, rfl, rfl, rfl⟩
    apply Seq.val
    focus
      rintro w1 u ⟨R1, n1, rfl⟩ hF
      simp [moreFacts, Fact.more, Oper.deps, Region.binds, List.filter_cons, World.more_drew] at hF
      simp [putFacts, Oper.deps, Region.binds, List.filter_cons, Region.dstOf, Fact.at, Act.put, World.more_drew]
      go_wp2_with (first
        | (go_at_call 74; refine (HL.out _ (by repeat (first | with_reducible exact Grew.refl _ | apply Grew.more | apply Grew.alloc | apply Grew.drew | apply Grew.drewN))).mono ?_; rintro e w1 ⟨rfl, R3, n3, rfl⟩)
        )
      exact ⟨by repeat (first | with_reducible exact Grew.refl _ | apply Grew.more | apply Grew.alloc | apply Grew.drew | apply Grew.drewN), rfl, _, _, rfl, rfl, rfl⟩
    iterate 3
      apply Seq.val
      focus
        rintro w1 u ⟨R1, n1, rfl⟩ hF
        simp [moreFacts, Fact.more, Oper.deps, Region.binds, List.filter_cons, World.more_drew] at hF
        simp [putFacts, Oper.deps, Region.binds, List.filter_cons, Region.dstOf, Fact.at, Act.put, World.more_drew]
        go_wp2
        exact ⟨by repeat (first | with_reducible exact Grew.refl _ | apply Grew.more | apply Grew.alloc | apply Grew.drew | apply Grew.drewN), rfl, _, _, rfl, rfl, rfl⟩
    apply Seq.val
    focus
      rintro w1 u ⟨R1, n1, rfl⟩ hF
      simp [moreFacts, Fact.more, Oper.deps, Region.binds, List.filter_cons, World.more_drew] at hF
      simp [putFacts, Oper.deps, Region.binds, List.filter_cons, Region.dstOf, Fact.at, Act.put, World.more_drew]
      go_wp2_with (first
        | (go_at_call 73; refine (HPL.out _ (by repeat (first | with_reducible exact Grew.refl _ | apply Grew.more | apply Grew.alloc | apply Grew.drew | apply Grew.drewN))).mono ?_; rintro e w1 ⟨rfl, R4, n4, rfl⟩)
        )
      exact ⟨by repeat (first | with_reducible exact Grew.refl _ | apply Grew.more | apply Grew.alloc | apply Grew.drew | apply Grew.drewN), rfl, _, _, rfl, rfl, rfl⟩
    iterate 2
      apply Seq.val
      focus
        rintro w1 u ⟨R1, n1, rfl⟩ hF
        simp [moreFacts, Fact.more, Oper.deps, Region.binds, List.filter_cons, World.more_drew] at hF
        simp [putFacts, Oper.deps, Region.binds, List.filter_cons, Region.dstOf, Fact.at, Act.put, World.more_drew]
        go_wp2
        exact ⟨by repeat (first | with_reducible exact Grew.refl _ | apply Grew.more | apply Grew.alloc | apply Grew.drew | apply Grew.drewN), rfl, _, _, rfl, rfl, rfl⟩
    rintro u w1 ⟨R1, n1, rfl⟩ hF
    clear hF
    simp [putFacts, Region.dstOf, Fact.at, Act.put, List.range_succ, World.more_drew]
    go_wp2
    go_ret
    exact ⟨by simp [str_cat, Li.sSINK], by repeat (first | with_reducible exact Grew.refl _ | apply Grew.more | apply Grew.alloc | apply Grew.drew | apply Grew.drewN)⟩
  · rw [if_neg (by omega), if_neg (by omega), if_neg (by omega)]
    have h1b : ¬ ((np : Int) = 0) := by omega
    go_enter Tryz.func70, Tryz.ntmps70
    go_wp2_with (first
      | (go_at_call 69; refine (HF.out _ (by repeat (first | with_reducible exact Grew.refl _ | apply Grew.more | apply Grew.alloc | apply Grew.drew | apply Grew.drewN))).mono ?_; rintro e w1 ⟨rfl, R1, n1, rfl⟩)
      | (go_at_call 44; refine (HI.out _ (by repeat (first | with_reducible exact Grew.refl _ | apply Grew.more | apply Grew.alloc | apply Grew.drew | apply Grew.drewN))).mono ?_; rintro e w1 ⟨rfl, R2, n2, rfl⟩))
    go_ret
    exact ⟨rfl, by repeat (first | with_reducible exact Grew.refl _ | apply Grew.more | apply Grew.alloc | apply Grew.drew | apply Grew.drewN)⟩
  · rw [if_neg (by omega), if_neg (by omega), if_neg (by omega)]
    go_enter Tryz.func70, Tryz.ntmps70
    go_wp2_with (first
      | (go_at_call 69; refine (HF.out _ (by repeat (first | with_reducible exact Grew.refl _ | apply Grew.more | apply Grew.alloc | apply Grew.drew | apply Grew.drewN))).mono ?_; rintro e w1 ⟨rfl, R1, n1, rfl⟩)
      | (go_at_call 44; refine (HI.out _ (by repeat (first | with_reducible exact Grew.refl _ | apply Grew.more | apply Grew.alloc | apply Grew.drew | apply Grew.drewN))).mono ?_; rintro e w1 ⟨rfl, R2, n2, rfl⟩))
    go_ret
    exact ⟨rfl, by repeat (first | with_reducible exact Grew.refl _ | apply Grew.more | apply Grew.alloc | apply Grew.drew | apply Grew.drewN)⟩
end Go.Proofs.YtlgbipfpnfphjaaGreatDoor
