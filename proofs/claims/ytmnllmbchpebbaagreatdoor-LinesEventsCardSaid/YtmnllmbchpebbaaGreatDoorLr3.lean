import Derived.Test.YtmnllmbchpebbaaGreatDoorGe20
import Derived.Test.YtmnllmbchpebbaaGreatDoorGe27
import Derived.Test.YtmnllmbchpebbaaGreatDoorGe39
/-! forebayref27.Plan. -/
namespace Go.Proofs.YtmnllmbchpebbaaGreatDoor
set_option linter.unusedSimpArgs false
set_option linter.unusedVariables false
open Go.RowKit Ga
set_option maxRecDepth 100000

set_option maxHeartbeats 4000000 in
theorem clean13_0 (kind id kd par r0 r1 r2 r3 r4 r5 r6 r7 : Int) (af ap : Option Addr) (nf cf np cp : Nat) (reset : Bool) (w : World) (h1 : kind ≠ 1) (h2 : kind ≠ 2) (h4 : kind ≠ 4) (h5 : kind ≠ 5) : Calls Tryz.prog 47 #[.agg #[.int .i64 kind, .int .i64 id, .int .i64 kd, .slice af nf cf, .slice ap np cp, .int .i64 par, .int .i64 r0, .int .i64 r1, .int .i64 r2, .int .i64 r3, .int .i64 r4, .int .i64 r5, .int .i64 r6, .int .i64 r7, .bool reset]] w (Gives (.agg #[.int .i64 kind, .int .i64 id, .int .i64 0, .slice none 0 0, .slice none 0 0, .int .i64 0, .int .i64 0, .int .i64 0, .int .i64 0, .int .i64 0, .int .i64 0, .int .i64 0, .int .i64 0, .int .i64 0, .bool false]) w) := by
  go_enter Tryz.func47, Tryz.ntmps47
  go_wp2
  refine bodyPost_ret (res_clean13 rfl ?_) rfl ⟨rfl, ?_⟩
  · exact heap_alloc' (heap_new_at (w.alloc _) _ _ (by simp [World.size_alloc])) _
  · repeat (first | with_reducible exact Grew.refl _ | apply Grew.more | apply Grew.alloc | apply Grew.drew | apply Grew.drewN)
theorem clean_same {y : Gr.Stp} (hk : 1 ≤ y.kind ∧ y.kind ≤ 5) (h1 : (Gr.cleanS y).reset = y.reset) (h2 : eqNd (Gr.cleanS y).nd y.nd = true) : Gr.cleanS y = y := by
  have h3 := eqNd_at h2
  have h4 : (Gr.cleanS y).kind = y.kind := by
    unfold Gr.cleanS
    repeat' split
    all_goals first | (simp only; omega) | omega
  cases hc : Gr.cleanS y
  cases y
  rw [hc] at h1 h3 h4
  simp only at h1 h3 h4
  subst h1 h3 h4
  rfl
/-- what stands ahead of a step -/
def preT (k : Nat) (T : List UInt8) : List UInt8 := if k = 0 then [] else T ++ Li.between
theorem planJ_succ (p : List Gr.Stp) (k : Nat) (h : k < p.length) : Lib.join ((p.take (k + 1)).map Li.stepT) Li.between = preT k (Lib.join ((p.take k).map Li.stepT) Li.between) ++ Li.stepT p[k] := by
  rw [List.take_succ_eq_append_getElem h, List.map_append, List.map_cons, List.map_nil]
  unfold preT
  by_cases hk : k = 0
  · subst hk
    rw [if_pos rfl]
    simp [Lib.join_cons, Lib.joinTail]
  · rw [if_neg hk, join_snoc, List.append_assoc]
    intro e
    have h2 := congrArg List.length e
    rw [List.length_map, List.length_take, List.length_nil] at h2
    omega
theorem planJ_len {p : List Gr.Stp} (h8 : ∀ s ∈ p, s.nd.route.length = 8) (ht : ∀ s ∈ p, Li.Told s) (h6 : p.length ≤ 6) : (Lib.join (p.map Li.stepT) Li.between).length ≤ 8000 := by
  have := join_len (p.map Li.stepT) Li.between 1300 fun x hx => by
    obtain ⟨n, hn2, rfl⟩ := List.mem_map.1 hx
    exact stepT_len (h8 n hn2) (ht n hn2)
  rw [List.length_map] at this
  have e : Li.between.length = 3 := rfl
  rw [e] at this
  have := Nat.mul_le_mul_left (1300 + 3) h6
  omega
/-- what lives from round to round -/
structure Pre27 (v0 : Value) (k : Nat) (T : List UInt8) (a : Act) : Prop where
  fr : a = frame27 fun i => a.tmps.getD i undef
  t0 : a.tmps.getD 0 undef = v0
  t3 : a.tmps.getD 3 undef = str T
  t4 : a.tmps.getD 4 undef = .int .i64 k
set_option maxHeartbeats 64000000 in
theorem plan27_any (v : Value) (p : List Gr.Stp) (w : World) (hv : StepsAt w v p) : Calls Tryz.prog 18 #[v] w (Gives (str (Li.planT p)) w) := by
  have HV := Lib.hid hv
  have H8 := Lib.hid hv.r8
  obtain ⟨a, cap, rfl, hm, -⟩ := hv.openC
  by_cases h16 : 1 ≤ p.length ∧ p.length ≤ 6
  case neg =>
    have hT : Li.planT p = [] := Li.planT_none fun h => h16 ⟨h.1, h.2.1⟩
    rw [hT]
    clear hv hT
    rcases (show (p.length : Int) < 1 ∨ (6 : Int) < p.length by omega) with h | h
    all_goals
      have h2 : (p.length : Int) ≤ 9223372036854775807 := by omega
      go_enter Tryz.func18, Tryz.ntmps18
      go_wp2
      go_ret
      exact ⟨rfl, by repeat (first | with_reducible exact Grew.refl _ | apply Grew.more | apply Grew.alloc | apply Grew.drew | apply Grew.drewN)⟩
  obtain ⟨h1, h6⟩ := h16
  have HL6 := Lib.hid h6
  clear hv
  go_enter Tryz.func18, Tryz.ntmps18
  go_wp2
  clear h6
  refine wp_loop_ghost_k (fun gg a' wr => ∃ k : Nat, k ≤ p.length ∧ p.length - k ≤ gg ∧ Pre27 (.slice a p.length cap) k (Lib.join ((p.take k).map Li.stepT) Li.between) a' ∧ Grew w wr ∧ ∀ s ∈ p.take k, Li.Told s) p.length ?_ ?_
  case refine_1 => exact ⟨0, by omega, by omega, ⟨rfl, rfl, rfl, rfl⟩, by repeat (first | with_reducible exact Grew.refl _ | apply Grew.more | apply Grew.alloc | apply Grew.drew | apply Grew.drewN), by simp⟩
  case refine_2 =>
    rintro gg a1 wa ⟨k, hk, hgg, ⟨hfr, h00, h03, h04⟩, HG0, HT0⟩ J K hJ hK
    have HK : Hid (∀ a' w', (∃ n', n' < gg ∧ ∃ k : Nat, k ≤ p.length ∧ p.length - k ≤ n' ∧ Pre27 (.slice a p.length cap) k (Lib.join ((p.take k).map Li.stepT) Li.between) a' ∧ Grew w w' ∧ ∀ s ∈ p.take k, Li.Told s) → K a' w') := Lib.hid fun a' w' ⟨n', h1, h2⟩ => hK _ _ (Handed.intro n' h1 (hJ _ _ _ h2))
    have HG := Lib.hid HG0
    have HT := Lib.hid HT0
    clear HG0 HT0 hJ hK
    obtain ⟨u, hu⟩ : ∃ u : Nat → Value, u = fun i => a1.tmps.getD i undef := ⟨_, rfl⟩
    rw [← hu] at hfr
    have u0 : u 0 = _ := (congrFun hu 0).trans h00
    have u3 : u 3 = _ := (congrFun hu 3).trans h03
    have u4 : u 4 = _ := (congrFun hu 4).trans h04
    clear hu h00 h03 h04
    subst hfr
    unfold frame27
    rw [u0, u3, u4]
    clear u0 u3 u4
    by_cases hlt : k < p.length
    · obtain ⟨a', cap', e, -, hx⟩ := (HV.out.grew HG.out).openC
      cases e
      obtain ⟨b, off, c, rfl, hb, hs, g0, g1, g2, g3, g4, g5, g6, g7, g8, g9, g10, g11, g12, g13, g14⟩ := hx k hlt
      have HJ := Lib.hid (planJ_succ p k hlt)
      have hmem := List.getElem_mem hlt
      have h8 := H8.out _ hmem
      have HTK := Lib.hid fun (q : Li.Told p[k]) => (by
        rw [List.take_succ_eq_append_getElem hlt]
        intro s hs
        rcases List.mem_append.1 hs with h | h
        · exact HT.out s h
        · rw [List.mem_singleton] at h; subst h; exact q : ∀ s ∈ p.take (k + 1), Li.Told s)
      have HNO := Lib.hid fun (q : ¬ Li.Told p[k]) => Li.planT_none (p := p) fun h => q (h.2.2 _ hmem)
      have hTl := planJ_len (p := p.take k) (fun s hs => H8.out s (List.mem_of_mem_take hs)) HT.out (by have := HL6.out; rw [List.length_take]; omega)
      clear hx hmem
      have HT0 : Hid (k = 0 → Lib.join ((p.take k).map Li.stepT) Li.between = []) := Lib.hid (by rintro rfl; rfl)
      generalize p[k] = y at *
      generalize Lib.join ((p.take k).map Li.stepT) Li.between = T at *
      have hkd := hs.kind
      have hrs := hs.reset
      have HF := Lib.hid fun W (q : Grew wa W) => right27_any c.c y.nd W (hs.nd.grew q)
      obtain ⟨d, hdk, HC0⟩ : ∃ d : StC, (1 ≤ c.kind ∧ c.kind ≤ 5 → d = cleanC c) ∧ ∀ W, Calls Tryz.prog 47 #[.agg #[.int .i64 c.kind, .int .i64 c.c.id, .int .i64 c.c.kind, .slice c.c.af c.c.nf c.c.cf, .slice c.c.ap c.c.np c.c.cp, .int .i64 c.c.par, .int .i64 c.c.r0, .int .i64 c.c.r1, .int .i64 c.c.r2, .int .i64 c.c.r3, .int .i64 c.c.r4, .int .i64 c.c.r5, .int .i64 c.c.r6, .int .i64 c.c.r7, .bool c.reset]] W (Gives (.agg #[.int .i64 d.kind, .int .i64 d.c.id, .int .i64 d.c.kind, .slice d.c.af d.c.nf d.c.cf, .slice d.c.ap d.c.np d.c.cp, .int .i64 d.c.par, .int .i64 d.c.r0, .int .i64 d.c.r1, .int .i64 d.c.r2, .int .i64 d.c.r3, .int .i64 d.c.r4, .int .i64 d.c.r5, .int .i64 d.c.r6, .int .i64 d.c.r7, .bool d.reset]) W) := by
        by_cases hk : 1 ≤ c.kind ∧ c.kind ≤ 5
        · exact ⟨cleanC c, fun _ => rfl, fun W => clean13_any c W hk⟩
        · exact ⟨⟨c.kind, zeroNd c.c.id, false⟩, fun h => absurd h hk, fun W => clean13_0 c.kind c.c.id c.c.kind c.c.par c.c.r0 c.c.r1 c.c.r2 c.c.r3 c.c.r4 c.c.r5 c.c.r6 c.c.r7 c.c.af c.c.ap c.c.nf c.c.cf c.c.np c.c.cp c.reset W (by omega) (by omega) (by omega) (by omega)⟩
      have HC := Lib.hid HC0
      clear HC0
      have hEd : 1 ≤ c.kind ∧ c.kind ≤ 5 → d.reset = (Gr.cleanS y).reset ∧ ∀ W, Grew wa W → Calls Tryz.prog 49 #[.agg #[.int .i64 d.c.id, .int .i64 d.c.kind, .slice d.c.af d.c.nf d.c.cf, .slice d.c.ap d.c.np d.c.cp, .int .i64 d.c.par, .int .i64 d.c.r0, .int .i64 d.c.r1, .int .i64 d.c.r2, .int .i64 d.c.r3, .int .i64 d.c.r4, .int .i64 d.c.r5, .int .i64 d.c.r6, .int .i64 d.c.r7], .agg #[.int .i64 c.c.id, .int .i64 c.c.kind, .slice c.c.af c.c.nf c.c.cf, .slice c.c.ap c.c.np c.c.cp, .int .i64 c.c.par, .int .i64 c.c.r0, .int .i64 c.c.r1, .int .i64 c.c.r2, .int .i64 c.c.r3, .int .i64 c.c.r4, .int .i64 c.c.r5, .int .i64 c.c.r6, .int .i64 c.c.r7]] W (Gives (.bool (eqNd (Gr.cleanS y).nd y.nd)) W) := fun hk => by
        have hcl := hs.clean
        rw [hdk hk]
        exact ⟨hcl.reset.symm, fun W q => refNode08_any (cleanC c).c c.c (Gr.cleanS y).nd y.nd W (hcl.nd.grew q) (hs.nd.grew q)⟩
      obtain ⟨qf, hqf⟩ : ∃ q, Li.fitsN y.nd = q := ⟨_, rfl⟩
      obtain ⟨qe, hqe⟩ : ∃ q, eqNd (Gr.cleanS y).nd y.nd = q := ⟨_, rfl⟩
      rw [hqf] at HF
      rw [hqe] at hEd
      have hkd2 : (1 ≤ y.kind ∧ y.kind ≤ 5) ↔ (1 ≤ c.kind ∧ c.kind ≤ 5) := by rw [hkd]
      by_cases hok : (1 ≤ c.kind ∧ c.kind ≤ 5) ∧ qf = true ∧ d.reset = c.reset ∧ qe = true
      case neg =>
        have hnt : ¬ Li.Told y := fun h => hok ⟨hkd2.1 h.1, by rw [← hqf]; exact h.2.1, by rw [(hEd (hkd2.1 h.1)).1, h.2.2.2]; exact hrs, by rw [← hqe, h.2.2.2]; exact eqNd_true rfl⟩
        have HN0 := Lib.hid (HNO.out hnt)
        have HED := Lib.hid hEd
        have HOK := Lib.hid hok
        clear hs hkd hrs HNO HTK HJ hnt hkd2 hqf hqe hEd hok hdk
        obtain ⟨kind, ⟨id, kd, af, nf, cf, ap, np, cp, par, r0, r1, r2, r3, r4, r5, r6, r7⟩, reset⟩ := c
        obtain ⟨dkind, ⟨did, dkd, daf, dnf, dcf, dap, dnp, dcp, dpar, d0, d1, d2, d3, d4, d5, d6, d7⟩, dreset⟩ := d
        simp only at *
        go_upto_if 20 with fail
        iterate 6 go_step
        refine pl_no wa _ _ b off k p.length cap (qf := qf) (qe := qe) rfl rfl rfl hlt HL6.out hb g0 g1 g2 g3 g4 g5 g6 g7 g8 g9 g10 g11 g12 g13 g14 HC.out HF.out (fun h => (HED.out h).2) HOK.out fun a' w' h2 hd hg => ?_
        obtain ⟨R5, n5, rfl⟩ := hg
        exact bodyPost_ret (v := .string ⟨#[]⟩) ((results_tmp rfl _ _ _).trans (by rw [h2])) hd ⟨by rw [HN0.out], HG.out.trans (by repeat (first | with_reducible exact Grew.refl _ | apply Grew.more | apply Grew.alloc | apply Grew.drew | apply Grew.drewN))⟩
      obtain ⟨k1c, rfl, hr, rfl⟩ := hok
      have k1 := hkd2.2 k1c
      have hf := hqf
      have hq := hqe
      obtain ⟨hr2, hE2⟩ := hEd k1c
      have HE := Lib.hid hE2
      have hcr : (Gr.cleanS y).reset = y.reset := by rw [← hr2, hr]; exact hrs.symm
      clear hEd hE2 hkd2 hqf hqe hr2 hdk
      have hcs := clean_same k1 hcr hq
      have hN := fitN hf
      have hid := hN.id
      rw [hs.nd.id] at hid
      have hrt := hN.rt
      rw [hs.nd.route] at hrt
      have hpar := hN.par
      rw [hs.nd.par] at hpar
      have HD := Lib.hid fun W => digitsG_any c.c.id (num_range hid) W
      have HN := Lib.hid fun W (q : Grew wa W) => node27_any c.c y.nd W (hs.nd.grew q)
      have HPL := Lib.hid fun W => place27_any c.c.id c.c.kind c.c.par c.c.r0 c.c.r1 c.c.r2 c.c.r3 c.c.r4 c.c.r5 c.c.r6 c.c.r7 c.c.af c.c.ap c.c.nf c.c.cf c.c.np c.c.cp W hpar hrt
      have HL := Lib.hid fun W (q : Grew wa W) => list27_any c.c.vf y.nd.frm W (hs.nd.f.grew q) hN.frm hN.l60
      have HX := Lib.hid fun W (q : Grew wa W) => codeRefText_any c.c.vp y.nd.prog W (hs.nd.p.grew q) hN.pr
      have l1 := Li.itoa_len8 hid
      have l2 := listT_len hN.frm hN.l60
      have l3 := textI_len400 hN.pr
      have l4 : (Lib.itoa c.c.par ++ 32 :: Li.rtx [c.c.r0, c.c.r1, c.c.r2, c.c.r3, c.c.r4, c.c.r5, c.c.r6, c.c.r7]).length ≤ 20 := by
        have := Li.itoa_len8 hpar
        have := rtx_len8 c.c.r0 c.c.r1 c.c.r2 c.c.r3 c.c.r4 c.c.r5 c.c.r6 c.c.r7
        simp only [List.length_append, List.length_cons]
        omega
      have l5 := nodeT_len y.nd h8
      have hPT : Li.placeT y.nd = Lib.itoa c.c.par ++ 32 :: Li.rtx [c.c.r0, c.c.r1, c.c.r2, c.c.r3, c.c.r4, c.c.r5, c.c.r6, c.c.r7] := by
        unfold Li.placeT
        rw [hs.nd.par, hs.nd.route]
      have hST : Li.stepT y = if c.kind = 1 then Li.sSWAP ++ 32 :: (Lib.itoa c.c.id ++ 32 :: ((if c.reset = true then Li.sRESET else Li.sKEEP) ++ (Li.behind ++ Co.textI y.nd.prog)))
          else if c.kind = 2 then Li.sADD ++ 32 :: Li.nodeT y.nd
          else if c.kind = 3 then Li.sREMOVE ++ 32 :: Lib.itoa c.c.id
          else if c.kind = 4 then Li.sROUTE ++ 32 :: (Lib.itoa c.c.id ++ 32 :: Li.placeT y.nd)
          else Li.sLINK ++ 32 :: (Lib.itoa c.c.id ++ 32 :: Li.listT y.nd.frm) := by
        unfold Li.stepT
        rw [hkd, hrs, hs.nd.id]
      rw [hPT] at hST
      have HTO : Hid (¬ (c.kind = 2 ∧ Li.nodeT y.nd = []) → Li.Told y) := Lib.hid fun h => ⟨k1, hf, fun q1 q2 => h ⟨by rw [← hkd]; exact q1, q2⟩, hcs⟩
      have HNT : Hid (c.kind = 2 → Li.nodeT y.nd = [] → ¬ Li.Told y) := Lib.hid fun h1 h2 h3 => h3.2.2.1 (by rw [hkd]; exact h1) h2
      have hTp : (preT k T).length ≤ 8003 := by
        unfold preT
        split
        · simp
        · rw [List.length_append]; have e : Li.between.length = 3 := rfl; omega
      have HPR : Hid (k = 0 → preT k T = []) := Lib.hid fun h => by unfold preT; exact if_pos h
      have HPS : Hid (0 < k → preT k T = T ++ Li.between) := Lib.hid fun h => by unfold preT; exact if_neg (by omega)
      have HST := Lib.hid hST
      clear hs hkd hrs hcr k1 hf hq hcs hN hid hrt hpar hST hPT h8
      generalize Li.stepT y = yt at *
      obtain ⟨kind, ⟨id, kd, af, nf, cf, ap, np, cp, par, r0, r1, r2, r3, r4, r5, r6, r7⟩, reset⟩ := c
      obtain ⟨dkind, ⟨did, dkd, daf, dnf, dcf, dap, dnp, dcp, dpar, d0, d1, d2, d3, d4, d5, d6, d7⟩, dreset⟩ := d
      simp only at *
      subst hr
      generalize Lib.itoa id = it at *
      generalize Li.listT y.nd.frm = lt at *
      generalize Co.textI y.nd.prog = ct at *
      generalize Li.nodeT y.nd = nt at *
      generalize Lib.itoa par ++ 32 :: Li.rtx [r0, r1, r2, r3, r4, r5, r6, r7] = pt at *
      generalize preT k T = pre at *
      clear HT
      obtain ⟨k2, k3⟩ := k1c
      go_upto_if 20 with fail
      iterate 6 go_step
      refine pl_yes wa _ _ b off k p.length cap T pre (af := af) (ap := ap) (nf := nf) (cf := cf) (np := np) (cp := cp) (id := id) (kd := kd) rfl rfl rfl rfl hlt HL6.out hb g0 g1 g2 g3 g4 g5 g6 g7 g8 g9 g10 g11 g12 g13 g14 HC.out HF.out HE.out k2 k3 hTl HPR.out HPS.out HT0.out fun a1 w1 ha1 h10 h13 h14 h15 h16 q5 q6 hg1 => ?_
      obtain ⟨R9, n9, rfl⟩ := hg1
      clear g0 g1 g2 g3 g4 g5 g6 g7 g8 g9 g10 g11 g12 g13 g14
      clear HPR HPS HT0 HE HF HC
      rcases (show kind = 1 ∨ kind = 2 ∨ kind = 3 ∨ kind = 4 ∨ kind = 5 by omega) with rfl | rfl | rfl | rfl | rfl
      · have HTY := Lib.hid (HTO.out fun h => absurd h.1 (by decide))
        have hY := HST.out
        rw [if_pos rfl] at hY
        have HY := Lib.hid hY
        clear hY
        refine pl_k1 _ _ a1 _ _ _ _ pre it ct (af := af) (ap := ap) (nf := nf) (cf := cf) (np := np) (cp := cp) (id := id) (kd := kd) ha1 h10 h13 h14 h15 h16 q5 q6 HD.out (fun W q => HX.out W (Grew.trans (by repeat (first | with_reducible exact Grew.refl _ | apply Grew.more | apply Grew.alloc | apply Grew.drew | apply Grew.drewN)) q)) hTp l1 l3 ?_
        · intro a' w' hf h0 h3 h4 hg
          obtain ⟨R5, n5, rfl⟩ := hg
          obtain ⟨u, hu⟩ : ∃ u : Nat → Value, (fun i => a'.tmps.getD i undef) = u := ⟨_, rfl⟩
          have e0 := (congrFun hu 0).symm.trans h0
          have e3 := (congrFun hu 3).symm.trans h3
          have e4 := (congrFun hu 4).symm.trans h4
          rw [hu] at hf
          clear h0 h3 h4 hu
          subst hf
          generalize (if dreset = true then Li.sRESET else Li.sKEEP) = rk at *
          simp only [Exit.inBlock, Exit.then]
          unfold frame27
          rw [e0, e3, e4]
          clear e0 e3 e4
          go_wp2_with fail
          refine HK.out _ _ ⟨p.length - (k + 1), by omega, k + 1, hlt, Nat.le_refl _, ⟨rfl, rfl, ?_, ?_⟩, HG.out.trans (by repeat (first | with_reducible exact Grew.refl _ | apply Grew.more | apply Grew.alloc | apply Grew.drew | apply Grew.drewN)), HTK.out HTY.out⟩
          · rw [HJ.out, HY.out]; rfl
          · go_num
      · by_cases hn0 : nt = []
        · subst hn0
          have HN0 := Lib.hid (HNO.out (HNT.out rfl rfl))
          refine pl_k2n _ _ a1 _ _ undef undef pre it (af := af) (ap := ap) (nf := nf) (cf := cf) (np := np) (cp := cp) (id := id) (kd := kd) ha1 h13 h15 h16 q5 q6 HD.out (fun W q => HN.out W (Grew.trans (by repeat (first | with_reducible exact Grew.refl _ | apply Grew.more | apply Grew.alloc | apply Grew.drew | apply Grew.drewN)) q)) hTp l1 fun a' w' h2 hd hg => ?_
          obtain ⟨R5, n5, rfl⟩ := hg
          refine bodyPost_ret (v := .string ⟨#[]⟩) ((results_tmp rfl _ _ _).trans (by rw [h2])) hd ⟨by rw [HN0.out], HG.out.trans (by repeat (first | with_reducible exact Grew.refl _ | apply Grew.more | apply Grew.alloc | apply Grew.drew | apply Grew.drewN))⟩
        · have HTY := Lib.hid (HTO.out fun h => hn0 h.2)
          have hY := HST.out
          rw [if_neg (by decide), if_pos rfl] at hY
          have HY := Lib.hid hY
          clear hY
          refine pl_k2 _ _ a1 _ _ _ _ pre it nt (af := af) (ap := ap) (nf := nf) (cf := cf) (np := np) (cp := cp) (id := id) (kd := kd) ha1 h10 h13 h14 h15 h16 q5 q6 HD.out (fun W q => HN.out W (Grew.trans (by repeat (first | with_reducible exact Grew.refl _ | apply Grew.more | apply Grew.alloc | apply Grew.drew | apply Grew.drewN)) q)) hTp l1 l5 hn0 ?_
          · intro a' w' hf h0 h3 h4 hg
            obtain ⟨R5, n5, rfl⟩ := hg
            obtain ⟨u, hu⟩ : ∃ u : Nat → Value, (fun i => a'.tmps.getD i undef) = u := ⟨_, rfl⟩
            have e0 := (congrFun hu 0).symm.trans h0
            have e3 := (congrFun hu 3).symm.trans h3
            have e4 := (congrFun hu 4).symm.trans h4
            rw [hu] at hf
            clear h0 h3 h4 hu
            subst hf
            simp only [Exit.inBlock, Exit.then]
            unfold frame27
            rw [e0, e3, e4]
            clear e0 e3 e4
            go_wp2_with fail
            refine HK.out _ _ ⟨p.length - (k + 1), by omega, k + 1, hlt, Nat.le_refl _, ⟨rfl, rfl, ?_, ?_⟩, HG.out.trans (by repeat (first | with_reducible exact Grew.refl _ | apply Grew.more | apply Grew.alloc | apply Grew.drew | apply Grew.drewN)), HTK.out HTY.out⟩
            · rw [HJ.out, HY.out]; rfl
            · go_num
      · have HTY := Lib.hid (HTO.out fun h => absurd h.1 (by decide))
        have hY := HST.out
        rw [if_neg (by decide), if_neg (by decide), if_pos rfl] at hY
        have HY := Lib.hid hY
        clear hY
        refine pl_k3 _ _ a1 _ _ _ _ pre it (af := af) (ap := ap) (nf := nf) (cf := cf) (np := np) (cp := cp) (id := id) (kd := kd) ha1 h10 h13 h14 h15 h16 q5 q6 HD.out hTp l1 ?_
        · intro a' w' hf h0 h3 h4 hg
          obtain ⟨R5, n5, rfl⟩ := hg
          obtain ⟨u, hu⟩ : ∃ u : Nat → Value, (fun i => a'.tmps.getD i undef) = u := ⟨_, rfl⟩
          have e0 := (congrFun hu 0).symm.trans h0
          have e3 := (congrFun hu 3).symm.trans h3
          have e4 := (congrFun hu 4).symm.trans h4
          rw [hu] at hf
          clear h0 h3 h4 hu
          subst hf
          simp only [Exit.inBlock, Exit.then]
          unfold frame27
          rw [e0, e3, e4]
          clear e0 e3 e4
          go_wp2_with fail
          refine HK.out _ _ ⟨p.length - (k + 1), by omega, k + 1, hlt, Nat.le_refl _, ⟨rfl, rfl, ?_, ?_⟩, HG.out.trans (by repeat (first | with_reducible exact Grew.refl _ | apply Grew.more | apply Grew.alloc | apply Grew.drew | apply Grew.drewN)), HTK.out HTY.out⟩
          · rw [HJ.out, HY.out]; rfl
          · go_num
      · have HTY := Lib.hid (HTO.out fun h => absurd h.1 (by decide))
        have hY := HST.out
        rw [if_neg (by decide), if_neg (by decide), if_neg (by decide), if_pos rfl] at hY
        have HY := Lib.hid hY
        clear hY
        refine pl_k4 _ _ a1 _ _ _ _ pre it pt (af := af) (ap := ap) (nf := nf) (cf := cf) (np := np) (cp := cp) (id := id) (kd := kd) ha1 h10 h13 h14 h15 h16 q5 q6 HD.out HPL.out hTp l1 l4 ?_
        · intro a' w' hf h0 h3 h4 hg
          obtain ⟨R5, n5, rfl⟩ := hg
          obtain ⟨u, hu⟩ : ∃ u : Nat → Value, (fun i => a'.tmps.getD i undef) = u := ⟨_, rfl⟩
          have e0 := (congrFun hu 0).symm.trans h0
          have e3 := (congrFun hu 3).symm.trans h3
          have e4 := (congrFun hu 4).symm.trans h4
          rw [hu] at hf
          clear h0 h3 h4 hu
          subst hf
          simp only [Exit.inBlock, Exit.then]
          unfold frame27
          rw [e0, e3, e4]
          clear e0 e3 e4
          go_wp2_with fail
          refine HK.out _ _ ⟨p.length - (k + 1), by omega, k + 1, hlt, Nat.le_refl _, ⟨rfl, rfl, ?_, ?_⟩, HG.out.trans (by repeat (first | with_reducible exact Grew.refl _ | apply Grew.more | apply Grew.alloc | apply Grew.drew | apply Grew.drewN)), HTK.out HTY.out⟩
          · rw [HJ.out, HY.out]; rfl
          · go_num
      · have HTY := Lib.hid (HTO.out fun h => absurd h.1 (by decide))
        have hY := HST.out
        rw [if_neg (by decide), if_neg (by decide), if_neg (by decide), if_neg (by decide)] at hY
        have HY := Lib.hid hY
        clear hY
        refine pl_k5 _ _ a1 _ _ _ _ pre it lt (af := af) (ap := ap) (nf := nf) (cf := cf) (np := np) (cp := cp) (id := id) (kd := kd) ha1 h10 h13 h14 h15 h16 q5 q6 HD.out (fun W q => HL.out W (Grew.trans (by repeat (first | with_reducible exact Grew.refl _ | apply Grew.more | apply Grew.alloc | apply Grew.drew | apply Grew.drewN)) q)) hTp l1 l2 ?_
        · intro a' w' hf h0 h3 h4 hg
          obtain ⟨R5, n5, rfl⟩ := hg
          obtain ⟨u, hu⟩ : ∃ u : Nat → Value, (fun i => a'.tmps.getD i undef) = u := ⟨_, rfl⟩
          have e0 := (congrFun hu 0).symm.trans h0
          have e3 := (congrFun hu 3).symm.trans h3
          have e4 := (congrFun hu 4).symm.trans h4
          rw [hu] at hf
          clear h0 h3 h4 hu
          subst hf
          simp only [Exit.inBlock, Exit.then]
          unfold frame27
          rw [e0, e3, e4]
          clear e0 e3 e4
          go_wp2_with fail
          refine HK.out _ _ ⟨p.length - (k + 1), by omega, k + 1, hlt, Nat.le_refl _, ⟨rfl, rfl, ?_, ?_⟩, HG.out.trans (by repeat (first | with_reducible exact Grew.refl _ | apply Grew.more | apply Grew.alloc | apply Grew.drew | apply Grew.drewN)), HTK.out HTY.out⟩
          · rw [HJ.out, HY.out]; rfl
          · go_num
    · obtain rfl : k = p.length := by omega
      have ht := HT.out
      rw [List.take_length] at ht
      have HTT : Hid (Li.planT p = Lib.join (p.map Li.stepT) Li.between) := Lib.hid (Li.planT_some ⟨h1, HL6.out, ht⟩)
      rw [List.take_length]
      clear ht HT
      generalize Lib.join (p.map Li.stepT) Li.between = T at *
      go_wp2
      go_ret
      exact ⟨by rw [HTT.out]; rfl, HG.out.trans (by repeat (first | with_reducible exact Grew.refl _ | apply Grew.more | apply Grew.alloc | apply Grew.drew | apply Grew.drewN))⟩
end Go.Proofs.YtmnllmbchpebbaaGreatDoor
