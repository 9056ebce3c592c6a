import Derived.Test.YtipgfjihdglocaaGreatLawQueue
/-! CoordQueue: the walk. the two loops. -/
namespace Go.Proofs.YtipgfjihdglocaaGreat
set_option linter.unusedSimpArgs false
set_option linter.unusedVariables false
open Go.RowKit Ga
set_option maxRecDepth 100000

set_option maxHeartbeats 64000000 in
theorem coordQueue_go (v vp vb : Value) (g : List Gr.Nd) (l : List (List Gr.Stp)) (bs : List Bool) (w : World) (hv : NodesAt w v g) (hp : PlansAt w vp l) (hgf : greatG g = false) (h20 : l.length ≤ 20) (hf : FlagsAt w vb bs) (hnt : bs.length ≤ 20) (hr : Gr.RightR g) : Calls Tryz.prog 3 #[v, vp, vb] w (Gives (.bool true) w) := by
  have hgp : greatP [] = false := rfl
  have HGT := Lib.hid fun W (q : Grew w W) => great10_any v (.slice none 0 0) g [] W (hv.grew q) (StepsAt.nil W)
  rw [hgp, Bool.or_false, hgf] at HGT
  have hsm := (great_small hgf).1
  have HCK := Lib.hid fun W (q : Grew w W) => check_graph _ g W (hv.grew q) hsm
  rw [checkR_nil hr] at HCK
  have h8 := nodes_route hv
  have hln := first_len hr h8
  have HCO := Lib.hid fun W x (hd : DiskAt W x [] (.slice none 0 0) [] 1048576) (hg : Grew w W) (hx : w.heap.size ≤ x) => coOpen_und (v := v) hd (fun W' _ q => hv.grew q) hsm hr h8 hg hx (by decide) (by omega)
  obtain ⟨kk, hkk⟩ : ∃ kk, (Gr.putM putI (firstM g)).length + 8 = kk := ⟨_, rfl⟩
  have HKK : Hid (kk ≤ 4008) := Lib.hid (by omega)
  rw [hkk] at HCO
  have HV := Lib.hid hv
  have HP := Lib.hid hp
  have HSM := Lib.hid hsm
  have HRR := Lib.hid hr
  have H20 := Lib.hid h20
  obtain ⟨av, cv, rfl, hnv, -⟩ := hv.openC
  obtain ⟨ap, cp, rfl, hnp, -⟩ := hp.at
  have h20' : ¬ (20 : Int) < l.length := by omega
  have HF := Lib.hid hf
  obtain ⟨af, cf, rfl, hnf, -⟩ := flags_open hf
  have ht' : ¬ (20 : Int) < bs.length := by omega
  clear hf
  clear hp hv hgp hsm h8 hln hr h20 hgf hkk
  go_enter Tryz.func3, Tryz.ntmps3
  go_wp2_with (first
    | (go_at_call 5; refine (awake23_any _).mono ?_; rintro e w1 ⟨rfl, R1, n1, rfl⟩)
    | (go_at_call 6; refine (HGT.out _ (by repeat (first | with_reducible exact Grew.refl _ | apply Grew.more | apply Grew.alloc | apply Grew.drew | apply Grew.drewN))).mono ?_; rintro e w1 ⟨rfl, R2, n2, rfl⟩)
    | (go_at_call 7; refine (HCK.out _ (by repeat (first | with_reducible exact Grew.refl _ | apply Grew.more | apply Grew.alloc | apply Grew.drew | apply Grew.drewN))).mono ?_; rintro e w1 ⟨rfl, R3, n3, rfl⟩)
    | (go_at_call 9; refine (diskNew_any 1048576 _ (by decide)).mono ?_; rintro e w1 ⟨x, rfl, hx, hd, R4, n4, rfl⟩; (have hx2 := Nat.le_trans (Grew.below (by repeat (first | with_reducible exact Grew.refl _ | apply Grew.more | apply Grew.alloc | apply Grew.drew | apply Grew.drewN) : Grew w _)).size hx); (have HX := Lib.hid hx2); (have HD := Lib.hid hd); clear hx hx2 hd)
    | (go_at_call 8; refine (HCO.out _ x (HD.out.grew (by repeat (first | with_reducible exact Grew.refl _ | apply Grew.more | apply Grew.alloc | apply Grew.drew | apply Grew.drewN))) (by repeat (first | with_reducible exact Grew.refl _ | apply Grew.more | apply Grew.alloc | apply Grew.drew | apply Grew.drewN)) HX.out).mono ?_; rintro e w3 ⟨z, bk, lg, mp, rfl, hc, hu⟩; (have HC := Lib.hid hc); (have HU := Lib.hid hu); clear hc hu))
  go_loopg [9, 10, 59] l.length (fun gg s9 s10 s59 wr => ∃ (k : Nat) (ps : List (List Gr.Stp)) (A : List Gr.Nd), (k ≤ l.length ∧ ps.length ≤ 4) ∧ l.length - k ≤ gg ∧ s10 = .int .i64 ps.length ∧ s59 = .int .i64 k ∧ Hid (Sub w wr z bk lg x mp kk g s9 ps A))
  case atStart =>
    exact ⟨0, [], g, ⟨by omega, by simp⟩, by omega, rfl, rfl, Lib.hid ⟨HC.out.grew (by repeat (first | with_reducible exact Grew.refl _ | apply Grew.more | apply Grew.alloc | apply Grew.drew | apply Grew.drewN)), HU.out.grew (by repeat (first | with_reducible exact Grew.refl _ | apply Grew.more | apply Grew.alloc | apply Grew.drew | apply Grew.drewN)), Gr.Waits.nil _, (fun p h => by cases h), Gr.normG_perm HRR.out.ids HRR.out.r7, .inl HV.out, HSM.out⟩⟩
  case round =>
    obtain ⟨k, ps, A, ⟨hk, hps⟩, hgg, rfl, rfl, HL⟩ := hrel
    rename World => wa
    by_cases hlt : k < l.length
    · obtain ⟨a', c', e, -, hx⟩ := HP.out.at
      cases e
      obtain ⟨b, off, rfl, hb, ⟨pa, pn, pc⟩, hst, hc⟩ := hx k hlt
      simp only [SlC.v] at hst hc
      have hg0 := HL.out.co.g
      have hcw := cell_grew hc hg0
      have hbw := Pre.ofCell hcw
      have hk2 : (k : Int) < l.length := by omega
      have HST := Lib.hid hst
      have HG8 := Lib.hid fun W' (gr : Grew w W') => great10_any (.slice none 0 0) _ [] l[k] W' (NodesAt.nil W') (hst.grew gr)
      rw [show greatG [] = false from rfl, Bool.false_or] at HG8
      have HPL := Lib.hid fun (hsm : ∀ s ∈ l[k], s.nd.frm.length ≤ 100 ∧ s.nd.prog.length ≤ 1000) W' (gr : Grew w W') => plan16_any _ l[k] W' (hst.grew gr) hsm
      have hpl := planR_len l[k]
      have HSU := Lib.hid fun W' (gr : Grew wa W') => coSubmit_any (planR l[k]).1 (HL.out.co.grew gr) hpl
      have HPS := Lib.hid (sub_math HL.out.pm (p := l[k]))
      have HGP := Lib.hid (greatP_small (p := l[k]))
      have HG0 := Lib.hid hg0
      clear hx hst hc hg0 hpl
      generalize l[k] = p at *
      cases hgp : greatP p
      case true =>
        rw [hgp] at HG8
        clear hgp
        go_wp2_with (go_at_call 6; refine (HG8.out _ (HG0.out.trans (by repeat (first | with_reducible exact Grew.refl _ | apply Grew.more | apply Grew.alloc | apply Grew.drew | apply Grew.drewN)))).mono ?_; rintro e w1 ⟨rfl, R5, n5, rfl⟩)
        go_ret
        exact ⟨rfl, HG0.out.trans (by repeat (first | with_reducible exact Grew.refl _ | apply Grew.more | apply Grew.alloc | apply Grew.drew | apply Grew.drewN))⟩
      case false =>
        have hsm := HGP.out hgp
        rw [hgp] at HG8
        have HPL2 := Lib.hid (HPL.out hsm)
        have HSS : Hid (∀ s ∈ p, smallS s) := Lib.hid fun s hs => ⟨by have := hsm s hs; omega, by have := hsm s hs; omega⟩
        obtain ⟨⟨ts, te⟩, htp⟩ : ∃ r, planR p = r := ⟨_, rfl⟩
        rw [htp] at HPL2 HSU HPS
        simp only at HPL2 HSU HPS
        clear hgp hsm HPL HGP htp
        by_cases hte : te = 0
        case neg =>
          have hne : (te == 0) = false := by rw [beq_eq_false_iff_ne]; exact hte
          clear hte
          go_wp2_with (first
            | (go_at_call 6; refine (HG8.out _ (HG0.out.trans (by repeat (first | with_reducible exact Grew.refl _ | apply Grew.more | apply Grew.alloc | apply Grew.drew | apply Grew.drewN)))).mono ?_; rintro e w1 ⟨rfl, R5, n5, rfl⟩)
            | (go_at_call 10; refine (HPL2.out _ (HG0.out.trans (by repeat (first | with_reducible exact Grew.refl _ | apply Grew.more | apply Grew.alloc | apply Grew.drew | apply Grew.drewN)))).mono ?_; rintro e w1 ⟨rfl, R6, n6, rfl⟩))
          go_roundg (l.length - (k + 1))
          case measure => omega
          case rel => exact ⟨k + 1, ps, A, ⟨by omega, hps⟩, by omega, rfl, by go_num, Lib.hid (HL.out.grew (by repeat (first | with_reducible exact Grew.refl _ | apply Grew.more | apply Grew.alloc | apply Grew.drew | apply Grew.drewN)))⟩
        case pos =>
          subst hte
          obtain ⟨hs1, hs2, hs3, hs4⟩ := HPS.out rfl
          rw [hs1, hs2] at HSU
          have HAP := Lib.hid fun W' (gr : Grew wa W') => planApply_any _ _ A p W' ((HL.out.nd.grew gr).at (HG0.out.trans gr)) HL.out.sm (HST.out.grew (HG0.out.trans gr)) HSS.out
          obtain ⟨⟨er, ix, A2⟩, hap⟩ : ∃ r, Gr.applyE checkR A p = r := ⟨_, rfl⟩
          rw [hap] at HAP HSU hs4
          simp only at HSU hs4
          have HOK : Hid (∀ q ∈ ps ++ [clP p], PlanOk q ∧ q ≠ []) := Lib.hid fun q hq => (List.mem_append.1 hq).elim (HL.out.ok q) fun h => List.mem_singleton.1 h ▸ hs3
          have HS4 := Lib.hid hs4
          have hpi : (ps.length : Int) ≤ 4 := by omega
          clear hs1 hs2 hs3 hs4 hap HPS
          by_cases h4 : 4 ≤ ps.length
          · have hq4 : ps.length = 4 := by omega
            rw [if_pos h4, if_neg (by decide)] at HSU
            have hb4 : ((ps.length : Int) == 4) = true := by rw [beq_iff_eq]; omega
            clear h4 HOK HS4 hq4
            go_wp2_with (first
              | (go_at_call 6; refine (HG8.out _ (HG0.out.trans (by repeat (first | with_reducible exact Grew.refl _ | apply Grew.more | apply Grew.alloc | apply Grew.drew | apply Grew.drewN)))).mono ?_; rintro e w1 ⟨rfl, R5, n5, rfl⟩)
              | (go_at_call 10; refine (HPL2.out _ (HG0.out.trans (by repeat (first | with_reducible exact Grew.refl _ | apply Grew.more | apply Grew.alloc | apply Grew.drew | apply Grew.drewN)))).mono ?_; rintro e w1 ⟨rfl, R6, n6, rfl⟩)
              | (go_at_call 11; refine (HAP.out _ (by repeat (first | with_reducible exact Grew.refl _ | apply Grew.more | apply Grew.alloc | apply Grew.drew | apply Grew.drewN))).mono ?_; rintro e w2 h9; obtain ⟨⟨R7, n7, rfl⟩, v9, i9, rfl, h9⟩ := h9.one; clear h9)
              | (go_at_call 12; refine (HSU.out _ (by repeat (first | with_reducible exact Grew.refl _ | apply Grew.more | apply Grew.alloc | apply Grew.drew | apply Grew.drewN))).mono ?_; rintro e wS ⟨rfl, hcS, hlS, -⟩; (have HX7 := Lib.hid (HL.out.step (by repeat (first | with_reducible exact Grew.refl _ | apply Grew.more | apply Grew.alloc | apply Grew.drew | apply Grew.drewN)) hlS hcS HL.out.wt HL.out.ok HL.out.pm ((HL.out.nd.grew (by repeat (first | with_reducible exact Grew.refl _ | apply Grew.more | apply Grew.alloc | apply Grew.drew | apply Grew.drewN))).cl hlS.cl (by simp [NoData])) HL.out.sm)); clear hcS hlS))
            go_roundg (l.length - (k + 1))
            case measure => omega
            case rel => exact ⟨k + 1, ps, A, ⟨by omega, hps⟩, by omega, rfl, by go_num, Lib.hid (HX7.out.grew (by repeat (first | with_reducible exact Grew.refl _ | apply Grew.more | apply Grew.alloc | apply Grew.drew | apply Grew.drewN)))⟩
          · rw [if_neg h4] at HSU
            have hb4 : ((ps.length : Int) == 4) = false := by rw [beq_eq_false_iff_ne]; omega
            by_cases h0 : er = 0
            · subst h0
              rw [if_pos rfl] at HSU
              have HS5 := Lib.hid (HS4.out rfl)
              clear HS4
              have HS4 := HS5
              clear HS5
              go_wp2_with (first
              | (go_at_call 6; refine (HG8.out _ (HG0.out.trans (by repeat (first | with_reducible exact Grew.refl _ | apply Grew.more | apply Grew.alloc | apply Grew.drew | apply Grew.drewN)))).mono ?_; rintro e w1 ⟨rfl, R5, n5, rfl⟩)
              | (go_at_call 10; refine (HPL2.out _ (HG0.out.trans (by repeat (first | with_reducible exact Grew.refl _ | apply Grew.more | apply Grew.alloc | apply Grew.drew | apply Grew.drewN)))).mono ?_; rintro e w1 ⟨rfl, R6, n6, rfl⟩)
              | (go_at_call 11; refine (HAP.out _ (by repeat (first | with_reducible exact Grew.refl _ | apply Grew.more | apply Grew.alloc | apply Grew.drew | apply Grew.drewN))).mono ?_; rintro e w2 h9; obtain ⟨⟨R7, n7, rfl⟩, v9, lc9, l9, rfl, ho9, hi9, hp9, -, hs9⟩ := h9.fine rfl; (have HN9 := Lib.hid (AheadAt.own (HG0.out.trans (by repeat (first | with_reducible exact Grew.refl _ | apply Grew.more | apply Grew.alloc | apply Grew.drew | apply Grew.drewN))) ho9 hi9)); (have HP9 := Lib.hid hp9); (have HS9 := Lib.hid hs9); clear ho9 hi9 hp9 hs9)
              | (go_at_call 12; refine (HSU.out _ (by repeat (first | with_reducible exact Grew.refl _ | apply Grew.more | apply Grew.alloc | apply Grew.drew | apply Grew.drewN))).mono ?_; rintro e wS ⟨rfl, hcS, hlS, -⟩; (have HX7 := Lib.hid (HL.out.step (by repeat (first | with_reducible exact Grew.refl _ | apply Grew.more | apply Grew.alloc | apply Grew.drew | apply Grew.drewN)) hlS hcS (HL.out.wt.snoc HS4.out.1) HOK.out (HS4.out.2.trans HP9.out.symm) ((HN9.out.grew (by repeat (first | with_reducible exact Grew.refl _ | apply Grew.more | apply Grew.alloc | apply Grew.drew | apply Grew.drewN))).cl hlS.cl (by simp [NoData])) HS9.out)); clear hcS hlS))
              go_roundg (l.length - (k + 1))
              case measure => omega
              case rel => exact ⟨k + 1, ps ++ [clP p], _, ⟨by omega, by simp; omega⟩, by omega, by simp, by go_num, Lib.hid (HX7.out.grew (by repeat (first | with_reducible exact Grew.refl _ | apply Grew.more | apply Grew.alloc | apply Grew.drew | apply Grew.drewN)))⟩
            · rw [if_neg h0] at HSU
              have hn0 : (er == 0) = false := by rw [beq_eq_false_iff_ne]; exact h0
              clear HOK HS4 h0
              go_wp2_with (first
              | (go_at_call 6; refine (HG8.out _ (HG0.out.trans (by repeat (first | with_reducible exact Grew.refl _ | apply Grew.more | apply Grew.alloc | apply Grew.drew | apply Grew.drewN)))).mono ?_; rintro e w1 ⟨rfl, R5, n5, rfl⟩)
              | (go_at_call 10; refine (HPL2.out _ (HG0.out.trans (by repeat (first | with_reducible exact Grew.refl _ | apply Grew.more | apply Grew.alloc | apply Grew.drew | apply Grew.drewN)))).mono ?_; rintro e w1 ⟨rfl, R6, n6, rfl⟩)
              | (go_at_call 11; refine (HAP.out _ (by repeat (first | with_reducible exact Grew.refl _ | apply Grew.more | apply Grew.alloc | apply Grew.drew | apply Grew.drewN))).mono ?_; rintro e w2 h9; obtain ⟨⟨R7, n7, rfl⟩, v9, i9, rfl, h9⟩ := h9.one; clear h9)
              | (go_at_call 12; refine (HSU.out _ (by repeat (first | with_reducible exact Grew.refl _ | apply Grew.more | apply Grew.alloc | apply Grew.drew | apply Grew.drewN))).mono ?_; rintro e wS ⟨rfl, hcS, hlS, -⟩; (have HX7 := Lib.hid (HL.out.step (by repeat (first | with_reducible exact Grew.refl _ | apply Grew.more | apply Grew.alloc | apply Grew.drew | apply Grew.drewN)) hlS hcS HL.out.wt HL.out.ok HL.out.pm ((HL.out.nd.grew (by repeat (first | with_reducible exact Grew.refl _ | apply Grew.more | apply Grew.alloc | apply Grew.drew | apply Grew.drewN))).cl hlS.cl (by simp [NoData])) HL.out.sm)); clear hcS hlS))
              go_roundg (l.length - (k + 1))
              case measure => omega
              case rel => exact ⟨k + 1, ps, A, ⟨by omega, hps⟩, by omega, rfl, by go_num, Lib.hid (HX7.out.grew (by repeat (first | with_reducible exact Grew.refl _ | apply Grew.more | apply Grew.alloc | apply Grew.drew | apply Grew.drewN)))⟩
    · obtain rfl : k = l.length := by omega
      have HT0 := Lib.hid (HL.out.turn HKK.out)
      have HA0 := Lib.hid HL.out.nd
      have HSA := Lib.hid HL.out.sm
      clear hlt hgg hk HL
      go_wp2_with fail
      go_loopg [10, 19, 100] bs.length (fun gg s10 s19 s100 wr => ∃ (k : Nat) (q ep : Int), (k ≤ bs.length ∧ bs.length - k ≤ gg ∧ 0 ≤ q ∧ q ≤ 4) ∧ s10 = .int .i64 q ∧ s19 = .int .i64 ep ∧ s100 = .int .i64 k ∧ Hid (Turn w wr z bk lg x mp k A ep q) ∧ Hid (AheadAt w wr u9 A))
      case atStart => exact ⟨0, ps.length, 0, ⟨by omega, by omega, by omega, by omega⟩, rfl, rfl, rfl, Lib.hid (HT0.out.grew (by repeat (first | with_reducible exact Grew.refl _ | apply Grew.more | apply Grew.alloc | apply Grew.drew | apply Grew.drewN))), Lib.hid (HA0.out.grew (by repeat (first | with_reducible exact Grew.refl _ | apply Grew.more | apply Grew.alloc | apply Grew.drew | apply Grew.drewN)))⟩
      case round =>
        obtain ⟨k, q, ep, ⟨hk, hgg, hq0, hq4⟩, rfl, rfl, rfl, HT, HA⟩ := hrel
        rename World => wb
        clear HT0 HA0 HCK HGT HCO HC HU HD HX HKK HV HP
        obtain ⟨ms, m, qs, ref, e0, nb, kq, ll, hco, hun, hn, hw, hok, hA, hq⟩ := HT.out.st
        have HGW := Lib.hid hco.g
        have HOM := Lib.hid hco.ok
        have HQ := Lib.hid hq
        have HAP := Lib.hid hA
        by_cases hlt : k < bs.length
        · obtain ⟨a', c', e, -, hx⟩ := flags_open HF.out
          cases e
          obtain ⟨bf, off, rfl, hbf, hcf⟩ := hx k hlt
          have hcw := cell_grew hcf hco.g
          have hbw := Pre.ofCell hcw
          have hql : (qs.length : Int) = q := hq.symm
          have hk2 : (k : Int) < bs.length := by omega
          have hep := hn.1
          have hep1 : ep + 1 ≤ 9223372036854775807 := by omega
          have hep2 : -9223372036854775808 ≤ ep + 1 := by omega
          have HEP : Hid ((0 ≤ ep ∧ ep ≤ k) ∧ k < 20 ∧ k < bs.length) := Lib.hid ⟨⟨by omega, by omega⟩, by omega, hlt⟩
          have HBE := Lib.hid fun W' (gr : Grew wb W') => coBegin_any (hco.grew gr) (show 0 ≤ ep ∧ ep ≤ 2000000000 from ⟨by omega, by omega⟩)
          have HQU := Lib.hid fun (uv : Value) (pl : Bool) (la : Int) W' (h : CoAt w W' z bk lg ms m qs uv pl la ref) => coQueue_any h
          rw [hql] at HQU
          obtain ⟨pl, hpl⟩ : ∃ pl, decide (0 < qs.length) = pl := ⟨_, rfl⟩
          rw [hpl] at HBE
          have HPL := Lib.hid hpl
          have HUN := Lib.hid hun
          have HN := Lib.hid hn
          have HW := Lib.hid hw
          have HOK := Lib.hid hok
          have HGS := Lib.hid (graph_self hco.ok.r)
          have HMP : Hid (mp < wb.heap.size) := Lib.hid (by obtain ⟨mm, h1, -⟩ := hun.book.map; exact h1.lt)
          have hpq : (pl = true ∧ 0 < q) ∨ (pl = false ∧ q = 0) := by
            cases pl
            · exact .inr ⟨rfl, by have := of_decide_eq_false hpl; omega⟩
            · exact .inl ⟨rfl, by have := of_decide_eq_true hpl; omega⟩
          clear hx hcf hbf hco hun hn hw hok hA hq hql hpl hep
          generalize bs[k] = ab at *
          clear hlt
          rcases hpq with ⟨rfl, hqp⟩ | ⟨rfl, rfl⟩
          case' inl => (have hqz : ¬ q = 0 := by omega); (have hq1 : q - 1 ≤ 9223372036854775807 := by omega); (have hq2 : -9223372036854775808 ≤ q - 1 := by omega)
          all_goals
            cases ab
            case true =>
              go_wp2_with (first
                | (go_at_call 13; refine (HBE.out _ (by repeat (first | with_reducible exact Grew.refl _ | apply Grew.more | apply Grew.alloc | apply Grew.drew | apply Grew.drewN))).mono ?_; rintro e w4 ⟨rfl, x4, b4, hc4, hg4, -, hb4, hl4, hn4⟩; rw [HGS.out] at hg4; (have HC4 := Lib.hid hc4); (have HG4 := Lib.hid hg4.ga); (have HB4 : Hid (w.heap.size ≤ b4 ∧ mp ≠ b4) := Lib.hid ⟨hb4, fun e => by have := HMP.out; have := Nat.le_trans (Grew.below (by repeat (first | with_reducible exact Grew.refl _ | apply Grew.more | apply Grew.alloc | apply Grew.drew | apply Grew.drewN) : Grew wb _)).size hn4; omega⟩); (have HU4 := Lib.hid ((HUN.out.grew (by repeat (first | with_reducible exact Grew.refl _ | apply Grew.more | apply Grew.alloc | apply Grew.drew | apply Grew.drewN))).leaves hl4 (by decide) (by decide) (by decide) (by decide))); (have HA4 := Lib.hid ((HA.out.grew (by repeat (first | with_reducible exact Grew.refl _ | apply Grew.more | apply Grew.alloc | apply Grew.drew | apply Grew.drewN))).cl hl4.cl (by simp [NoData]))); clear hc4 hg4 hb4 hl4 hn4)
                | (go_at_call 14; refine (HQU.out _ _ _ _ (HC4.out.grew (by repeat (first | with_reducible exact Grew.refl _ | apply Grew.more | apply Grew.alloc | apply Grew.drew | apply Grew.drewN)))).mono ?_; rintro e w5 ⟨rfl, R5, n5, rfl⟩)
                | (go_at_call 15; refine (coAbort_any (HC4.out.grew (by repeat (first | with_reducible exact Grew.refl _ | apply Grew.more | apply Grew.alloc | apply Grew.drew | apply Grew.drewN)))).mono ?_; rintro e w8 ⟨rfl, hc8, hl8, -, -⟩; (have HT8 := Lib.hid (Turn.abort ((HU4.out.grew (by repeat (first | with_reducible exact Grew.refl _ | apply Grew.more | apply Grew.alloc | apply Grew.drew | apply Grew.drewN))).leaves hl8 (by decide) (by decide) (by decide) (by decide)) HN.out HW.out HOK.out HAP.out HQ.out hc8)); (have HA8 := Lib.hid ((HA4.out.grew (by repeat (first | with_reducible exact Grew.refl _ | apply Grew.more | apply Grew.alloc | apply Grew.drew | apply Grew.drewN))).cl hl8.cl (by simp [NoData]))); clear hc8 hl8))
              go_roundg (bs.length - (k + 1))
              case measure => have := HEP.out; omega
              case rel => exact ⟨k + 1, _, ep + 1, ⟨by have := HEP.out; omega, by omega, by omega, by omega⟩, rfl, rfl, by go_num, Lib.hid (HT8.out.grew (by repeat (first | with_reducible exact Grew.refl _ | apply Grew.more | apply Grew.alloc | apply Grew.drew | apply Grew.drewN))), Lib.hid (HA8.out.grew (by repeat (first | with_reducible exact Grew.refl _ | apply Grew.more | apply Grew.alloc | apply Grew.drew | apply Grew.drewN)))⟩
            case false =>
              have HGR := Lib.hid HOM.out.r.gr
              have hgl : m.graph.length ≤ 8 := HGR.out.len
              go_wp2_with (first
                | (go_at_call 13; refine (HBE.out _ (by repeat (first | with_reducible exact Grew.refl _ | apply Grew.more | apply Grew.alloc | apply Grew.drew | apply Grew.drewN))).mono ?_; rintro e w4 ⟨rfl, x4, b4, hc4, hg4, -, hb4, hl4, hn4⟩; rw [HGS.out] at hg4; (have HC4 := Lib.hid hc4); (have HG4 := Lib.hid hg4.ga); (have HB4 : Hid (w.heap.size ≤ b4 ∧ mp ≠ b4) := Lib.hid ⟨hb4, fun e => by have := HMP.out; have := Nat.le_trans (Grew.below (by repeat (first | with_reducible exact Grew.refl _ | apply Grew.more | apply Grew.alloc | apply Grew.drew | apply Grew.drewN) : Grew wb _)).size hn4; omega⟩); (have HU4 := Lib.hid ((HUN.out.grew (by repeat (first | with_reducible exact Grew.refl _ | apply Grew.more | apply Grew.alloc | apply Grew.drew | apply Grew.drewN))).leaves hl4 (by decide) (by decide) (by decide) (by decide))); (have HA4 := Lib.hid ((HA.out.grew (by repeat (first | with_reducible exact Grew.refl _ | apply Grew.more | apply Grew.alloc | apply Grew.drew | apply Grew.drewN))).cl hl4.cl (by simp [NoData]))); clear hc4 hg4 hb4 hl4 hn4)
                | (go_at_call 14; refine (HQU.out _ _ _ _ (HC4.out.grew (by repeat (first | with_reducible exact Grew.refl _ | apply Grew.more | apply Grew.alloc | apply Grew.drew | apply Grew.drewN)))).mono ?_; rintro e w5 ⟨rfl, R5, n5, rfl⟩)
                | (go_at_call 16; refine (coMan_any (HC4.out.grew (by repeat (first | with_reducible exact Grew.refl _ | apply Grew.more | apply Grew.alloc | apply Grew.drew | apply Grew.drewN)))).mono ?_; rintro e w6 ⟨⟨ep2, pl2, ao2, no2, co2, ag2, ng2, cg2, ae2, ne2, ce2, ax2, nx2, cx2, ap2, np2, cp2⟩, rfl, hm6, R6, n6, rfl⟩; (obtain rfl : ng2 = m.graph.length := by obtain ⟨_, _, e, -⟩ := hm6.is.g.openC; exact (Value.slice.inj e).2.1); (have HM6 : Hid (OwnNds _ (.slice ag2 m.graph.length cg2) m.graph) := Lib.hid hm6.g); (have hfld := coField3 ⟨ep2, pl2, ao2, no2, co2, ag2, m.graph.length, cg2, ae2, ne2, ce2, ax2, nx2, cx2, ap2, np2, cp2⟩); simp only at hfld; clear hm6))
              go_loopg [133] m.graph.length (fun gg2 s133 wr => ∃ k2 : Nat, k2 ≤ m.graph.length ∧ m.graph.length - k2 ≤ gg2 ∧ s133 = .int .i64 k2 ∧ Hid (Acks w wr z bk lg x mp x4 b4 nb kq ll ms m qs (decide (0 < qs.length)) (ep + 1) ref e0 u9 A (.slice ag2 m.graph.length cg2) (tasksOf (m.graph.take k2))))
              case atStart => exact ⟨0, by omega, by omega, rfl, Lib.hid (by rw [HPL.out]; exact ⟨HC4.out.grew (by repeat (first | with_reducible exact Grew.refl _ | apply Grew.more | apply Grew.alloc | apply Grew.drew | apply Grew.drewN)), HU4.out.grew (by repeat (first | with_reducible exact Grew.refl _ | apply Grew.more | apply Grew.alloc | apply Grew.drew | apply Grew.drewN)), HG4.out.grew (by repeat (first | with_reducible exact Grew.refl _ | apply Grew.more | apply Grew.alloc | apply Grew.drew | apply Grew.drewN)), HA4.out.grew (by repeat (first | with_reducible exact Grew.refl _ | apply Grew.more | apply Grew.alloc | apply Grew.drew | apply Grew.drewN)), HB4.out.2, HB4.out.1, HM6.out.grew (by repeat (first | with_reducible exact Grew.refl _ | apply Grew.more | apply Grew.alloc | apply Grew.drew | apply Grew.drewN))⟩)⟩
              case round =>
                obtain ⟨k2, hk2, hgg2, rfl, HK⟩ := hrel
                rename World => wc
                clear HC4 HU4 HG4 HA4 HM6 HBE HUN HA HT hfld
                by_cases hlt2 : k2 < m.graph.length
                · obtain ⟨a', cap', e, -, hx⟩ := HK.out.mf.at.openC
                  cases e
                  obtain ⟨b8, off8, c, rfl, hb, hn, c0, c1, c2, c3, c4, c5, c6, c7, c8, c9, c10, c11, c12⟩ := hx k2 hlt2
                  have hid := hn.id
                  have hpar := hn.par
                  have hp13 := (right_par HGR.out _ (List.getElem_mem hlt2)).1
                  have HTF := Lib.hid (tasksTo_full hlt2)
                  have HAD := Lib.hid fun (i : Nat) (hi : (i : Int) < m.graph[k2].par) => addZ (ep := ep + 1) HGR.out (List.getElem_mem hlt2) hi (tasksTo_new hlt2 HOM.out.r.so i)
                  have HTS := Lib.hid fun (i : Nat) => tasksTo_step hlt2 i
                  have HID9 : Hid (0 ≤ m.graph[k2].id ∧ m.graph[k2].id < 8) := Lib.hid (by have h := HGR.out.ok k2 _ (List.getElem?_eq_getElem hlt2); exact ⟨h.id0, by have := h.id7; omega⟩)
                  clear hx hn
                  obtain ⟨cid, kind, caf, nf, ccf, cap, np, ccp, par, r0, r1, r2, r3, r4, r5, r6, r7⟩ := c
                  simp only at c0 c1 c2 c3 c4 c5 c6 c7 c8 c9 c10 c11 c12 hid hpar
                  rw [hid] at HAD HTS HID9
                  rw [hpar] at HAD HTF hp13
                  obtain ⟨p, hp⟩ : ∃ p : Nat, par = (p : Int) := ⟨par.toNat, by omega⟩
                  subst hp
                  rw [Int.toNat_natCast] at HTF
                  have hp3 : p ≤ 3 := by omega
                  clear hid hpar hp13
                  go_wp2
                  go_loopg [27] p (fun gg3 s27 wr2 => ∃ j : Nat, j ≤ p ∧ p - j ≤ gg3 ∧ s27 = .int .i64 j ∧ Hid (wr2.heap[wc.heap.size]? = some (.cells #[.int .i64 cid, .int .i64 kind, .slice caf nf ccf, .slice cap np ccp, .int .i64 (p : Int), .int .i64 r0, .int .i64 r1, .int .i64 r2, .int .i64 r3, .int .i64 r4, .int .i64 r5, .int .i64 r6, .int .i64 r7] 52)) ∧ Hid (Acks w wr2 z bk lg x mp x4 b4 nb kq ll ms m qs (decide (0 < qs.length)) (ep + 1) ref e0 u9 A (.slice (some ⟨b8, off8, none⟩) m.graph.length cg2) (tasksTo m.graph k2 j)))
                  case atStart => exact ⟨0, by omega, by omega, rfl, Lib.hid (heap_new_at _ _ _ rfl), Lib.hid (by rw [tasksTo_zero]; exact HK.out.grew (by repeat (first | with_reducible exact Grew.refl _ | apply Grew.more | apply Grew.alloc | apply Grew.drew | apply Grew.drewN)))⟩
                  case round =>
                    obtain ⟨j, hj, hgg3, rfl, HB2, HK2⟩ := hrel
                    rename World => wd
                    have d0 := cell_of (o := 0) HB2.out
                    have d4 := cell_of (o := 4) HB2.out
                    simp at d0 d4
                    have pd := Pre.mk (heap_lt HB2.out)
                    by_cases hlt3 : j < p
                    · have hj3 : (j : Int) < p := by omega
                      have had := HAD.out j (by omega)
                      have hok : okWho (cid, (j : Int)) := ⟨⟨by have := HID9.out; first | (simp; done) | (simp; omega) | omega, by have := HID9.out; first | (simp; done) | (simp; omega) | omega⟩, ⟨by first | (simp; done) | (simp; omega) | omega, by first | (simp; done) | (simp; omega) | omega⟩⟩
                      have htl := tasksTo_len (k := k2) HGR.out (Nat.le_trans hj hp3)
                      have HCA := Lib.hid fun W' (gr : Grew wd W') => coAck_any (ackZ (ep + 1) (cid, (j : Int))) (HK2.out.co.grew gr) (HK2.out.ga.grew gr) HK2.out.b0 htl hok had
                      clear had hok htl
                      go_wp2_with (go_at_call 17; refine (HCA.out _ (by repeat (first | with_reducible exact Grew.refl _ | apply Grew.more | apply Grew.alloc | apply Grew.drew | apply Grew.drewN))).mono ?_; rintro e wA ⟨rfl, hcA, hgA, -, hkA⟩; obtain ⟨hK3, hL3⟩ := HK2.out.step (by repeat (first | with_reducible exact Grew.refl _ | apply Grew.more | apply Grew.alloc | apply Grew.drew | apply Grew.drewN)) hcA hgA hkA; (have HK3 := Lib.hid hK3); (have HB3 := Lib.hid (hL3 _ _ _ _ (grew_heap (by repeat (first | with_reducible exact Grew.refl _ | apply Grew.more | apply Grew.alloc | apply Grew.drew | apply Grew.drewN)) HB2.out) (by simp))); clear hcA hgA hkA hK3 hL3)
                      go_roundg (p - (j + 1))
                      case measure => omega
                      case rel => exact ⟨j + 1, by omega, by omega, by go_num, Lib.hid (grew_heap (by repeat (first | with_reducible exact Grew.refl _ | apply Grew.more | apply Grew.alloc | apply Grew.drew | apply Grew.drewN)) HB3.out), Lib.hid (by rw [HTS.out]; exact HK3.out.grew (by repeat (first | with_reducible exact Grew.refl _ | apply Grew.more | apply Grew.alloc | apply Grew.drew | apply Grew.drewN)))⟩
                    · obtain rfl : j = p := by omega
                      go_wp2
                      go_roundg (m.graph.length - (k2 + 1))
                      case measure => omega
                      case rel => exact ⟨k2 + 1, by omega, by omega, by go_num, Lib.hid (by rw [← HTF.out]; exact HK2.out.grew (by repeat (first | with_reducible exact Grew.refl _ | apply Grew.more | apply Grew.alloc | apply Grew.drew | apply Grew.drewN)))⟩
                · obtain rfl : k2 = m.graph.length := by omega
                  have hk := HK.out
                  rw [List.take_length] at hk
                  have hpl := HPL.out
                  have hq := HQ.out
                  have hk9 := HEP.out
                  obtain ⟨⟨e1, e2, e3, e4⟩, e5, e6, e7, e8, e9⟩ := HN.out
                  obtain ⟨p, hpe⟩ : ∃ p, planOf (decide (0 < qs.length)) qs = p := ⟨_, rfl⟩
                  obtain ⟨M, hMe⟩ : ∃ M, nextM m (ep + 1) p (planE m.graph p).2.2 = M := ⟨_, rfl⟩
                  obtain ⟨ps', hps⟩ : ∃ l, (if decide (0 < qs.length) = true then qs.tail else qs) = l := ⟨_, rfl⟩
                  obtain ⟨t1, t2, t3, t4, t5, t6, t7, t8, t9, t10⟩ := turn_math HOM.out HW.out HOK.out ⟨by omega, by omega⟩ (by omega) hpe hMe hps
                  rw [hpl] at t10
                  first
                    | (have hq7 : (ps'.length : Int) = q - 1 := by rw [t10, if_pos rfl]; omega)
                    | (have hq7 : (ps'.length : Int) = 0 := by rw [t10, if_neg (by decide)]; omega)
                  have htl : (tasksOf m.graph).length ≤ 1000 := by
                    have h1 := tasksOf_len m.graph fun n hn => (right_par HGR.out n hn).1.2
                    have h2 := HGR.out.len
                    omega
                  have HCM := Lib.hid fun W' (gr : Grew wc W') => coCommit_any (hk.co.grew gr) (hk.un.grew gr) (hk.ga.grew gr) htl (cameZ_len (ep + 1) (tasksOf m.graph)) (allZ W' m.graph (ep + 1)) rfl hpe (Nat.le_trans t1.len (by decide)) (fun s hs => (t1.step s hs).1) (by omega) t2 t1.clean hMe t3 (by omega) (by decide) (by omega) (by omega) (by omega) (by omega) (by omega) (by omega) (by omega)
                  rw [hps] at HCM
                  have HQ7 := Lib.hid fun (uv : Value) (pl : Bool) (la rf : Int) W' (h : CoAt w W' z bk lg (ms ++ [m]) M ps' uv pl la rf) => coQueue_any h
                  have HTN := Lib.hid fun W' (hc : CoAt w W' z bk lg (ms ++ [m]) M ps' (.pointer none) false (ep + 1) ref) (hu : Und w W' bk lg x mp (nb + 1) 1048576 (kq + (Gr.putM putI M).length + 8) (ll + 1) M.epoch) => Turn.next (k := k) (e0 := e0) ⟨e3, by omega⟩ ⟨e5, e6, e7, e8, e9⟩ t4 t8 t9 HAP.out t5 t7 t6 hc hu
                  rw [hq7] at HQ7 HTN
                  have HAK := Lib.hid hk.ah
                  have HME := Lib.hid t9
                  clear hk hpl hq e1 e2 e3 e4 e5 e6 e7 e8 e9 hpe hMe hps t1 t2 t3 t4 t5 t6 t7 t8 t9 t10 hq7 htl hk9 HK hlt2 hgg2 hk2
                  go_wp2_with (first
                    | (go_at_call 18; refine (HCM.out _ (by repeat (first | with_reducible exact Grew.refl _ | apply Grew.more | apply Grew.alloc | apply Grew.drew | apply Grew.drewN))).mono ?_; rintro e w7 ⟨⟨ep3, pl3, ao3, no3, co3, ag3, ng3, cg3, ae3, ne3, ce3, ax3, nx3, cx3, ap3, np3, cp3⟩, rfl, hm7, hc7, hu7, hl7⟩; (obtain rfl : ep3 = ep + 1 := hm7.epoch.symm.trans HME.out); (have HC7 := Lib.hid hc7); (have HT7 := Lib.hid (HTN.out _ hc7 hu7)); (have HA7 := Lib.hid ((HAK.out.grew (by repeat (first | with_reducible exact Grew.refl _ | apply Grew.more | apply Grew.alloc | apply Grew.drew | apply Grew.drewN))).cl hl7 (by simp [NoData]))); clear hm7 hc7 hu7 hl7)
                    | (go_at_call 14; refine (HQ7.out _ _ _ _ _ (HC7.out.grew (by repeat (first | with_reducible exact Grew.refl _ | apply Grew.more | apply Grew.alloc | apply Grew.drew | apply Grew.drewN)))).mono ?_; rintro e w9 ⟨rfl, R9, n9, rfl⟩))
                  go_roundg (bs.length - (k + 1))
                  case measure => have := HEP.out; omega
                  case rel => exact ⟨k + 1, _, ep + 1, ⟨by have := HEP.out; omega, by omega, by omega, by omega⟩, rfl, rfl, by go_num, Lib.hid (HT7.out.grew (by repeat (first | with_reducible exact Grew.refl _ | apply Grew.more | apply Grew.alloc | apply Grew.drew | apply Grew.drewN))), Lib.hid (HA7.out.grew (by repeat (first | with_reducible exact Grew.refl _ | apply Grew.more | apply Grew.alloc | apply Grew.drew | apply Grew.drewN)))⟩
        · obtain rfl : k = bs.length := by omega
          by_cases hqp : 0 < q
          · clear hlt hco hun hn hw hok hA hq HT HA
            go_wp2_with fail
            go_ret
            exact ⟨by simp, HGW.out.trans (by repeat (first | with_reducible exact Grew.refl _ | apply Grew.more | apply Grew.alloc | apply Grew.drew | apply Grew.drewN))⟩
          · obtain rfl : q = 0 := by omega
            have hqn : qs = [] := List.length_eq_zero_iff.1 (by omega)
            subst hqn
            have HPM : Hid (A.Perm m.graph) := Lib.hid hA.symm
            have HC9 := Lib.hid hco
            clear hlt hqp hco hun hn hw hok hA hq HT
            go_wp2_with (first
              | (go_at_call 16; refine (coMan_any (HC9.out.grew (by repeat (first | with_reducible exact Grew.refl _ | apply Grew.more | apply Grew.alloc | apply Grew.drew | apply Grew.drewN)))).mono ?_; rintro e w6 ⟨⟨ep2, pl2, ao2, no2, co2, ag2, ng2, cg2, ae2, ne2, ce2, ax2, nx2, cx2, ap2, np2, cp2⟩, rfl, hm6, R6, n6, rfl⟩; (obtain rfl : ng2 = m.graph.length := by obtain ⟨_, _, e, -⟩ := hm6.is.g.openC; exact (Value.slice.inj e).2.1); (have HM6 := Lib.hid hm6.is.g); (have hfld := coField3 ⟨ep2, pl2, ao2, no2, co2, ag2, m.graph.length, cg2, ae2, ne2, ce2, ax2, nx2, cx2, ap2, np2, cp2⟩); simp only at hfld; clear hm6)
              | (go_at_call 19; refine (same_perm _ _ m.graph A _ (HM6.out.grew (by repeat (first | with_reducible exact Grew.refl _ | apply Grew.more | apply Grew.alloc | apply Grew.drew | apply Grew.drewN))) ((HA.out.grew (by repeat (first | with_reducible exact Grew.refl _ | apply Grew.more | apply Grew.alloc | apply Grew.drew | apply Grew.drewN))).at (HGW.out.trans (by repeat (first | with_reducible exact Grew.refl _ | apply Grew.more | apply Grew.alloc | apply Grew.drew | apply Grew.drewN)))) HOM.out.s (by have := HOM.out.r.gr.len; omega) HOM.out.r.so HSA.out HPM.out).mono ?_; rintro e w9 ⟨rfl, R9, n9, rfl⟩))
            go_ret
            exact ⟨rfl, HGW.out.trans (by repeat (first | with_reducible exact Grew.refl _ | apply Grew.more | apply Grew.alloc | apply Grew.drew | apply Grew.drewN))⟩
theorem coordQueue_any (v vp vb : Value) (g : List Gr.Nd) (l : List (List Gr.Stp)) (bs : List Bool) (w : World) (hv : NodesAt w v g) (hp : PlansAt w vp l) (hf : FlagsAt w vb bs) : Calls Tryz.prog 3 #[v, vp, vb] w (Gives (.bool true) w) := by
  by_cases h : greatG g = true ∨ 20 < l.length ∨ 20 < bs.length ∨ ¬ Gr.RightR g
  · obtain ⟨af, cf, rfl, hnf, -⟩ := flags_open hf
    exact coordQueue_great v vp g l af bs.length cf w hv hp hnf h
  · refine coordQueue_go v vp vb g l bs w hv hp ?_ ?_ hf ?_ ?_
    · cases hg : greatG g
      · rfl
      · exact absurd (.inl hg) h
    · exact Nat.le_of_not_lt fun h2 => h (.inr (.inl h2))
    · exact Nat.le_of_not_lt fun h2 => h (.inr (.inr (.inl h2)))
    · exact Classical.byContradiction fun h2 => h (.inr (.inr (.inr h2)))
end Go.Proofs.YtipgfjihdglocaaGreat
