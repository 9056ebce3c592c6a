import Derived.Test.YtipgfjihdglocaaGreatOpC
import Derived.Test.YtipgfjihdglocaaGreatCw15
import Derived.Test.YtipgfjihdglocaaGreatCw40
import Derived.Test.YtipgfjihdglocaaGreatCw41
import Derived.Test.YtipgfjihdglocaaGreatCw42
/-! forebaylaw23.CoordOpens. -/
namespace Go.Proofs.YtipgfjihdglocaaGreat
set_option linter.unusedSimpArgs false
set_option linter.unusedVariables false
open Go.RowKit Ga
set_option maxRecDepth 100000

/-- manifests as an argument -/
def MansAt (w : World) (v : Value) (l : List (MfC × Gr.Mf)) : Prop := SlAt 7 (fun w cs (x : MfC × Gr.Mf) => cs = encMh x.1 ∧ MfIs w x.1 x.2) w v l
theorem mans_open {w : World} {v : Value} {l : List (MfC × Gr.Mf)} (h : MansAt w v l) : ∃ a cap, v = .slice a l.length cap ∧ l.length ≤ 9223372036854775807 ∧ ∀ k (hk : k < l.length), ∃ b off, a = some ⟨b, off, none⟩ ∧ MfIs w l[k].1 l[k].2 ∧ ∀ j u, (encMh l[k].1)[j]? = some u → w.cell? ⟨b, off + k * 7 + j, none⟩ = some u := by
  obtain ⟨a, cap, rfl, h1, h2, -, hx⟩ := h
  refine ⟨a, cap, rfl, by unfold maxLen at h2; omega, fun k hk => ?_⟩
  obtain ⟨b, off, rfl, hc⟩ := hx (fun e => by rw [e] at hk; cases hk)
  obtain ⟨cs, -, ⟨rfl, hm⟩, hcell⟩ := hc k _ (List.getElem?_eq_getElem hk)
  exact ⟨b, off, rfl, hm, hcell⟩
theorem OpenPost.one {w0 W' : World} {e : Ending} (h : OpenPost w0 e W') : Grew w0 W' ∧ ∃ (v : Value) (k : Int), e = .returned (.tuple #[v, .int .i64 k]) ∧ ((k = 4 ∧ v = .pointer none) ∨ (k = 0 ∧ ∃ (z bk lg mp n : Nat) (hs : List Gr.Mf) (last ep : Int), v = .pointer (some ⟨z, 0, none⟩) ∧ OpSt w0 W' z bk lg mp n hs (hs.flatMap (·.out)) last ep ∧ GoodH hs ep ∧ hs ≠ [] ∧ hs.length ≤ 3000)) := by
  rcases h with ⟨rfl, g⟩ | ⟨z, bk, lg, mp, n, hs, last, ep, rfl, h1, h2⟩
  · exact ⟨g, _, 4, rfl, .inl ⟨rfl, rfl⟩⟩
  · exact ⟨h1.g, _, 0, rfl, .inr ⟨rfl, z, bk, lg, mp, n, hs, last, ep, rfl, h1, h2⟩⟩
theorem okMfO {m : Gr.Mf} (h : OkH m) : OkMf m := ⟨h.s, by have := h.r.gr.len; omega, h.r.so, fun s hs => by have := h.p s hs; omega⟩
theorem eqMfO (m : Gr.Mf) : eqMf m m = true := by unfold eqMf; simp
theorem hist_cell {base : Nat} {W : World} {b n c : Nat} {cs : List MfC} (h : OwnAt base 47 7 encMh W (.slice (some ⟨b, 0, none⟩) n c) cs) {k : Nat} (hk : k < cs.length) : ∀ j u, (encMh cs[k])[j]? = some u → W.cell? ⟨b, k * 7 + j, none⟩ = some u := by
  obtain ⟨a6, c6, e6, -, hx⟩ := OwnAt.rows h encMh_len
  obtain ⟨b6, off, e7, hx2⟩ := hx (fun e => by rw [e] at hk; cases hk)
  have q1 := (Value.slice.inj e6).1
  rw [e7] at q1
  cases q1
  intro j u hu
  have h9 := hx2 k cs[k] (List.getElem?_eq_getElem hk) j u hu
  rw [Nat.zero_add] at h9
  exact h9
theorem take_lines (hs : List Gr.Mf) (k : Nat) : ((hs.take k).flatMap (·.out)).length ≤ (hs.flatMap (·.out)).length := by
  have h : hs.flatMap (·.out) = (hs.take k).flatMap (·.out) ++ (hs.drop k).flatMap (·.out) := by rw [← List.flatMap_append, List.take_append_drop]
  rw [h, List.length_append]
  omega
set_option maxHeartbeats 32000000 in
theorem coordOpens_any (s : List UInt8) (v1 : Value) (l : List (MfC × Gr.Mf)) (w : World) (hm : MansAt w v1 l) : Calls Tryz.prog 4 #[.string ⟨s.toArray⟩, v1] w (Gives (.bool true) w) := by
  have HM := Lib.hid hm
  obtain ⟨am, cm, rfl, hlz, -⟩ := mans_open hm
  clear hm
  have hlz2 : (l.length : Int) ≤ 9223372036854775807 := by omega
  by_cases hs3 : 3000 < s.length
  · have hs3' : (3000 : Int) < s.length := by omega
    clear hs3 HM
    go_enter Tryz.func4, Tryz.ntmps4
    go_wp2_with (go_at_call 5; refine (awake23_any _).mono ?_; rintro e w1 ⟨rfl, R1, n1, rfl⟩)
    go_ret
    exact ⟨rfl, by repeat (first | with_reducible exact Grew.refl _ | apply Grew.more | apply Grew.alloc | apply Grew.drew | apply Grew.drewN)⟩
  · have hs3' : ¬ (3000 : Int) < s.length := by omega
    have HS3 : Hid (s.length ≤ 3000) := Lib.hid (by omega)
    have hsz : (s.length : Int) ≤ 9223372036854775807 := by omega
    clear hs3
    by_cases hl2 : 20 < l.length
    · have hl2' : (20 : Int) < l.length := by omega
      clear hl2 HM
      go_enter Tryz.func4, Tryz.ntmps4
      go_wp2_with (go_at_call 5; refine (awake23_any _).mono ?_; rintro e w1 ⟨rfl, R1, n1, rfl⟩)
      go_ret
      exact ⟨rfl, by repeat (first | with_reducible exact Grew.refl _ | apply Grew.more | apply Grew.alloc | apply Grew.drew | apply Grew.drewN)⟩
    · have hl2' : ¬ (20 : Int) < l.length := by omega
      clear hl2
      go_enter Tryz.func4, Tryz.ntmps4
      go_wp2_with (go_at_call 5; refine (awake23_any _).mono ?_; rintro e w1 ⟨rfl, R1, n1, rfl⟩)
      go_loopg [32] l.length (fun gg s32 wr => ∃ k : Nat, (k ≤ l.length ∧ l.length - k ≤ gg) ∧ s32 = .int .i64 k ∧ Hid (Grew w wr))
      case atStart => exact ⟨0, ⟨by omega, by omega⟩, rfl, Lib.hid (by repeat (first | with_reducible exact Grew.refl _ | apply Grew.more | apply Grew.alloc | apply Grew.drew | apply Grew.drewN))⟩
      case round =>
        obtain ⟨k, ⟨hk, hgg⟩, rfl, HG⟩ := hrel
        rename World => wa
        by_cases hlt : k < l.length
        · have hk2 : (k : Int) < l.length := by omega
          obtain ⟨a6, c6, e6, -, hx⟩ := mans_open HM.out
          obtain ⟨b6, off, e7, hmi, hj⟩ := hx k hlt
          have q1 := (Value.slice.inj e6).1
          clear e6 hx
          rw [← q1] at e7
          subst e7
          clear q1
          obtain ⟨ep, pl, ao, co, ag, cg, ae, ce, ax, cx, ap, cp, hce⟩ := hmi.lit
          obtain ⟨⟨c, m⟩, hcm⟩ : ∃ x, l[k] = x := ⟨_, rfl⟩
          rw [hcm] at hmi hj hce
          simp only at hmi hj hce
          subst hce
          have hj2 := fun j u hu => cell_grew (hj j u hu) HG.out
          have d0 : wa.cell? ⟨b6, off + k * 7, none⟩ = some (.int .i64 ep) := hj2 0 _ rfl
          have d1 : wa.cell? ⟨b6, off + k * 7 + 1, none⟩ = some (.int .i64 pl) := hj2 1 _ rfl
          have d2 : wa.cell? ⟨b6, off + k * 7 + 2, none⟩ = some (.slice ao m.offs.length co) := hj2 2 _ rfl
          have d3 : wa.cell? ⟨b6, off + k * 7 + 3, none⟩ = some (.slice ag m.graph.length cg) := hj2 3 _ rfl
          have d4 : wa.cell? ⟨b6, off + k * 7 + 4, none⟩ = some (.slice ae m.ents.length ce) := hj2 4 _ rfl
          have d5 : wa.cell? ⟨b6, off + k * 7 + 5, none⟩ = some (.slice ax m.out.length cx) := hj2 5 _ rfl
          have d6 : wa.cell? ⟨b6, off + k * 7 + 6, none⟩ = some (.slice ap m.plan.length cp) := hj2 6 _ rfl
          have pd := Pre.ofCell d0
          have HGR := Lib.hid fun W' (g : Grew w W') => great10_any _ _ m.graph m.plan W' (hmi.g.grew g) (hmi.p.grew g)
          simp only at HGR
          clear hj hj2 hmi hcm hlt
          generalize (greatG m.graph || greatP m.plan) = b0 at *
          generalize m.graph.length = q0 at *
          generalize m.plan.length = q4 at *
          generalize m.offs.length = q1 at *
          generalize m.ents.length = q2 at *
          generalize m.out.length = q3 at *
          cases b0
          case true =>
            go_wp2_with (go_at_call 6; refine (HGR.out _ (HG.out.trans (by repeat (first | with_reducible exact Grew.refl _ | apply Grew.more | apply Grew.alloc | apply Grew.drew | apply Grew.drewN)))).mono ?_; rintro e w1 ⟨rfl, R5, n5, rfl⟩)
            go_ret
            exact ⟨rfl, HG.out.trans (by repeat (first | with_reducible exact Grew.refl _ | apply Grew.more | apply Grew.alloc | apply Grew.drew | apply Grew.drewN))⟩
          case false =>
            by_cases h2 : (60 : Int) < q2
            · go_wp2_with (go_at_call 6; refine (HGR.out _ (HG.out.trans (by repeat (first | with_reducible exact Grew.refl _ | apply Grew.more | apply Grew.alloc | apply Grew.drew | apply Grew.drewN)))).mono ?_; rintro e w1 ⟨rfl, R5, n5, rfl⟩)
              go_ret
              exact ⟨rfl, HG.out.trans (by repeat (first | with_reducible exact Grew.refl _ | apply Grew.more | apply Grew.alloc | apply Grew.drew | apply Grew.drewN))⟩
            · by_cases h3 : (60 : Int) < q3
              · go_wp2_with (go_at_call 6; refine (HGR.out _ (HG.out.trans (by repeat (first | with_reducible exact Grew.refl _ | apply Grew.more | apply Grew.alloc | apply Grew.drew | apply Grew.drewN)))).mono ?_; rintro e w1 ⟨rfl, R5, n5, rfl⟩)
                go_ret
                exact ⟨rfl, HG.out.trans (by repeat (first | with_reducible exact Grew.refl _ | apply Grew.more | apply Grew.alloc | apply Grew.drew | apply Grew.drewN))⟩
              · by_cases h1 : (20 : Int) < q1
                · go_wp2_with (go_at_call 6; refine (HGR.out _ (HG.out.trans (by repeat (first | with_reducible exact Grew.refl _ | apply Grew.more | apply Grew.alloc | apply Grew.drew | apply Grew.drewN)))).mono ?_; rintro e w1 ⟨rfl, R5, n5, rfl⟩)
                  go_ret
                  exact ⟨rfl, HG.out.trans (by repeat (first | with_reducible exact Grew.refl _ | apply Grew.more | apply Grew.alloc | apply Grew.drew | apply Grew.drewN))⟩
                · go_wp2_with (go_at_call 6; refine (HGR.out _ (HG.out.trans (by repeat (first | with_reducible exact Grew.refl _ | apply Grew.more | apply Grew.alloc | apply Grew.drew | apply Grew.drewN)))).mono ?_; rintro e w1 ⟨rfl, R5, n5, rfl⟩)
                  go_roundg (l.length - (k + 1))
                  case measure => omega
                  case rel => exact ⟨k + 1, ⟨by omega, by omega⟩, by go_num, Lib.hid (HG.out.trans (by repeat (first | with_reducible exact Grew.refl _ | apply Grew.more | apply Grew.alloc | apply Grew.drew | apply Grew.drewN)))⟩
        · obtain rfl : k = l.length := by omega
          have HR2 := Lib.hid pass2_right
          have HSM := Lib.hid pass2_small
          have HR8 := Lib.hid pass2_r8
          clear hgg hk hlt HM
          go_upto_region 14 with (first
            | (go_at_call 9; refine (diskNew_any 1048576 _ (by decide)).mono ?_; rintro e w1 ⟨x, rfl, hx, hd, R4, n4, rfl⟩; (have HX := Lib.hid (Nat.le_trans (Grew.below (HG.out.trans (by repeat (first | with_reducible exact Grew.refl _ | apply Grew.more | apply Grew.alloc | apply Grew.drew | apply Grew.drewN) : Grew wa _))).size hx)); (have HD := Lib.hid hd); clear hx hd)
            | (go_at_call 20; refine (diskAppendO_any w s (HD.out.grew (by repeat (first | with_reducible exact Grew.refl _ | apply Grew.more | apply Grew.alloc | apply Grew.drew | apply Grew.drewN))) (HG.out.trans (by repeat (first | with_reducible exact Grew.refl _ | apply Grew.more | apply Grew.alloc | apply Grew.drew | apply Grew.drewN))) HX.out (by decide) HS3.out).mono ?_; rintro e wB ⟨rfl, ⟨pv, ps, hd2, hps⟩, hgB⟩; (have HD2 := Lib.hid hd2); (have HPS := Lib.hid hps); (have HGB := Lib.hid hgB); clear hd2 hps hgB)
            | (go_at_call 21; refine (pass2O_any _).mono ?_; rintro e w3 ⟨vg, lg, rfl, ho3, hi3, R6, n6, rfl⟩; (have HO3 := Lib.hid ho3); (have HI3 := Lib.hid hi3); clear ho3 hi3)
            | (go_at_call 8; refine (coOpen_any (w0 := w) (g := passL2) (HD2.out.grew (by repeat (first | with_reducible exact Grew.refl _ | apply Grew.more | apply Grew.alloc | apply Grew.drew | apply Grew.drewN))) (fun W' hl _ => (hl.nodes (HI3.out) (by decide) (by decide)).at (hl.own HO3.out (by decide))) HSM.out HR2.out HR8.out (HGB.out.trans (by repeat (first | with_reducible exact Grew.refl _ | apply Grew.more | apply Grew.alloc | apply Grew.drew | apply Grew.drewN))) HX.out HPS.out).mono ?_; rintro e w4 hop; obtain ⟨hg9, v9, k9, rfl, h9⟩ := hop.one; clear hop; (have H9 := Lib.hid h9); (have HG9 := Lib.hid hg9); clear h9 hg9))
          rcases H9.out with ⟨rfl, rfl⟩ | ⟨rfl, z, bk, lg, mp, n, hs, last, ep, rfl, hst, hgh, hne, hlen⟩
          · clear H9 HGB HPS HD2 HX HD HO3 HI3 HR2 HSM HR8 HG
            go_wp2_with (first
              | (go_at_call 13; refine (coBegin_nil _).mono ?_; rintro e w1 ⟨rfl, R11, n11, rfl⟩)
              | (go_at_call 18; refine (coCommit_nil _).mono ?_; rintro e w1 ⟨rfl, R12, n12, rfl⟩)
              | (go_at_call 12; refine (coSubmit_nil s _).mono ?_; rintro e w1 ⟨rfl, R13, n13, rfl⟩)
              | (go_at_call 17; refine (coAck_nil _).mono ?_; rintro e w1 ⟨rfl, R14, n14, rfl⟩)
              | (go_at_call 27; refine (coReady_nil _).mono ?_; rintro e w1 ⟨rfl, R15, n15, rfl⟩)
              | (go_at_call 15; refine (coAbort_nil _).mono ?_; rintro e w1 ⟨rfl, R16, n16, rfl⟩)
              | (go_at_call 14; refine (coQueue_nil _).mono ?_; rintro e w1 ⟨rfl, R17, n17, rfl⟩)
              | (go_at_call 23; refine (coRefused_nil _).mono ?_; rintro e w1 ⟨rfl, R18, n18, rfl⟩)
              | (go_at_call 22; refine (coHistory_nil _).mono ?_; rintro e w1 ⟨rfl, R19, n19, rfl⟩)
              | (go_at_call 25; refine (coOut_nil _).mono ?_; rintro e w1 ⟨rfl, R20, n20, rfl⟩))
            go_ret
            exact ⟨rfl, HG9.out.trans (by repeat (first | with_reducible exact Grew.refl _ | apply Grew.more | apply Grew.alloc | apply Grew.drew | apply Grew.drewN))⟩
          · have HST := Lib.hid hst
            have HGH := Lib.hid hgh
            have HLN : Hid ((hs.flatMap (·.out)).length ≤ 450000) := Lib.hid (by have := hgh.lines; omega)
            obtain ⟨L, hL⟩ : ∃ L, hs.length = L + 1 := ⟨hs.length - 1, by have := List.length_pos_iff.2 hne; omega⟩
            have HL1 := Lib.hid hL
            have HLE : Hid (hs.length ≤ 3000) := Lib.hid hlen
            have hL3 : (L : Int) ≤ 3000 := by omega
            clear H9 HGB HPS HD2 HX HD HO3 HI3 HR2 HSM HR8 HG hst hgh hne hlen hL
            go_upto_region 16 with (go_at_call 22; refine (coHistory_any (HST.out.grew (by repeat (first | with_reducible exact Grew.refl _ | apply Grew.more | apply Grew.alloc | apply Grew.drew | apply Grew.drewN))) (by have := HLE.out; omega)).mono ?_; rintro e w5 ⟨v5, cs, rfl, ho5, hr5, R7, n7, rfl⟩; (have hcl : cs.length = L + 1 := (Rel.len hr5).trans HL1.out); obtain ⟨b5, c5, e5⟩ := own_some' ho5 (by omega); (rw [hcl] at e5; subst e5); (have HO5 := Lib.hid ho5); (have HR5 := Lib.hid hr5); (have HCL := Lib.hid hcl); clear ho5 hr5 hcl)
            have hh0 : 0 < hs.length := by rw [HL1.out]; omega
            have hc0 := hist_cell HO5.out (k := 0) (by rw [HCL.out]; omega) 0 _ rfl
            have hm0 : MfOwn 0 _ _ _ := Rel.get HR5.out 0 _ _ (List.getElem?_eq_getElem (by rw [HCL.out]; omega)) (List.getElem?_eq_getElem (by rw [HL1.out]; omega))
            have h00 := HGH.out.fst hs[0] (by rw [List.head?_eq_getElem?, List.getElem?_eq_getElem])
            rw [← hm0.epoch, h00] at hc0
            simp only [Nat.zero_mul, Nat.add_zero] at hc0
            have pb5 := Pre.ofCell hc0
            have hn0 : ((L : Int) + 1 == 0) = false := by rw [beq_eq_false_iff_ne]; omega
            clear hm0 h00 hh0
            go_wp2_with (first
              | (go_at_call 14; refine (coQueueO_any (HST.out.grew (by repeat (first | with_reducible exact Grew.refl _ | apply Grew.more | apply Grew.alloc | apply Grew.drew | apply Grew.drewN)))).mono ?_; rintro e w1 ⟨rfl, R8, n8, rfl⟩)
              | (go_at_call 23; refine (coRefusedO_any (HST.out.grew (by repeat (first | with_reducible exact Grew.refl _ | apply Grew.more | apply Grew.alloc | apply Grew.drew | apply Grew.drewN)))).mono ?_; rintro e w1 ⟨rfl, R9, n9, rfl⟩))
            clear hc0 pb5 hn0
            go_loopg [11, 96] (L + 1) (fun gg s11 s96 wr => ∃ k : Nat, (k ≤ L + 1 ∧ L + 1 - k ≤ gg) ∧ s96 = .int .i64 k ∧ s11 = .int .i64 (((hs.take k).flatMap (·.out)).length : Nat) ∧ Hid (Grew (w4.more R7 n7) wr))
            case atStart => exact ⟨0, ⟨by omega, by omega⟩, rfl, by simp, Lib.hid (by repeat (first | with_reducible exact Grew.refl _ | apply Grew.more | apply Grew.alloc | apply Grew.drew | apply Grew.drewN))⟩
            case round =>
              obtain ⟨k, ⟨hk, hgg⟩, rfl, rfl, HG⟩ := hrel
              rename World => wb
              by_cases hlt : k < L + 1
              · have hkc : k < cs.length := by rw [HCL.out]; exact hlt
                have hkh : k < hs.length := by rw [HL1.out]; exact hlt
                have hj := fun j u hu => cell_grew (hist_cell HO5.out hkc j u hu) HG.out
                have hmk : MfOwn 0 _ cs[k] hs[k] := Rel.get HR5.out k _ _ (List.getElem?_eq_getElem hkc) (List.getElem?_eq_getElem hkh)
                have hok := HST.out.ok hs[k] (List.getElem_mem hkh)
                have HTK : Hid (((hs.take (k + 1)).flatMap (·.out)).length = ((hs.take k).flatMap (·.out)).length + hs[k].out.length) := Lib.hid (by rw [List.take_succ_eq_append_getElem hkh, List.flatMap_append, List.length_append]; simp)
                have htl := take_lines hs (k + 1)
                rw [HTK.out] at htl
                have hln := HLN.out
                have hpv : ∀ j, k = j + 1 → ∃ e : Int, wb.cell? ⟨b5, j * 7, none⟩ = some (.int .i64 e) ∧ ¬ hs[k].epoch ≤ e := fun j hj => by
                  have h1 : j < cs.length := by omega
                  have h2 : j < hs.length := by omega
                  have h3 := cell_grew (hist_cell HO5.out h1 0 _ rfl) HG.out
                  have h4 : MfOwn 0 _ cs[j] hs[j] := Rel.get HR5.out j _ _ (List.getElem?_eq_getElem h1) (List.getElem?_eq_getElem h2)
                  have h5 := List.pairwise_iff_getElem.1 HGH.out.up j k h2 hkh (by omega)
                  refine ⟨hs[j].epoch, ?_, by omega⟩
                  rw [h4.epoch]
                  exact h3
                obtain ⟨⟨ep1, pl, ao, no, co, ag, ng, cg, ae, ne, ce, ax, nx, cx, ap, np, cp⟩, hcx⟩ : ∃ c, cs[k] = c := ⟨_, rfl⟩
                rw [hcx] at hj hmk
                obtain ⟨m, hmx⟩ : ∃ m, hs[k] = m := ⟨_, rfl⟩
                rw [hmx] at hmk hok HTK htl hpv
                have hnx : nx = m.out.length := by obtain ⟨_, _, e⟩ := (OwnAt.rows hmk.x encLn_len).len; exact (Value.slice.inj e).2.1
                subst hnx
                have hep : ep1 = m.epoch := hmk.epoch.symm
                subst hep
                have d0 : wb.cell? ⟨b5, k * 7, none⟩ = some (.int .i64 m.epoch) := hj 0 _ rfl
                have d1 : wb.cell? ⟨b5, k * 7 + 1, none⟩ = some (.int .i64 pl) := hj 1 _ rfl
                have d2 : wb.cell? ⟨b5, k * 7 + 2, none⟩ = some (.slice ao no co) := hj 2 _ rfl
                have d3 : wb.cell? ⟨b5, k * 7 + 3, none⟩ = some (.slice ag ng cg) := hj 3 _ rfl
                have d4 : wb.cell? ⟨b5, k * 7 + 4, none⟩ = some (.slice ae ne ce) := hj 4 _ rfl
                have d5 : wb.cell? ⟨b5, k * 7 + 5, none⟩ = some (.slice ax m.out.length cx) := hj 5 _ rfl
                have d6 : wb.cell? ⟨b5, k * 7 + 6, none⟩ = some (.slice ap np cp) := hj 6 _ rfl
                have pd := Pre.ofCell d0
                have hrb : rightB m = true := rightB_iff.2 hok.r
                have HRT := Lib.hid fun W' (g : Grew (w4.more R7 n7) W') => refRight13_any ⟨m.epoch, pl, ao, no, co, ag, ng, cg, ae, ne, ce, ax, m.out.length, cx, ap, np, cp⟩ m W' (hmk.is.grew g)
                rw [hrb] at HRT
                clear hj hmk hok hcx hmx hrb hkc hkh
                generalize ((hs.take k).flatMap (·.out)).length = t0 at *
                have hb1 : (t0 : Int) + m.out.length ≤ 9223372036854775807 := by omega
                clear htl hln
                generalize m.out.length = nx at *
                have hk3 : (k : Int) < (L : Int) + 1 := by omega
                rcases Nat.eq_zero_or_pos k with hk0 | hk0
                · subst hk0
                  simp only [Nat.zero_mul, Nat.zero_add] at d0 d1 d2 d3 d4 d5 d6 pd
                  clear hpv
                  go_upto_region 22 with fail
                  refine wp_region_seq 18 Tryz.mixed (by kernel_rfl) (by kernel_rfl) ?_
                  iterate 1
                    apply Seq.val
                    focus
                      rintro w1 u ⟨R1, n1, rfl⟩ hF
                      simp [moreFacts, Fact.more, Oper.deps, Region.binds, List.filter_cons, World.more_drew] at hF
                      simp [putFacts, Oper.deps, Region.binds, List.filter_cons, Region.dstOf, Fact.at, Act.put, World.more_drew]
                      go_wp2
                      exact ⟨by repeat (first | with_reducible exact Grew.refl _ | apply Grew.more | apply Grew.alloc | apply Grew.drew | apply Grew.drewN), rfl, _, _, rfl, rfl, rfl⟩
                  apply Seq.val
                  focus
                    rintro w1 u ⟨R1, n1, rfl⟩ hF
                    simp [moreFacts, Fact.more, Oper.deps, Region.binds, List.filter_cons, World.more_drew] at hF
                    simp [putFacts, Oper.deps, Region.binds, List.filter_cons, Region.dstOf, Fact.at, Act.put, World.more_drew]
                    go_wp2_with (first
                      | (go_at_call 24; ((with_reducible refine Calls.mono (HRT.out _ ?_) ?_)); (focus (exact HG.out.trans (by repeat (first | with_reducible exact Grew.refl _ | apply Grew.more | apply Grew.alloc | apply Grew.drew | apply Grew.drewN)))); rintro e w2 ⟨rfl, R9, n9, rfl⟩)
                      )
                    exact ⟨by repeat (first | with_reducible exact Grew.refl _ | apply Grew.more | apply Grew.alloc | apply Grew.drew | apply Grew.drewN), rfl, _, _, rfl, rfl, rfl⟩
                  iterate 16
                    apply Seq.val
                    focus
                      rintro w1 u ⟨R1, n1, rfl⟩ hF
                      simp [moreFacts, Fact.more, Oper.deps, Region.binds, List.filter_cons, World.more_drew] at hF
                      simp [putFacts, Oper.deps, Region.binds, List.filter_cons, Region.dstOf, Fact.at, Act.put, World.more_drew]
                      go_wp2
                      exact ⟨by repeat (first | with_reducible exact Grew.refl _ | apply Grew.more | apply Grew.alloc | apply Grew.drew | apply Grew.drewN), rfl, _, _, rfl, rfl, rfl⟩
                  rintro u w1 ⟨R1, n1, rfl⟩ hF
                  clear hF
                  simp [putFacts, Region.dstOf, Fact.at, Act.put, List.range_succ, World.more_drew]
                  go_wp2_with fail
                  go_roundg (L + 1 - (0 + 1))
                  case measure => omega
                  case rel => exact ⟨0 + 1, ⟨by omega, by omega⟩, by go_num, by rw [HTK.out]; simp, Lib.hid (HG.out.trans (by repeat (first | with_reducible exact Grew.refl _ | apply Grew.more | apply Grew.alloc | apply Grew.drew | apply Grew.drewN)))⟩
                · obtain ⟨j, hkj⟩ : ∃ j, k = j + 1 := ⟨k - 1, by omega⟩
                  obtain ⟨e, hpe, hpl⟩ := hpv j hkj
                  have hji : (k : Int) - 1 = (j : Int) := by omega
                  have hj2 : (j : Int) < (L : Int) + 1 := by omega
                  have hk0i : (0 : Int) < (k : Int) := by omega
                  have hlb : decide (m.epoch ≤ e) = false := decide_eq_false hpl
                  clear hpv hkj hpl
                  go_upto_region 22 with fail
                  refine wp_region_seq 18 Tryz.mixed (by kernel_rfl) (by kernel_rfl) ?_
                  iterate 1
                    apply Seq.val
                    focus
                      rintro w1 u ⟨R1, n1, rfl⟩ hF
                      simp [moreFacts, Fact.more, Oper.deps, Region.binds, List.filter_cons, World.more_drew] at hF
                      simp [putFacts, Oper.deps, Region.binds, List.filter_cons, Region.dstOf, Fact.at, Act.put, World.more_drew]
                      go_wp2
                      exact ⟨by repeat (first | with_reducible exact Grew.refl _ | apply Grew.more | apply Grew.alloc | apply Grew.drew | apply Grew.drewN), rfl, _, _, rfl, rfl, rfl⟩
                  apply Seq.val
                  focus
                    rintro w1 u ⟨R1, n1, rfl⟩ hF
                    simp [moreFacts, Fact.more, Oper.deps, Region.binds, List.filter_cons, World.more_drew] at hF
                    simp [putFacts, Oper.deps, Region.binds, List.filter_cons, Region.dstOf, Fact.at, Act.put, World.more_drew]
                    go_wp2_with (first
                      | (go_at_call 24; ((with_reducible refine Calls.mono (HRT.out _ ?_) ?_)); (focus (exact HG.out.trans (by repeat (first | with_reducible exact Grew.refl _ | apply Grew.more | apply Grew.alloc | apply Grew.drew | apply Grew.drewN)))); rintro e w2 ⟨rfl, R9, n9, rfl⟩)
                      )
                    exact ⟨by repeat (first | with_reducible exact Grew.refl _ | apply Grew.more | apply Grew.alloc | apply Grew.drew | apply Grew.drewN), rfl, _, _, rfl, rfl, rfl⟩
                  iterate 16
                    apply Seq.val
                    focus
                      rintro w1 u ⟨R1, n1, rfl⟩ hF
                      simp [moreFacts, Fact.more, Oper.deps, Region.binds, List.filter_cons, World.more_drew] at hF
                      simp [putFacts, Oper.deps, Region.binds, List.filter_cons, Region.dstOf, Fact.at, Act.put, World.more_drew]
                      go_wp2
                      exact ⟨by repeat (first | with_reducible exact Grew.refl _ | apply Grew.more | apply Grew.alloc | apply Grew.drew | apply Grew.drewN), rfl, _, _, rfl, rfl, rfl⟩
                  rintro u w1 ⟨R1, n1, rfl⟩ hF
                  clear hF
                  simp [putFacts, Region.dstOf, Fact.at, Act.put, List.range_succ, World.more_drew]
                  go_wp2_with fail
                  go_roundg (L + 1 - (k + 1))
                  case measure => omega
                  case rel => exact ⟨k + 1, ⟨by omega, by omega⟩, by go_num, by rw [HTK.out]; simp, Lib.hid (HG.out.trans (by repeat (first | with_reducible exact Grew.refl _ | apply Grew.more | apply Grew.alloc | apply Grew.drew | apply Grew.drewN)))⟩
              · obtain rfl : k = L + 1 := by omega
                have hkc : L < cs.length := by rw [HCL.out]; omega
                have hkh : L < hs.length := by rw [HL1.out]; omega
                have htk : hs.take (L + 1) = hs := List.take_of_length_le (by rw [HL1.out]; exact Nat.le_refl _)
                have heq : hs = hs.take L ++ [hs[L]] := htk.symm.trans (List.take_succ_eq_append_getElem hkh)
                rw [htk]
                have hj := fun j u hu => cell_grew (hist_cell HO5.out hkc j u hu) HG.out
                have hmk : MfOwn 0 _ cs[L] hs[L] := Rel.get HR5.out L _ _ (List.getElem?_eq_getElem hkc) (List.getElem?_eq_getElem hkh)
                have hok := HST.out.ok hs[L] (List.getElem_mem hkh)
                have hst2 : OpSt w w4 z bk lg mp n (hs.take L ++ [hs[L]]) (hs.flatMap (·.out)) last ep := (congrArg (fun x => OpSt w w4 z bk lg mp n x (hs.flatMap (·.out)) last ep) heq).mp HST.out
                have HMA := Lib.hid fun W' (g : Grew w4 W') => coMan2_any (hst2.grew g)
                have HOU := Lib.hid fun W' (g : Grew w4 W') => coOut_any (HST.out.grew g) (by have := HLN.out; omega)
                obtain ⟨⟨ep1, pl, ao, no, co, ag, ng, cg, ae, ne, ce, ax, nx, cx, ap, np, cp⟩, hcx⟩ : ∃ c, cs[L] = c := ⟨_, rfl⟩
                rw [hcx] at hj hmk
                obtain ⟨m, hmx⟩ : ∃ m, hs[L] = m := ⟨_, rfl⟩
                rw [hmx] at hmk hok HMA
                have d0 : wb.cell? ⟨b5, L * 7, none⟩ = some (.int .i64 ep1) := hj 0 _ rfl
                have d1 : wb.cell? ⟨b5, L * 7 + 1, none⟩ = some (.int .i64 pl) := hj 1 _ rfl
                have d2 : wb.cell? ⟨b5, L * 7 + 2, none⟩ = some (.slice ao no co) := hj 2 _ rfl
                have d3 : wb.cell? ⟨b5, L * 7 + 3, none⟩ = some (.slice ag ng cg) := hj 3 _ rfl
                have d4 : wb.cell? ⟨b5, L * 7 + 4, none⟩ = some (.slice ae ne ce) := hj 4 _ rfl
                have d5 : wb.cell? ⟨b5, L * 7 + 5, none⟩ = some (.slice ax nx cx) := hj 5 _ rfl
                have d6 : wb.cell? ⟨b5, L * 7 + 6, none⟩ = some (.slice ap np cp) := hj 6 _ rfl
                have pd := Pre.ofCell d0
                have HSA := Lib.hid fun W' c2 (g : Grew (w4.more R7 n7) W') (h2 : MfOwn 0 W' c2 m) => packSameM_any ⟨ep1, pl, ao, no, co, ag, ng, cg, ae, ne, ce, ax, nx, cx, ap, np, cp⟩ c2 m m W' (hmk.is.grew g) h2.is (okMfO hok) (okMfO hok)
                rw [eqMfO] at HSA
                have HGW : Hid (Grew w4 wb) := Lib.hid ((by repeat (first | with_reducible exact Grew.refl _ | apply Grew.more | apply Grew.alloc | apply Grew.drew | apply Grew.drewN) : Grew w4 (w4.more R7 n7)).trans HG.out)
                generalize (hs.flatMap (·.out)).length = tl at *
                clear hkc hkh htk heq hj hmk hok hst2 hcx hmx hlt hgg hk
                go_upto_region 26 with fail
                refine wp_region_seq 17 Tryz.mixed (by kernel_rfl) (by kernel_rfl) ?_
                iterate 2
                  apply Seq.val
                  focus
                    rintro w1 u ⟨R1, n1, rfl⟩ hF
                    simp [moreFacts, Fact.more, Oper.deps, Region.binds, List.filter_cons, World.more_drew] at hF
                    simp [putFacts, Oper.deps, Region.binds, List.filter_cons, Region.dstOf, Fact.at, Act.put, World.more_drew]
                    go_wp2
                    exact ⟨by repeat (first | with_reducible exact Grew.refl _ | apply Grew.more | apply Grew.alloc | apply Grew.drew | apply Grew.drewN), rfl, _, _, rfl, rfl, rfl⟩
                apply Seq.of (SlLen tl) (SlLen.st _)
                focus
                  rintro w1 u ⟨R1, n1, rfl⟩ hF
                  simp [moreFacts, Fact.more, Oper.deps, Region.binds, List.filter_cons, World.more_drew] at hF
                  simp [putFacts, Oper.deps, Region.binds, List.filter_cons, Region.dstOf, Fact.at, Act.put, World.more_drew]
                  go_wp2_with (first
                    | (go_at_call 25; refine (HOU.out _ (HGW.out.trans (by repeat (first | with_reducible exact Grew.refl _ | apply Grew.more | apply Grew.alloc | apply Grew.drew | apply Grew.drewN)))).mono ?_; rintro e w2 ⟨a2, c2, rfl, R3, n3, rfl⟩)
                    )
                  exact ⟨by repeat (first | with_reducible exact Grew.refl _ | apply Grew.more | apply Grew.alloc | apply Grew.drew | apply Grew.drewN), rfl, _, _, rfl, rfl, ⟨_, _, rfl⟩⟩
                apply Seq.val
                focus
                  rintro w1 u ⟨R1, n1, rfl⟩ hF
                  simp [moreFacts, Fact.more, Oper.deps, Region.binds, List.filter_cons, World.more_drew] at hF
                  simp [putFacts, Oper.deps, Region.binds, List.filter_cons, Region.dstOf, Fact.at, Act.put, World.more_drew]
                  obtain ⟨a2, c2, hu⟩ := hF; rw [hu]
                  go_wp2_with fail
                  exact ⟨by repeat (first | with_reducible exact Grew.refl _ | apply Grew.more | apply Grew.alloc | apply Grew.drew | apply Grew.drewN), rfl, _, _, rfl, rfl, rfl⟩
                iterate 9
                  apply Seq.val
                  focus
                    rintro w1 u ⟨R1, n1, rfl⟩ hF
                    simp [moreFacts, Fact.more, Oper.deps, Region.binds, List.filter_cons, World.more_drew] at hF
                    simp [putFacts, Oper.deps, Region.binds, List.filter_cons, Region.dstOf, Fact.at, Act.put, World.more_drew]
                    go_wp2
                    exact ⟨by repeat (first | with_reducible exact Grew.refl _ | apply Grew.more | apply Grew.alloc | apply Grew.drew | apply Grew.drewN), rfl, _, _, rfl, rfl, rfl⟩
                apply Seq.of (IsMf m) (IsMf.st _)
                focus
                  rintro w1 u ⟨R1, n1, rfl⟩ hF
                  simp [moreFacts, Fact.more, Oper.deps, Region.binds, List.filter_cons, World.more_drew] at hF
                  simp [putFacts, Oper.deps, Region.binds, List.filter_cons, Region.dstOf, Fact.at, Act.put, World.more_drew]
                  go_wp2_with (first
                    | (go_at_call 16; refine (HMA.out _ (HGW.out.trans (by repeat (first | with_reducible exact Grew.refl _ | apply Grew.more | apply Grew.alloc | apply Grew.drew | apply Grew.drewN)))).mono ?_; rintro e w2 ⟨c2, rfl, hm, R3, n3, rfl⟩)
                    )
                  exact ⟨by repeat (first | with_reducible exact Grew.refl _ | apply Grew.more | apply Grew.alloc | apply Grew.drew | apply Grew.drewN), rfl, _, _, rfl, rfl, ⟨c2, rfl, hm⟩⟩
                apply Seq.val
                focus
                  rintro w1 u ⟨R1, n1, rfl⟩ hF
                  simp [moreFacts, Fact.more, Oper.deps, Region.binds, List.filter_cons, World.more_drew] at hF
                  simp [putFacts, Oper.deps, Region.binds, List.filter_cons, Region.dstOf, Fact.at, Act.put, World.more_drew]
                  obtain ⟨c2, hu, hm⟩ := hF; rw [hu]; (have HMM := Lib.hid hm); clear hm hu
                  go_wp2_with (first
                    | (go_at_call 26; refine (HSA.out _ c2 (HG.out.trans (by repeat (first | with_reducible exact Grew.refl _ | apply Grew.more | apply Grew.alloc | apply Grew.drew | apply Grew.drewN))) (HMM.out.grew (by repeat (first | with_reducible exact Grew.refl _ | apply Grew.more | apply Grew.alloc | apply Grew.drew | apply Grew.drewN)))).mono ?_; rintro e w2 ⟨rfl, R3, n3, rfl⟩)
                    )
                  exact ⟨by repeat (first | with_reducible exact Grew.refl _ | apply Grew.more | apply Grew.alloc | apply Grew.drew | apply Grew.drewN), rfl, _, _, rfl, rfl, rfl⟩
                iterate 2
                  apply Seq.val
                  focus
                    rintro w1 u ⟨R1, n1, rfl⟩ hF
                    simp [moreFacts, Fact.more, Oper.deps, Region.binds, List.filter_cons, World.more_drew] at hF
                    simp [putFacts, Oper.deps, Region.binds, List.filter_cons, Region.dstOf, Fact.at, Act.put, World.more_drew]
                    go_wp2
                    exact ⟨by repeat (first | with_reducible exact Grew.refl _ | apply Grew.more | apply Grew.alloc | apply Grew.drew | apply Grew.drewN), rfl, _, _, rfl, rfl, rfl⟩
                rintro u w1 ⟨R1, n1, rfl⟩ hF
                clear hF
                simp [putFacts, Region.dstOf, Fact.at, Act.put, List.range_succ, World.more_drew]
                go_wp2_with (first
                  | (go_at_call 13; refine (coBegin_nil _).mono ?_; rintro e w1 ⟨rfl, R11, n11, rfl⟩)
                  | (go_at_call 18; refine (coCommit_nil _).mono ?_; rintro e w1 ⟨rfl, R12, n12, rfl⟩)
                  | (go_at_call 12; refine (coSubmit_nil s _).mono ?_; rintro e w1 ⟨rfl, R13, n13, rfl⟩)
                  | (go_at_call 17; refine (coAck_nil _).mono ?_; rintro e w1 ⟨rfl, R14, n14, rfl⟩)
                  | (go_at_call 27; refine (coReady_nil _).mono ?_; rintro e w1 ⟨rfl, R15, n15, rfl⟩)
                  | (go_at_call 15; refine (coAbort_nil _).mono ?_; rintro e w1 ⟨rfl, R16, n16, rfl⟩)
                  | (go_at_call 14; refine (coQueue_nil _).mono ?_; rintro e w1 ⟨rfl, R17, n17, rfl⟩)
                  | (go_at_call 23; refine (coRefused_nil _).mono ?_; rintro e w1 ⟨rfl, R18, n18, rfl⟩)
                  | (go_at_call 22; refine (coHistory_nil _).mono ?_; rintro e w1 ⟨rfl, R19, n19, rfl⟩)
                  | (go_at_call 25; refine (coOut_nil _).mono ?_; rintro e w1 ⟨rfl, R20, n20, rfl⟩))
                go_ret
                exact ⟨rfl, HG9.out.trans (HGW.out.trans (by repeat (first | with_reducible exact Grew.refl _ | apply Grew.more | apply Grew.alloc | apply Grew.drew | apply Grew.drewN)))⟩
end Go.Proofs.YtipgfjihdglocaaGreat
/-! Bytes, and manifests, as arguments. -/
namespace Go.Proofs.YtipgfjihdglocaaGreat
set_option linter.unusedSimpArgs false
set_option linter.unusedVariables false
set_option maxRecDepth 100000
open Go.RowKit Ga Go.ChangeShapes Go.WideShapes

theorem arg_mans {H : Type} {enc : TypeId × Value → H} {w : World} {v : Value} {d : DataW H} {ps : List MemPlace} {r : Reach} {b : Nat} (ho : Value.okWide Tryz.prog w r b 60 v) (h : DataW.Trod enc Tryz.prog w 0 (fun _ => true) true 60 v d ps) : ∃ l, MansAt w v l := by
  obtain ⟨l, u, h1, h2⟩ := (Opens.slice Tryz.underlying60 cells_man (by decide) opens_man).arg h
  obtain rfl := cells_slice Tryz.underlying60 ho h1
  exact ⟨l, h2⟩
end Go.Proofs.YtipgfjihdglocaaGreat
