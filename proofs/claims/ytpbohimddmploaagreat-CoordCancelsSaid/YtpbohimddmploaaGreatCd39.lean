import Derived.Test.YtpbohimddmploaaGreatCd36
import Derived.Deep.QuietTactic
import Derived.BigQuiet
import Derived.Deep.LoopGhost
set_option linter.unusedSimpArgs false
set_option linter.unusedVariables false
set_option maxRecDepth 100000
set_option maxHeartbeats 64000000
namespace Go.Proofs.YtpbohimddmploaaGreat
open Go.RowKit Ga

def IsSt (z : Gr.Stp) (v : Value) (w : World) : Prop := ∃ d : StC, v = .agg #[.int .i64 d.kind, .int .i64 d.c.id, .int .i64 d.c.kind, .slice d.c.af d.c.nf d.c.cf, .slice d.c.ap d.c.np d.c.cp, .int .i64 d.c.par, .int .i64 d.c.r0, .int .i64 d.c.r1, .int .i64 d.c.r2, .int .i64 d.c.r3, .int .i64 d.c.r4, .int .i64 d.c.r5, .int .i64 d.c.r6, .int .i64 d.c.r7, .bool d.reset] ∧ StepIs w d z
theorem IsSt.st (z : Gr.Stp) : ∀ v w w', IsSt z v w → Grew w w' → IsSt z v w' := fun _ _ _ ⟨d, h1, h2⟩ g => ⟨d, h1, h2.grew g⟩
theorem setNd15 {W : World} {q : Nat} {t : TypeId} {u0 u1 u2 u3 u4 u5 u6 u7 u8 u9 u10 u11 u12 u13 u14 : Value} (h : W.heap[q]? = some (.cells #[u0, u1, u2, u3, u4, u5, u6, u7, u8, u9, u10, u11, u12, u13, u14] t)) (v1 v2 v3 v4 v5 v6 v7 v8 v9 v10 v11 v12 v13 : Value) : (((((((((((((W.setCell ⟨q, 1, none⟩ v1).setCell ⟨q, 2, none⟩ v2).setCell ⟨q, 3, none⟩ v3).setCell ⟨q, 4, none⟩ v4).setCell ⟨q, 5, none⟩ v5).setCell ⟨q, 6, none⟩ v6).setCell ⟨q, 7, none⟩ v7).setCell ⟨q, 8, none⟩ v8).setCell ⟨q, 9, none⟩ v9).setCell ⟨q, 10, none⟩ v10).setCell ⟨q, 11, none⟩ v11).setCell ⟨q, 12, none⟩ v12).setCell ⟨q, 13, none⟩ v13).heap[q]? = some (.cells #[u0, v1, v2, v3, v4, v5, v6, v7, v8, v9, v10, v11, v12, v13, u14] t) := by
  have h1 := set_self (o := 1) (v := v1) h
  simp at h1
  have h2 := set_self (o := 2) (v := v2) h1
  simp at h2
  have h3 := set_self (o := 3) (v := v3) h2
  simp at h3
  have h4 := set_self (o := 4) (v := v4) h3
  simp at h4
  have h5 := set_self (o := 5) (v := v5) h4
  simp at h5
  have h6 := set_self (o := 6) (v := v6) h5
  simp at h6
  have h7 := set_self (o := 7) (v := v7) h6
  simp at h7
  have h8 := set_self (o := 8) (v := v8) h7
  simp at h8
  have h9 := set_self (o := 9) (v := v9) h8
  simp at h9
  have h10 := set_self (o := 10) (v := v10) h9
  simp at h10
  have h11 := set_self (o := 11) (v := v11) h10
  simp at h11
  have h12 := set_self (o := 12) (v := v12) h11
  simp at h12
  have h13 := set_self (o := 13) (v := v13) h12
  simp at h13
  exact h13
def GetPlOwn (r : List Gr.Stp × Int) (w : World) (e : Ending) (w' : World) : Prop := ∃ v lc, e = .returned (.tuple #[v, .int .i64 r.2]) ∧ StepsOwn w.heap.size w' v lc ∧ StepsIn w.heap.size w' lc r.1 ∧ Grew w w'
theorem getPlanO_any (s : List UInt8) (w : World) (hs : s.length ≤ 100000) : Calls Tryz.prog 46 #[.string ⟨s.toArray⟩] w (GetPlOwn (Gr.getPl getL s) w) := by
  obtain ⟨l, ⟨z, x⟩, hg⟩ : ∃ l t, Gr.planS getL s = (l, t) := ⟨_, _, rfl⟩
  rw [getPl_end hg]
  obtain ⟨res, hres⟩ : ∃ r, (if endE (z, x) (cleanB l) = 0 then (l, 0) else (([] : List Gr.Stp), endE (z, x) (cleanB l))) = r := ⟨_, rfl⟩
  rw [hres]
  have HRES := Lib.hid hres
  clear hres
  have hr := numS_upto (a := 1) (b := 6) (s, 0) (by decide) (by decide)
  have hl0 := numS_len 1 6 (s, 0)
  have hN := fun W h g => rdNum_any w (w.heap.size + 1) w.heap.size (s, 0) 1 6 W h g (by simpa using Nat.le_trans hs (by decide))
  unfold Gr.planS at hg
  generalize Gr.numS 1 6 (s, 0) = r at *
  obtain ⟨n, s1⟩ := r
  simp only at hN hr hl0 hg
  obtain ⟨N, rfl⟩ : ∃ N : Nat, n = N := ⟨n.toNat, by omega⟩
  rw [Int.toNat_natCast] at hg
  have hN6 : N ≤ 6 := by omega
  have HN := Lib.hid hN
  have HGG := Lib.hid hg
  have HRD := Lib.hid (rd_new w s)
  clear hN hg hr
  go_enter Tryz.func46, Tryz.ntmps46
  go_wp2_with fail
  refine (octNew_any s _).mono ?_
  rintro e w1 ⟨rfl, rfl⟩
  go_wp2_with fail
  refine (HN.out _ HRD.out (by repeat (first | with_reducible exact Grew.refl _ | apply Grew.more | apply Grew.alloc | apply Grew.drew | apply Grew.drewN))).mono ?_
  rintro e w1 ⟨rfl, hr1, hg1, hk1⟩
  have HR1 := Lib.hid hr1
  have HG1 := Lib.hid hg1
  clear hr1 hg1 hk1
  go_wp2
  go_loopg [5, 6, 15] N (fun gg s5 s6 s15 wr => ∃ (k : Nat) (vk : Value) (lc : List StC), k ≤ N ∧ N - k ≤ gg ∧ s15 = .int .i64 k ∧ vk = s5 ∧ s6 = .bool (cleanB (Gr.stepsS getL k s1).1) ∧ Hid (StepsOwn w.heap.size wr vk lc) ∧ Hid (StepsIn w.heap.size wr lc (Gr.stepsS getL k s1).1) ∧ Hid (RdAt w.heap.size (w.heap.size + 1) w.heap.size wr (Gr.stepsS getL k s1).2) ∧ Hid (Grew w wr))
  case atStart => exact ⟨0, _, [], Nat.zero_le _, by omega, rfl, rfl, by rw [show (Gr.stepsS getL 0 s1).1 = [] from rfl, cleanB_nil], Lib.hid (OwnAt.nil _), Lib.hid trivial, HR1, HG1⟩
  case round =>
    obtain ⟨k, vk, lc, hk, hgg, rfl, rfl, rfl, HO, HI, HR, HG⟩ := hrel
    obtain ⟨hl1, hl2⟩ := stepsS_len k s1
    have hlc := Rel.len HI.out
    rw [hl1] at hlc
    by_cases hlt : k < N
    · have hsc := stepsS_succ k s1
      have hsm := stepS_small (Gr.stepsS getL k s1).2
      have hcl := cleanB_snoc (Gr.stepsS getL k s1).1 (Gr.stepS getL (Gr.stepsS getL k s1).2).1
      generalize hLS : Gr.stepsS getL k s1 = LS at *
      obtain ⟨ls, sr⟩ := LS
      simp only at hl1 hl2 hsc hsm hcl HI HR ⊢
      have n1 := rdNum_any w (w.heap.size + 1) w.heap.size sr 1 5
      have z1 := numS_len 1 5 sr
      obtain ⟨kd, sa, e1⟩ : ∃ x t, Gr.numS 1 5 sr = (x, t) := ⟨_, _, rfl⟩
      rw [e1] at n1 z1
      have n2 := rdNum_any w (w.heap.size + 1) w.heap.size sa 0 1
      have z2 := numS_len 0 1 sa
      obtain ⟨rs, sb, e2⟩ : ∃ x t, Gr.numS 0 1 sa = (x, t) := ⟨_, _, rfl⟩
      rw [e2] at n2 z2
      have n3 := rdNode_any w (w.heap.size + 1) w.heap.size sb 0 (.inl (by decide))
      obtain ⟨nd, sc, e3⟩ : ∃ x t, Gr.nodeS getL 0 sb = (x, t) := ⟨_, _, rfl⟩
      rw [e3] at n3
      have hst : Gr.stepS getL sr = (⟨kd, nd, rs == 1⟩, sc) := by unfold Gr.stepS; simp only [e1, e2, e3]
      rw [hst] at hsc hsm hcl
      simp only at n1 n2 n3 z1 z2 hsc hsm hcl
      have N1 := Lib.hid n1
      have N2 := Lib.hid n2
      have N3 := Lib.hid n3
      have HSC := Lib.hid hsc
      have HSM := Lib.hid hsm
      have HCL := Lib.hid hcl
      have HLC := Lib.hid hlc
      have HLS := Lib.hid hLS
      have hBlt := heap_lt HR.out.2.2.2
      have hAlt := heap_lt HR.out.2.1
      obtain ⟨ak, ck, rfl⟩ := (OwnAt.rows HO.out encSt_len).len
      clear n1 n2 n3 hsc hsm hcl hlc e1 e2 e3 hst hl1 hLS
      go_wp2_with fail
      refine (N1.out _ HR.out HG.out (by omega)).mono ?_
      rintro e W1 ⟨rfl, r1, g1, k1⟩
      have R1 := Lib.hid r1
      have G1 := Lib.hid g1
      have K1 := Lib.hid k1
      clear r1 g1 k1
      go_wp2_with fail
      refine (N2.out _ R1.out G1.out (by omega)).mono ?_
      rintro e W2 ⟨rfl, r2, g2, k2⟩
      have R2 := Lib.hid r2
      have G2 := Lib.hid g2
      have K2 := Lib.hid (K1.out.trans k2)
      have y2 := K2.out.1
      clear r2 g2 k2
      have H5 := Lib.hid (heap_new_at W2 (.cells #[.int .i64 kd, .int .i64 0, .int .i64 0, .slice none 0 0, .slice none 0 0, .int .i64 0, .int .i64 0, .int .i64 0, .int .i64 0, .int .i64 0, .int .i64 0, .int .i64 0, .int .i64 0, .int .i64 0, .bool (rs == 1)] 73) _ rfl)
      go_wp2_with fail
      refine (N3.out _ (R2.out.grew (by repeat (first | with_reducible exact Grew.refl _ | apply Grew.more | apply Grew.alloc | apply Grew.drew | apply Grew.drewN))) (G2.out.trans (by repeat (first | with_reducible exact Grew.refl _ | apply Grew.more | apply Grew.alloc | apply Grew.drew | apply Grew.drewN))) (by omega)).mono ?_
      rintro e W3 ⟨c9, rfl, hn9, ho9, rd3, g3, k3⟩
      obtain ⟨id, knd, af, cf, ap, cp, par, r0, r1, r2, r3, r4, r5, r6, r7, rfl⟩ := hn9.lit
      have hTA : W2.heap.size ≠ (w.heap.size + 1) := by omega
      have hTB : W2.heap.size ≠ w.heap.size := by omega
      have h53 := k3.2 W2.heap.size (by rw [World.size_alloc]; omega) hTA hTB
      rw [H5.out] at h53
      have q0 := cell_of (o := 0) h53
      have f0 := frozen_of (o := 0) h53
      have q1 := cell_of (o := 1) h53
      have f1 := frozen_of (o := 1) h53
      have q2 := cell_of (o := 2) h53
      have f2 := frozen_of (o := 2) h53
      have q3 := cell_of (o := 3) h53
      have f3 := frozen_of (o := 3) h53
      have q4 := cell_of (o := 4) h53
      have f4 := frozen_of (o := 4) h53
      have q5 := cell_of (o := 5) h53
      have f5 := frozen_of (o := 5) h53
      have q6 := cell_of (o := 6) h53
      have f6 := frozen_of (o := 6) h53
      have q7 := cell_of (o := 7) h53
      have f7 := frozen_of (o := 7) h53
      have q8 := cell_of (o := 8) h53
      have f8 := frozen_of (o := 8) h53
      have q9 := cell_of (o := 9) h53
      have f9 := frozen_of (o := 9) h53
      have q10 := cell_of (o := 10) h53
      have f10 := frozen_of (o := 10) h53
      have q11 := cell_of (o := 11) h53
      have f11 := frozen_of (o := 11) h53
      have q12 := cell_of (o := 12) h53
      have f12 := frozen_of (o := 12) h53
      have q13 := cell_of (o := 13) h53
      have f13 := frozen_of (o := 13) h53
      have q14 := cell_of (o := 14) h53
      have f14 := frozen_of (o := 14) h53
      simp at q0 q1 q2 q3 q4 q5 q6 q7 q8 q9 q10 q11 q12 q13 q14
      have p3 := Pre.mk (heap_lt h53)
      have hT0 : w.heap.size ≤ W2.heap.size := G2.out.below.size
      obtain ⟨W4, hW4⟩ : ∃ W4, (((((((((((((W3.setCell ⟨W2.heap.size, 1, none⟩ (.int .i64 id)).setCell ⟨W2.heap.size, 2, none⟩ (.int .i64 knd)).setCell ⟨W2.heap.size, 3, none⟩ (.slice af nd.frm.length cf)).setCell ⟨W2.heap.size, 4, none⟩ (.slice ap nd.prog.length cp)).setCell ⟨W2.heap.size, 5, none⟩ (.int .i64 par)).setCell ⟨W2.heap.size, 6, none⟩ (.int .i64 r0)).setCell ⟨W2.heap.size, 7, none⟩ (.int .i64 r1)).setCell ⟨W2.heap.size, 8, none⟩ (.int .i64 r2)).setCell ⟨W2.heap.size, 9, none⟩ (.int .i64 r3)).setCell ⟨W2.heap.size, 10, none⟩ (.int .i64 r4)).setCell ⟨W2.heap.size, 11, none⟩ (.int .i64 r5)).setCell ⟨W2.heap.size, 12, none⟩ (.int .i64 r6)).setCell ⟨W2.heap.size, 13, none⟩ (.int .i64 r7)) = W4 := ⟨_, rfl⟩
      have hT4 : W4.heap[W2.heap.size]? = some (.cells #[.int .i64 kd, .int .i64 id, .int .i64 knd, .slice af nd.frm.length cf, .slice ap nd.prog.length cp, .int .i64 par, .int .i64 r0, .int .i64 r1, .int .i64 r2, .int .i64 r3, .int .i64 r4, .int .i64 r5, .int .i64 r6, .int .i64 r7, .bool (rs == 1)] 73) := by
        rw [← hW4]
        exact setNd15 h53 _ _ _ _ _ _ _ _ _ _ _ _ _
      have hbut : But W2.heap.size W3 W4 := by
        intro q hq
        rw [← hW4]
        iterate 13 rw [set_other (fun e => hq e.symm)]
      have g4 : Grew w W4 := by
        rw [← hW4]
        iterate 13 refine Grew.set ?_ hT0 _
        exact g3
      have G4 := Lib.hid g4
      have HW4 := Lib.hid hW4
      have HT4 := Lib.hid hT4
      have hO3 := OwnAt.keep2 HO.out (K2.out.trans ((Keep2.ofGrew (by repeat (first | with_reducible exact Grew.refl _ | apply Grew.more | apply Grew.alloc | apply Grew.drew | apply Grew.drewN))).trans k3)) HR.out
      have hI3 := HI.out.keep2 (K2.out.trans ((Keep2.ofGrew (by repeat (first | with_reducible exact Grew.refl _ | apply Grew.more | apply Grew.alloc | apply Grew.drew | apply Grew.drewN))).trans k3)) HR.out
      have O4 := Lib.hid (OwnAt.butNe hO3 hbut (fun h => by have := OwnAt.block HO.out h; obtain ⟨_, _, h9⟩ := this; have := heap_lt h9; omega))
      have I4 := Lib.hid (hI3.map fun _ _ o => o.but hbut h53)
      have R4 := Lib.hid (RdAt.but rd3 hbut (fun e => hTA e.symm) (fun e => hTB e.symm))
      have ON4 : Hid (OwnsNd w.heap.size W4 ⟨id, knd, af, nd.frm.length, cf, ap, nd.prog.length, cp, par, r0, r1, r2, r3, r4, r5, r6, r7⟩ (Gr.Stp.mk kd nd (rs == 1)).nd) := Lib.hid (OwnsNd.low (base' := w.heap.size) (ho9.but hbut h53) (by rw [World.size_alloc]; omega))
      have N4 : Hid (StepIs W4 ⟨kd, ⟨id, knd, af, nd.frm.length, cf, ap, nd.prog.length, cp, par, r0, r1, r2, r3, r4, r5, r6, r7⟩, rs == 1⟩ ⟨kd, nd, rs == 1⟩) := Lib.hid ⟨rfl, ON4.out.is hn9, rfl⟩
      clear hn9 ho9 rd3 g3 k3 hO3 hI3 hbut hT4 g4 h53 hW4
      go_upto_region 8 with fail
      rw [HW4.out]
      clear q0 f0 q1 f1 q2 f2 q3 f3 q4 f4 q5 f5 q6 f6 q7 f7 q8 f8 q9 f9 q10 f10 q11 f11 q12 f12 q13 f13 q14 f14 p3
      have c0 := cell_of (o := 0) HT4.out
      have c1 := cell_of (o := 1) HT4.out
      have c2 := cell_of (o := 2) HT4.out
      have c3 := cell_of (o := 3) HT4.out
      have c4 := cell_of (o := 4) HT4.out
      have c5 := cell_of (o := 5) HT4.out
      have c6 := cell_of (o := 6) HT4.out
      have c7 := cell_of (o := 7) HT4.out
      have c8 := cell_of (o := 8) HT4.out
      have c9 := cell_of (o := 9) HT4.out
      have c10 := cell_of (o := 10) HT4.out
      have c11 := cell_of (o := 11) HT4.out
      have c12 := cell_of (o := 12) HT4.out
      have c13 := cell_of (o := 13) HT4.out
      have c14 := cell_of (o := 14) HT4.out
      simp at c0 c1 c2 c3 c4 c5 c6 c7 c8 c9 c10 c11 c12 c13 c14
      have p4 := Pre.mk (heap_lt HT4.out)
      generalize hy : Gr.Stp.mk kd nd (rs == 1) = y at *
      have hsy : y.nd.frm.length ≤ 1000 ∧ y.nd.prog.length ≤ 1000 := by rw [← hy]; show nd.frm.length ≤ 1000 ∧ nd.prog.length ≤ 1000; have := HSM.out; omega
      have hsz := clean_small hsy
      have HY := Lib.hid hy
      have ON5 : Hid (OwnsNd w.heap.size W4 ⟨id, knd, af, nd.frm.length, cf, ap, nd.prog.length, cp, par, r0, r1, r2, r3, r4, r5, r6, r7⟩ y.nd) := Lib.hid (by rw [← hy]; exact ON4.out)
      have HCY := Lib.hid fun W (g : Grew W4 W) => clean49_any ⟨kd, ⟨id, knd, af, nd.frm.length, cf, ap, nd.prog.length, cp, par, r0, r1, r2, r3, r4, r5, r6, r7⟩, rs == 1⟩ y W (N4.out.grew g) hsy
      have HEX := Lib.hid fun d W (g : Grew W4 W) (h : StepIs W d (Gr.cleanS y)) => exact_any ⟨kd, ⟨id, knd, af, nd.frm.length, cf, ap, nd.prog.length, cp, par, r0, r1, r2, r3, r4, r5, r6, r7⟩, rs == 1⟩ d y (Gr.cleanS y) W (N4.out.grew g) h hsy hsz
      clear hy hsy hsz
      cases hcb : cleanB ls
      · have HCB := Lib.hid (HCL.out.trans (by rw [hcb, Bool.false_and]))
        clear hcb
        go_quiet (fail)
        go_wp2_with (at_builtin; go_loud (refine wpList_ownK (w0 := w) rfl (.tmp 33) (.tmp 35) 35 _ _ _ _ [⟨kd, ⟨id, knd, af, nd.frm.length, cf, ap, nd.prog.length, cp, par, r0, r1, r2, r3, r4, r5, r6, r7⟩, rs == 1⟩] rfl Tryz.underlying35 infoStep rfl (by decide) encSt_len encSt_one rfl (OwnAt.grew O4.out (by repeat (first | with_reducible exact Grew.refl _ | apply Grew.more | apply Grew.alloc | apply Grew.drew | apply Grew.drewN))) (G4.out.trans (by repeat (first | with_reducible exact Grew.refl _ | apply Grew.more | apply Grew.alloc | apply Grew.drew | apply Grew.drewN))) rfl (st_at _ _ _ _ rfl (by simp [go_sem])) (by rw [HLC.out]; simp; omega) (by decide) (by simp) ?_; intro v5 W5 hA; (have HA := Lib.hid hA); clear hA))
        obtain ⟨q1, q2⟩ := steps_round R4.out O4.out I4.out N4.out ON5.out (Nat.le_refl _) (by repeat (first | with_reducible exact Grew.refl _ | apply Grew.more | apply Grew.alloc | apply Grew.drew | apply Grew.drewN)) HA.out
        have Q1 := Lib.hid q1
        have Q2 := Lib.hid q2
        clear q1 q2
        go_roundg (N - (k + 1))
        case measure => omega
        case rel => exact ⟨k + 1, _, _, by omega, by omega, by go_num, rfl, by rw [HSC.out]; show Value.bool false = Value.bool (cleanB (ls ++ [y])); rw [HCB.out], Lib.hid HA.out.2.1, Lib.hid (by rw [HSC.out]; exact Q1.out), Lib.hid (by rw [HSC.out]; exact Q2.out), Lib.hid HA.out.1⟩
      · have HCB := Lib.hid (HCL.out.trans (by rw [hcb, Bool.true_and]))
        clear hcb
        refine wp_region_seq 7 Tryz.mixed (by kernel_rfl) (by kernel_rfl) ?_
        iterate 4
          apply Seq.val
          focus
            rintro w1 u ⟨R1, n1, rfl⟩ hF
            simp [moreFacts, Fact.more, Oper.deps, Region.binds, List.filter_cons, World.more_drew] at hF
            simp [putFacts, Oper.deps, Region.binds, List.filter_cons, Region.dstOf, Fact.at, Act.put, World.more_drew]
            go_wp2
            exact ⟨by repeat (first | with_reducible exact Grew.refl _ | apply Grew.more | apply Grew.alloc | apply Grew.drew | apply Grew.drewN), rfl, _, _, rfl, rfl, rfl⟩
        apply Seq.of (IsSt (Gr.cleanS y)) (IsSt.st _)
        focus
          rintro w1 u ⟨R1, n1, rfl⟩ hF
          simp [moreFacts, Fact.more, Oper.deps, Region.binds, List.filter_cons, World.more_drew] at hF
          simp [putFacts, Oper.deps, Region.binds, List.filter_cons, Region.dstOf, Fact.at, Act.put, World.more_drew]
          go_wp2_with (first
            | (go_at_call 108; refine (HCY.out _ (by repeat (first | with_reducible exact Grew.refl _ | apply Grew.more | apply Grew.alloc | apply Grew.drew | apply Grew.drewN))).mono ?_; rintro e w2 ⟨d1, rfl, h1, -, R3, n3, rfl⟩)
            )
          exact ⟨by repeat (first | with_reducible exact Grew.refl _ | apply Grew.more | apply Grew.alloc | apply Grew.drew | apply Grew.drewN), rfl, _, _, rfl, rfl, ⟨d1, rfl, h1⟩⟩
        apply Seq.val
        focus
          rintro w1 u ⟨R1, n1, rfl⟩ hF
          simp [moreFacts, Fact.more, Oper.deps, Region.binds, List.filter_cons, World.more_drew] at hF
          simp [putFacts, Oper.deps, Region.binds, List.filter_cons, Region.dstOf, Fact.at, Act.put, World.more_drew]
          obtain ⟨d, hu, hd⟩ := hF; rw [hu]
          go_wp2_with (first
            | (go_at_call 76; refine (HEX.out d _ (by repeat (first | with_reducible exact Grew.refl _ | apply Grew.more | apply Grew.alloc | apply Grew.drew | apply Grew.drewN)) hd).mono ?_; rintro e w2 ⟨rfl, R3, n3, rfl⟩)
            )
          exact ⟨by repeat (first | with_reducible exact Grew.refl _ | apply Grew.more | apply Grew.alloc | apply Grew.drew | apply Grew.drewN), rfl, _, _, rfl, rfl, rfl⟩
        iterate 1
          apply Seq.val
          focus
            rintro w1 u ⟨R1, n1, rfl⟩ hF
            simp [moreFacts, Fact.more, Oper.deps, Region.binds, List.filter_cons, World.more_drew] at hF
            simp [putFacts, Oper.deps, Region.binds, List.filter_cons, Region.dstOf, Fact.at, Act.put, World.more_drew]
            go_wp2
            exact ⟨by repeat (first | with_reducible exact Grew.refl _ | apply Grew.more | apply Grew.alloc | apply Grew.drew | apply Grew.drewN), rfl, _, _, rfl, rfl, rfl⟩
        rintro u w1 ⟨R1, n1, rfl⟩ hF
        clear hF
        simp [putFacts, Region.dstOf, Fact.at, Act.put, List.range_succ, World.more_drew]
        go_wp2_with (at_builtin; go_loud (refine wpList_ownK (w0 := w) rfl (.tmp 33) (.tmp 35) 35 _ _ _ _ [⟨kd, ⟨id, knd, af, nd.frm.length, cf, ap, nd.prog.length, cp, par, r0, r1, r2, r3, r4, r5, r6, r7⟩, rs == 1⟩] rfl Tryz.underlying35 infoStep rfl (by decide) encSt_len encSt_one rfl (OwnAt.grew O4.out (by repeat (first | with_reducible exact Grew.refl _ | apply Grew.more | apply Grew.alloc | apply Grew.drew | apply Grew.drewN))) (G4.out.trans (by repeat (first | with_reducible exact Grew.refl _ | apply Grew.more | apply Grew.alloc | apply Grew.drew | apply Grew.drewN))) rfl (st_at _ _ _ _ rfl (by simp [go_sem])) (by rw [HLC.out]; simp; omega) (by decide) (by simp) ?_; intro v5 W5 hA; (have HA := Lib.hid hA); clear hA))
        obtain ⟨q1, q2⟩ := steps_round R4.out O4.out I4.out N4.out ON5.out (Nat.le_refl _) (by repeat (first | with_reducible exact Grew.refl _ | apply Grew.more | apply Grew.alloc | apply Grew.drew | apply Grew.drewN)) HA.out
        have Q1 := Lib.hid q1
        have Q2 := Lib.hid q2
        clear q1 q2
        go_roundg (N - (k + 1))
        case measure => omega
        case rel => exact ⟨k + 1, _, _, by omega, by omega, by go_num, rfl, by rw [HSC.out]; show Value.bool _ = Value.bool (cleanB (ls ++ [y])); rw [HCB.out], Lib.hid HA.out.2.1, Lib.hid (by rw [HSC.out]; exact Q1.out), Lib.hid (by rw [HSC.out]; exact Q2.out), Lib.hid HA.out.1⟩
    · obtain rfl : k = N := by omega
      clear hlc hl1 hl2
      have hR := HR.out
      have hat := HI.out
      have hres := HRES.out
      have hg := HGG.out
      rw [hg] at hR hat ⊢
      simp only at hR hat ⊢
      have HR5 := Lib.hid hR
      have HAT := Lib.hid hat
      obtain ⟨ak, ck, rfl⟩ := (OwnAt.rows HO.out encSt_len).len
      by_cases he : endE (z, x) (cleanB l) = 0
      · rw [if_pos he] at hres
        subst hres
        have HE := Lib.hid he
        clear he hR hat hg
        go_wp2_with (go_at_call 106; refine (rdEnd_any _ _ _ (z, x) (cleanB l) _ HR5.out).mono ?_; rintro e w4 ⟨rfl, hw4⟩; obtain rfl := hw4; rw [HE.out])
        exact bodyPost_ret (v := .tuple #[.slice ak lc.length ck, .int .i64 0]) (by simp [results, Tryz.results46, go_sem]) rfl ⟨_, lc, rfl, HO.out, HAT.out, HG.out⟩
      · rw [if_neg he] at hres
        have hne : (endE (z, x) (cleanB l) != 0) = true := by rw [bne_iff_ne]; exact he
        generalize hen : endE (z, x) (cleanB l) = en at *
        subst hres
        have HEN := Lib.hid hen
        clear he hR hat hg hen
        go_wp2_with (go_at_call 106; refine (rdEnd_any _ _ _ (z, x) (cleanB l) _ HR5.out).mono ?_; rintro e w4 ⟨rfl, hw4⟩; obtain rfl := hw4; rw [HEN.out])
        exact bodyPost_ret (v := .tuple #[.slice none 0 0, .int .i64 en]) (by simp [results, Tryz.results46, go_sem]) rfl ⟨_, [], rfl, OwnAt.nil _, trivial, HG.out⟩
def GetPlPost (r : List Gr.Stp × Int) (w : World) (e : Ending) (w' : World) : Prop := ∃ v, e = .returned (.tuple #[v, .int .i64 r.2]) ∧ StepsAt w' v r.1 ∧ Grew w w'
theorem getPlan_any (s : List UInt8) (w : World) (hs : s.length ≤ 100000) : Calls Tryz.prog 46 #[.string ⟨s.toArray⟩] w (GetPlPost (Gr.getPl getL s) w) :=
  (getPlanO_any s w hs).mono fun _ _ ⟨v, _, h1, h2, h3, h4⟩ => ⟨v, h1, h3.at h2, h4⟩
end Go.Proofs.YtpbohimddmploaaGreat
