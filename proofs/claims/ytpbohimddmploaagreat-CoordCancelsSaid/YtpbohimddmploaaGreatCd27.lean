import Derived.Test.YtpbohimddmploaaGreatCd22
set_option linter.unusedSimpArgs false
set_option linter.unusedVariables false
set_option maxRecDepth 100000
set_option maxHeartbeats 64000000
namespace Go.Proofs.YtpbohimddmploaaGreat
open Go.RowKit Ga

theorem clean49_2 (id kd par r0 r1 r2 r3 r4 r5 r6 r7 : Int) (af ap : Option Addr) (nf cf np cp : Nat) (reset : Bool) (s : Gr.Stp) (w : World) (hn : StepIs w ⟨2, ⟨id, kd, af, nf, cf, ap, np, cp, par, r0, r1, r2, r3, r4, r5, r6, r7⟩, reset⟩ s) (hs : s.nd.frm.length ≤ 1000 ∧ s.nd.prog.length ≤ 1000) : Calls Tryz.prog 108 #[.agg #[.int .i64 2, .int .i64 id, .int .i64 kd, .slice af nf cf, .slice ap np cp, .int .i64 par, .int .i64 r0, .int .i64 r1, .int .i64 r2, .int .i64 r3, .int .i64 r4, .int .i64 r5, .int .i64 r6, .int .i64 r7, .bool reset]] w (CleanGives (Gr.cleanS s) w) := by
  have hcl := hn.clean
  have HCL := Lib.hid hcl
  have HN := Lib.hid hn
  have H1 := Lib.hid fun W (g : Grew w W) => cloneInts_any _ s.nd.frm W (HN.out.nd.f.grew g) hs.1
  have H2 := Lib.hid fun W (g : Grew w W) => cloneVals_any _ s.nd.prog W (HN.out.nd.p.grew g) hs.2
  have HND := Lib.hid hn.nd
  have HS := Lib.hid hs
  have HK := Lib.hid hn.kind
  clear hn hcl hs
  go_enter Tryz.func108, Tryz.ntmps108
  go_wp2_with (go_at_call 58; refine (norm_one _ s.nd _ (NodesAt.one (HND.out.grew (by repeat (first | with_reducible exact Grew.refl _ | apply Grew.more | apply Grew.alloc | apply Grew.drew | apply Grew.drewN))) _ (by simp [World.size_alloc]) _ rfl) HS.out).mono ?_; rintro e w1 ⟨b, cap, c, rfl, hb, hn1, ho1, hg1, k0, k1, k2, k3, k4, k5, k6, k7, k8, k9, k10, k11, k12⟩; obtain ⟨q0, q1, qa, qc, qp, qq, q2, q3, q4, q5, q6, q7, q8, q9, q10, rfl⟩ := hn1.lit; simp only at k0 k1 k2 k3 k4 k5 k6 k7 k8 k9 k10 k11 k12; (have HN1 := Lib.hid hn1); (have HO1 := Lib.hid ho1); obtain ⟨R1, n1, rfl⟩ := hg1; clear hn1 ho1)
  refine bodyPost_ret (res_clean49 rfl (grew_heap ((Grew.refl _).more _ _) (heap_alloc' (heap_alloc' (heap_alloc' (heap_new_at (w.alloc _) _ _ (by simp [World.size_alloc])) _) _) _))) rfl ?_
  refine clean_made2 (c := ⟨q0, q1, qa, s.nd.frm.length, qc, qp, s.nd.prog.length, qq, q2, q3, q4, q5, q6, q7, q8, q9, q10⟩) HK.out ?_ ?_ ?_
  · exact OwnsNd.is (OwnsNd.to HO1.out (fun b hb _ => heap_more_same (by simp [World.size_alloc]) _ _ _ hb)) HN1.out
  · exact OwnsNd.low (OwnsNd.to HO1.out (fun b hb _ => heap_more_same (by simp [World.size_alloc]) _ _ _ hb)) (by simp [World.size_alloc]; omega)
  · repeat (first | with_reducible exact Grew.refl _ | apply Grew.more | apply Grew.alloc | apply Grew.drew | apply Grew.drewN)
end Go.Proofs.YtpbohimddmploaaGreat
