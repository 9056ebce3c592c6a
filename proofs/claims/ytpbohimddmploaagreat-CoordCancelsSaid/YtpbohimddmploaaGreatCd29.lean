import Derived.Test.YtpbohimddmploaaGreatCd22
set_option linter.unusedSimpArgs false
set_option linter.unusedVariables false
set_option maxRecDepth 100000
set_option maxHeartbeats 64000000
namespace Go.Proofs.YtpbohimddmploaaGreat
open Go.RowKit Ga

theorem clean49_1 (id kd par r0 r1 r2 r3 r4 r5 r6 r7 : Int) (af ap : Option Addr) (nf cf np cp : Nat) (reset : Bool) (s : Gr.Stp) (w : World) (hn : StepIs w ⟨1, ⟨id, kd, af, nf, cf, ap, np, cp, par, r0, r1, r2, r3, r4, r5, r6, r7⟩, reset⟩ s) (hs : s.nd.frm.length ≤ 1000 ∧ s.nd.prog.length ≤ 1000) : Calls Tryz.prog 108 #[.agg #[.int .i64 1, .int .i64 id, .int .i64 kd, .slice af nf cf, .slice ap np cp, .int .i64 par, .int .i64 r0, .int .i64 r1, .int .i64 r2, .int .i64 r3, .int .i64 r4, .int .i64 r5, .int .i64 r6, .int .i64 r7, .bool reset]] w (CleanGives (Gr.cleanS s) w) := by
  have hcl := hn.clean
  have HCL := Lib.hid hcl
  have HN := Lib.hid hn
  have H1 := Lib.hid fun W (g : Grew w W) => cloneInts_any _ s.nd.frm W (HN.out.nd.f.grew g) hs.1
  have H2 := Lib.hid fun W (g : Grew w W) => cloneVals_any _ s.nd.prog W (HN.out.nd.p.grew g) hs.2
  have HND := Lib.hid hn.nd
  have HS := Lib.hid hs
  have HK := Lib.hid hn.kind
  clear hn hcl hs
  go_enter Tryz.func108, Tryz.ntmps108
  go_upto_region 6 with fail
  go_region_held3 (fun w' => w'.cell? ⟨w.heap.size + 1 + 1, 0, none⟩ = some (.int .i64 id) ∧ w'.cell? ⟨w.heap.size + 1 + 1, 3, none⟩ = some (.slice ap np cp) ∧ w'.cell? ⟨w.heap.size, 14, none⟩ = some (.bool reset)) ((refine ⟨?_, ?_, ?_⟩ <;> simp [go_sem])) (first
    | (go_simp; go_at_call 155; refine (H2.out _ (by repeat (first | with_reducible exact Grew.refl _ | apply Grew.more | apply Grew.alloc | apply Grew.drew | apply Grew.drewN))).mono ?_; rintro e w1 ⟨v1, rfl, ho1, R3, n3, rfl⟩; obtain ⟨a1, c1, rfl⟩ := (ho1.rows encI_len).len; (have HO1 := Lib.hid ho1); clear ho1))
  all_goals
    go_wp2
    refine bodyPost_ret (res_clean49 rfl (grew_heap ((Grew.refl _).more _ _) (heap_alloc' (heap_alloc' (heap_new_at (w.alloc _) _ _ (by simp [World.size_alloc])) _) _))) rfl ?_
    refine clean_made1 HN.out (OwnAt.low (OwnAt.same HO1.out fun b hb => heap_more_same (by simp [World.size_alloc]) _ _ _ (by have := HO1.out.lt b hb; simp [World.size_alloc] at this ⊢; omega)) (by simp [World.size_alloc]; omega)) (by repeat (first | with_reducible exact Grew.refl _ | apply Grew.more | apply Grew.alloc | apply Grew.drew | apply Grew.drewN))
end Go.Proofs.YtpbohimddmploaaGreat
