import Derived.Test.YtmnllmbchpebbaaGreatDoorGe32
/-! forebayref27.Plan, cut: a step that is not told, and a told step up to its line. -/
namespace Go.Proofs.YtmnllmbchpebbaaGreatDoor
set_option linter.unusedSimpArgs false
set_option linter.unusedVariables false
open Go.RowKit Ga
set_option maxRecDepth 100000

noncomputable def tail27a : Code := (Tryz.f18.body.bind (from27 7)).getD .skip
set_option maxHeartbeats 32000000 in
theorem pl_no (W : World) (Q : Exit → Act → World → Prop) (a0 : Act) (b off k n cap : Nat)  {kind id kd par r0 r1 r2 r3 r4 r5 r6 r7 : Int} {af ap : Option Addr} {nf cf np cp : Nat} {reset : Bool} {dkind did dkd dpar d0 d1 d2 d3 d4 d5 d6 d7 : Int} {daf dap : Option Addr} {dnf dcf dnp dcp : Nat} {dreset qf qe : Bool}
    (hfr : a0 = frame27 fun i => a0.tmps.getD i undef) (h00 : a0.tmps.getD 0 undef = .slice (some ⟨b, off, none⟩) n cap) (h04 : a0.tmps.getD 4 undef = .int .i64 k) (hlt : k < n) (hn6 : n ≤ 6) (hb : Pre b W) (g0 : W.cell? ⟨b, off + k * 15, none⟩ = some (.int .i64 kind)) (g1 : W.cell? ⟨b, off + k * 15 + 1, none⟩ = some (.int .i64 id)) (g2 : W.cell? ⟨b, off + k * 15 + 2, none⟩ = some (.int .i64 kd)) (g3 : W.cell? ⟨b, off + k * 15 + 3, none⟩ = some (.slice af nf cf)) (g4 : W.cell? ⟨b, off + k * 15 + 4, none⟩ = some (.slice ap np cp)) (g5 : W.cell? ⟨b, off + k * 15 + 5, none⟩ = some (.int .i64 par)) (g6 : W.cell? ⟨b, off + k * 15 + 6, none⟩ = some (.int .i64 r0)) (g7 : W.cell? ⟨b, off + k * 15 + 7, none⟩ = some (.int .i64 r1)) (g8 : W.cell? ⟨b, off + k * 15 + 8, none⟩ = some (.int .i64 r2)) (g9 : W.cell? ⟨b, off + k * 15 + 9, none⟩ = some (.int .i64 r3)) (g10 : W.cell? ⟨b, off + k * 15 + 10, none⟩ = some (.int .i64 r4)) (g11 : W.cell? ⟨b, off + k * 15 + 11, none⟩ = some (.int .i64 r5)) (g12 : W.cell? ⟨b, off + k * 15 + 12, none⟩ = some (.int .i64 r6)) (g13 : W.cell? ⟨b, off + k * 15 + 13, none⟩ = some (.int .i64 r7)) (g14 : W.cell? ⟨b, off + k * 15 + 14, none⟩ = some (.bool reset))
    (hC : ∀ W', Calls Tryz.prog 47 #[.agg #[.int .i64 kind, .int .i64 id, .int .i64 kd, .slice af nf cf, .slice ap np cp, .int .i64 par, .int .i64 r0, .int .i64 r1, .int .i64 r2, .int .i64 r3, .int .i64 r4, .int .i64 r5, .int .i64 r6, .int .i64 r7, .bool reset]] W' (Gives (.agg #[.int .i64 dkind, .int .i64 did, .int .i64 dkd, .slice daf dnf dcf, .slice dap dnp dcp, .int .i64 dpar, .int .i64 d0, .int .i64 d1, .int .i64 d2, .int .i64 d3, .int .i64 d4, .int .i64 d5, .int .i64 d6, .int .i64 d7, .bool dreset]) W'))
    (hF : ∀ W', Grew W W' → Calls Tryz.prog 48 #[.agg #[.int .i64 id, .int .i64 kd, .slice af nf cf, .slice ap np cp, .int .i64 par, .int .i64 r0, .int .i64 r1, .int .i64 r2, .int .i64 r3, .int .i64 r4, .int .i64 r5, .int .i64 r6, .int .i64 r7]] W' (Gives (.bool qf) W'))
    (hE : 1 ≤ kind ∧ kind ≤ 5 → ∀ W', Grew W W' → Calls Tryz.prog 49 #[.agg #[.int .i64 did, .int .i64 dkd, .slice daf dnf dcf, .slice dap dnp dcp, .int .i64 dpar, .int .i64 d0, .int .i64 d1, .int .i64 d2, .int .i64 d3, .int .i64 d4, .int .i64 d5, .int .i64 d6, .int .i64 d7], .agg #[.int .i64 id, .int .i64 kd, .slice af nf cf, .slice ap np cp, .int .i64 par, .int .i64 r0, .int .i64 r1, .int .i64 r2, .int .i64 r3, .int .i64 r4, .int .i64 r5, .int .i64 r6, .int .i64 r7]] W' (Gives (.bool qe) W')) (hok : ¬ ((1 ≤ kind ∧ kind ≤ 5) ∧ qf = true ∧ dreset = reset ∧ qe = true))
    (hret : ∀ a' w', a'.tmps.getD 2 undef = .string ⟨#[]⟩ → a'.defers = [] → Grew W w' → Q .ret a' w') :
    Code.wp Tryz.prog tail27a Q a0 W := by
  obtain ⟨u, hu⟩ : ∃ u : Nat → Value, u = fun i => a0.tmps.getD i undef := ⟨_, rfl⟩
  rw [← hu] at hfr
  have u0 : u 0 = _ := (congrFun hu 0).trans h00
  have u4 : u 4 = _ := (congrFun hu 4).trans h04
  clear hu h00 h04
  subst hfr
  conv => arg 2; whnf
  unfold frame27
  rw [u0, u4]
  clear u0 u4
  let BP : Prop := ∀ R x a w, bodyPost Tryz.prog Tryz.f18 R x a w
  have HC := Lib.hid hC
  have HF := Lib.hid hF
  clear hC hF
  have HED := Lib.hid hE
  have HOK := Lib.hid hok
  have HQ := Lib.hid hret
  clear hE hok hret
  go_upto_region 10 with (first
    | (go_at_call 47; refine (HC.out _).mono ?_; rintro e w1 ⟨rfl, R1, n1, rfl⟩))
  go_cut [57] (fun s57 wx => s57 = .bool true ∧ Grew ((((W.alloc (.cells #[.int .i64 kind, .int .i64 id, .int .i64 kd, .slice af nf cf, .slice ap np cp, .int .i64 par, .int .i64 r0, .int .i64 r1, .int .i64 r2, .int .i64 r3, .int .i64 r4, .int .i64 r5, .int .i64 r6, .int .i64 r7, .bool reset] 44)).alloc (.cells #[.int .i64 id, .int .i64 kd, .slice af nf cf, .slice ap np cp, .int .i64 par, .int .i64 r0, .int .i64 r1, .int .i64 r2, .int .i64 r3, .int .i64 r4, .int .i64 r5, .int .i64 r6, .int .i64 r7] 42)).more R1 n1).alloc (.cells #[.int .i64 dkind, .int .i64 did, .int .i64 dkd, .slice daf dnf dcf, .slice dap dnp dcp, .int .i64 dpar, .int .i64 d0, .int .i64 d1, .int .i64 d2, .int .i64 d3, .int .i64 d4, .int .i64 d5, .int .i64 d6, .int .i64 d7, .bool dreset] 44)) wx)
  case first =>
    by_cases k2 : kind < 1
    · clear HED HOK HF
      go_wp2_with fail
      go_meet
      exact ⟨rfl, by repeat (first | with_reducible exact Grew.refl _ | apply Grew.more | apply Grew.alloc | apply Grew.drew | apply Grew.drewN)⟩
    by_cases k3 : 5 < kind
    · clear HED HOK HF
      go_wp2_with fail
      go_meet
      exact ⟨rfl, by repeat (first | with_reducible exact Grew.refl _ | apply Grew.more | apply Grew.alloc | apply Grew.drew | apply Grew.drewN)⟩
    have e2 := HED.out ⟨by omega, by omega⟩
    have HE := Lib.hid e2
    cases qf
    · clear HED HOK e2 HE
      go_wp2_with (first
    | (go_at_call 48; refine (HF.out _ (by repeat (first | with_reducible exact Grew.refl _ | apply Grew.more | apply Grew.alloc | apply Grew.drew | apply Grew.drewN))).mono ?_; rintro e w1 ⟨rfl, R2, n2, rfl⟩))
      go_meet
      exact ⟨rfl, by repeat (first | with_reducible exact Grew.refl _ | apply Grew.more | apply Grew.alloc | apply Grew.drew | apply Grew.drewN)⟩
    by_cases hr : dreset = reset
    · subst hr
      cases qe
      · clear HED HOK e2
        go_wp2_with (first
    | (go_at_call 48; refine (HF.out _ (by repeat (first | with_reducible exact Grew.refl _ | apply Grew.more | apply Grew.alloc | apply Grew.drew | apply Grew.drewN))).mono ?_; rintro e w1 ⟨rfl, R2, n2, rfl⟩)
    | (go_at_call 49; refine (HE.out _ (by repeat (first | with_reducible exact Grew.refl _ | apply Grew.more | apply Grew.alloc | apply Grew.drew | apply Grew.drewN))).mono ?_; rintro e w1 ⟨rfl, R3, n3, rfl⟩))
        go_meet
        exact ⟨rfl, by repeat (first | with_reducible exact Grew.refl _ | apply Grew.more | apply Grew.alloc | apply Grew.drew | apply Grew.drewN)⟩
      · exact absurd ⟨⟨by omega, by omega⟩, rfl, rfl, rfl⟩ HOK.out
    · clear HED HOK e2 HE
      cases dreset <;> cases reset
      · exact absurd rfl hr
      · clear hr
        go_wp2_with (first
    | (go_at_call 48; refine (HF.out _ (by repeat (first | with_reducible exact Grew.refl _ | apply Grew.more | apply Grew.alloc | apply Grew.drew | apply Grew.drewN))).mono ?_; rintro e w1 ⟨rfl, R2, n2, rfl⟩))
        go_meet
        exact ⟨rfl, by repeat (first | with_reducible exact Grew.refl _ | apply Grew.more | apply Grew.alloc | apply Grew.drew | apply Grew.drewN)⟩
      · clear hr
        go_wp2_with (first
    | (go_at_call 48; refine (HF.out _ (by repeat (first | with_reducible exact Grew.refl _ | apply Grew.more | apply Grew.alloc | apply Grew.drew | apply Grew.drewN))).mono ?_; rintro e w1 ⟨rfl, R2, n2, rfl⟩))
        go_meet
        exact ⟨rfl, by repeat (first | with_reducible exact Grew.refl _ | apply Grew.more | apply Grew.alloc | apply Grew.drew | apply Grew.drewN)⟩
      · exact absurd rfl hr
  case rest =>
    obtain ⟨rfl, R9, N9, rfl⟩ := hcut
    go_wp2_with fail
    exact HQ.out _ _ rfl rfl (by repeat (first | with_reducible exact Grew.refl _ | apply Grew.more | apply Grew.alloc | apply Grew.drew | apply Grew.drewN))
end Go.Proofs.YtmnllmbchpebbaaGreatDoor
