import Derived.Test.YtmnllmbchpebbaaGreatDoorGe35
/-! forebayref27.Plan, cut: a told step up to its line. -/
namespace Go.Proofs.YtmnllmbchpebbaaGreatDoor
set_option linter.unusedSimpArgs false
set_option linter.unusedVariables false
open Go.RowKit Ga
set_option maxRecDepth 100000

set_option maxHeartbeats 32000000 in
theorem pl_yes (W : World) (Q : Exit → Act → World → Prop) (a0 : Act) (b off k n cap : Nat) (T pre : List UInt8) {kind id kd par r0 r1 r2 r3 r4 r5 r6 r7 : Int} {af ap : Option Addr} {nf cf np cp : Nat} {reset : Bool} {dkind did dkd dpar d0 d1 d2 d3 d4 d5 d6 d7 : Int} {daf dap : Option Addr} {dnf dcf dnp dcp : Nat} 
    (hfr : a0 = frame27 fun i => a0.tmps.getD i undef) (h00 : a0.tmps.getD 0 undef = .slice (some ⟨b, off, none⟩) n cap) (h03 : a0.tmps.getD 3 undef = str T) (h04 : a0.tmps.getD 4 undef = .int .i64 k) (hlt : k < n) (hn6 : n ≤ 6) (hb : Pre b W) (g0 : W.cell? ⟨b, off + k * 15, none⟩ = some (.int .i64 kind)) (g1 : W.cell? ⟨b, off + k * 15 + 1, none⟩ = some (.int .i64 id)) (g2 : W.cell? ⟨b, off + k * 15 + 2, none⟩ = some (.int .i64 kd)) (g3 : W.cell? ⟨b, off + k * 15 + 3, none⟩ = some (.slice af nf cf)) (g4 : W.cell? ⟨b, off + k * 15 + 4, none⟩ = some (.slice ap np cp)) (g5 : W.cell? ⟨b, off + k * 15 + 5, none⟩ = some (.int .i64 par)) (g6 : W.cell? ⟨b, off + k * 15 + 6, none⟩ = some (.int .i64 r0)) (g7 : W.cell? ⟨b, off + k * 15 + 7, none⟩ = some (.int .i64 r1)) (g8 : W.cell? ⟨b, off + k * 15 + 8, none⟩ = some (.int .i64 r2)) (g9 : W.cell? ⟨b, off + k * 15 + 9, none⟩ = some (.int .i64 r3)) (g10 : W.cell? ⟨b, off + k * 15 + 10, none⟩ = some (.int .i64 r4)) (g11 : W.cell? ⟨b, off + k * 15 + 11, none⟩ = some (.int .i64 r5)) (g12 : W.cell? ⟨b, off + k * 15 + 12, none⟩ = some (.int .i64 r6)) (g13 : W.cell? ⟨b, off + k * 15 + 13, none⟩ = some (.int .i64 r7)) (g14 : W.cell? ⟨b, off + k * 15 + 14, none⟩ = some (.bool reset))
    (hC : ∀ W', Calls Tryz.prog 47 #[.agg #[.int .i64 kind, .int .i64 id, .int .i64 kd, .slice af nf cf, .slice ap np cp, .int .i64 par, .int .i64 r0, .int .i64 r1, .int .i64 r2, .int .i64 r3, .int .i64 r4, .int .i64 r5, .int .i64 r6, .int .i64 r7, .bool reset]] W' (Gives (.agg #[.int .i64 dkind, .int .i64 did, .int .i64 dkd, .slice daf dnf dcf, .slice dap dnp dcp, .int .i64 dpar, .int .i64 d0, .int .i64 d1, .int .i64 d2, .int .i64 d3, .int .i64 d4, .int .i64 d5, .int .i64 d6, .int .i64 d7, .bool reset]) W'))
    (hF : ∀ W', Grew W W' → Calls Tryz.prog 48 #[.agg #[.int .i64 id, .int .i64 kd, .slice af nf cf, .slice ap np cp, .int .i64 par, .int .i64 r0, .int .i64 r1, .int .i64 r2, .int .i64 r3, .int .i64 r4, .int .i64 r5, .int .i64 r6, .int .i64 r7]] W' (Gives (.bool true) W'))
    (hE : ∀ W', Grew W W' → Calls Tryz.prog 49 #[.agg #[.int .i64 did, .int .i64 dkd, .slice daf dnf dcf, .slice dap dnp dcp, .int .i64 dpar, .int .i64 d0, .int .i64 d1, .int .i64 d2, .int .i64 d3, .int .i64 d4, .int .i64 d5, .int .i64 d6, .int .i64 d7], .agg #[.int .i64 id, .int .i64 kd, .slice af nf cf, .slice ap np cp, .int .i64 par, .int .i64 r0, .int .i64 r1, .int .i64 r2, .int .i64 r3, .int .i64 r4, .int .i64 r5, .int .i64 r6, .int .i64 r7]] W' (Gives (.bool true) W')) (k2 : 1 ≤ kind) (k3 : kind ≤ 5) (hTl : T.length ≤ 8000) (hPR : k = 0 → pre = []) (hPS : 0 < k → pre = T ++ Li.between) (hT0 : k = 0 → T = [])
    (hnext : ∀ a' w', a' = frame27 (fun i => a'.tmps.getD i undef) → a'.tmps.getD 0 undef = .slice (some ⟨b, off, none⟩) n cap → a'.tmps.getD 3 undef = str pre → a'.tmps.getD 4 undef = .int .i64 k → a'.tmps.getD 5 undef = .pointer (some ⟨W.heap.size, 0, none⟩) → a'.tmps.getD 6 undef = .pointer (some ⟨W.heap.size + 1, 0, none⟩) → w'.heap[W.heap.size]? = some (.cells #[.int .i64 kind, .int .i64 id, .int .i64 kd, .slice af nf cf, .slice ap np cp, .int .i64 par, .int .i64 r0, .int .i64 r1, .int .i64 r2, .int .i64 r3, .int .i64 r4, .int .i64 r5, .int .i64 r6, .int .i64 r7, .bool reset] 44) → w'.heap[W.heap.size + 1]? = some (.cells #[.int .i64 id, .int .i64 kd, .slice af nf cf, .slice ap np cp, .int .i64 par, .int .i64 r0, .int .i64 r1, .int .i64 r2, .int .i64 r3, .int .i64 r4, .int .i64 r5, .int .i64 r6, .int .i64 r7] 42) → Grew W w' → Code.wp Tryz.prog tail27 Q a' w') :
    Code.wp Tryz.prog tail27a Q a0 W := by
  obtain ⟨u, hu⟩ : ∃ u : Nat → Value, u = fun i => a0.tmps.getD i undef := ⟨_, rfl⟩
  rw [← hu] at hfr
  have u0 : u 0 = _ := (congrFun hu 0).trans h00
  have u3 : u 3 = _ := (congrFun hu 3).trans h03
  have u4 : u 4 = _ := (congrFun hu 4).trans h04
  clear hu h00 h03 h04
  subst hfr
  conv => arg 2; whnf
  unfold frame27
  rw [u0, u3, u4]
  clear u0 u3 u4
  let BP : Prop := ∀ R x a w, bodyPost Tryz.prog Tryz.f18 R x a w
  have HC := Lib.hid hC
  have HF := Lib.hid hF
  clear hC hF
  have HE := Lib.hid hE
  have HPR := Lib.hid hPR
  have HPS := Lib.hid hPS
  have HT0 := Lib.hid hT0
  have HQ := Lib.hid hnext
  clear hE hPR hPS hT0 hnext
  go_upto_region 10 with (first
      | (go_at_call 47; refine (HC.out _).mono ?_; rintro e w1 ⟨rfl, R1, n1, rfl⟩))
  go_cut [57] (fun s57 wx => s57 = .bool false ∧ Grew ((((W.alloc (.cells #[.int .i64 kind, .int .i64 id, .int .i64 kd, .slice af nf cf, .slice ap np cp, .int .i64 par, .int .i64 r0, .int .i64 r1, .int .i64 r2, .int .i64 r3, .int .i64 r4, .int .i64 r5, .int .i64 r6, .int .i64 r7, .bool reset] 44)).alloc (.cells #[.int .i64 id, .int .i64 kd, .slice af nf cf, .slice ap np cp, .int .i64 par, .int .i64 r0, .int .i64 r1, .int .i64 r2, .int .i64 r3, .int .i64 r4, .int .i64 r5, .int .i64 r6, .int .i64 r7] 42)).more R1 n1).alloc (.cells #[.int .i64 dkind, .int .i64 did, .int .i64 dkd, .slice daf dnf dcf, .slice dap dnp dcp, .int .i64 dpar, .int .i64 d0, .int .i64 d1, .int .i64 d2, .int .i64 d3, .int .i64 d4, .int .i64 d5, .int .i64 d6, .int .i64 d7, .bool reset] 44)) wx)
  case first =>
    go_wp2_with (first
      | (go_at_call 48; refine (HF.out _ (by repeat (first | with_reducible exact Grew.refl _ | apply Grew.more | apply Grew.alloc | apply Grew.drew | apply Grew.drewN))).mono ?_; rintro e w1 ⟨rfl, R2, n2, rfl⟩)
      | (go_at_call 49; refine (HE.out _ (by repeat (first | with_reducible exact Grew.refl _ | apply Grew.more | apply Grew.alloc | apply Grew.drew | apply Grew.drewN))).mono ?_; rintro e w1 ⟨rfl, R3, n3, rfl⟩))
    go_meet
    exact ⟨by rw [decide_eq_false (show ¬ kind < 1 by omega), decide_eq_false (show ¬ 5 < kind by omega)]; rfl, by repeat (first | with_reducible exact Grew.refl _ | apply Grew.more | apply Grew.alloc | apply Grew.drew | apply Grew.drewN)⟩
  case rest =>
  obtain ⟨rfl, R9, N9, rfl⟩ := hcut
  go_upto_if 59 with fail
  go_cut [3] (fun s3 wx => s3 = str pre ∧ Grew (((((W.alloc (.cells #[.int .i64 kind, .int .i64 id, .int .i64 kd, .slice af nf cf, .slice ap np cp, .int .i64 par, .int .i64 r0, .int .i64 r1, .int .i64 r2, .int .i64 r3, .int .i64 r4, .int .i64 r5, .int .i64 r6, .int .i64 r7, .bool reset] 44)).alloc (.cells #[.int .i64 id, .int .i64 kd, .slice af nf cf, .slice ap np cp, .int .i64 par, .int .i64 r0, .int .i64 r1, .int .i64 r2, .int .i64 r3, .int .i64 r4, .int .i64 r5, .int .i64 r6, .int .i64 r7] 42)).more R1 n1).alloc (.cells #[.int .i64 dkind, .int .i64 did, .int .i64 dkd, .slice daf dnf dcf, .slice dap dnp dcp, .int .i64 dpar, .int .i64 d0, .int .i64 d1, .int .i64 d2, .int .i64 d3, .int .i64 d4, .int .i64 d5, .int .i64 d6, .int .i64 d7, .bool reset] 44)).more R9 N9) wx)
  case first =>
    by_cases hk0 : 0 < k
    · have HP := Lib.hid (HPS.out hk0)
      go_wp2_with fail
      go_meet
      exact ⟨by rw [HP.out]; exact congrArg Value.string (by simp [str_cat, Li.between]), by repeat (first | with_reducible exact Grew.refl _ | apply Grew.more | apply Grew.alloc | apply Grew.drew | apply Grew.drewN)⟩
    · have e0 : k = 0 := by omega
      have HP := Lib.hid (HPR.out e0)
      have eT := HT0.out e0
      subst e0 eT
      go_wp2_with fail
      go_meet
      exact ⟨by rw [HP.out], by repeat (first | with_reducible exact Grew.refl _ | apply Grew.more | apply Grew.alloc | apply Grew.drew | apply Grew.drewN)⟩
  case rest =>
  obtain ⟨rfl, R10, N10, rfl⟩ := hcut
  iterate 1 go_step
  show Code.wp Tryz.prog tail27 Q _ _
  exact HQ.out _ _ rfl rfl rfl rfl rfl rfl (grew_heap (by repeat (first | with_reducible exact Grew.refl _ | apply Grew.more | apply Grew.alloc | apply Grew.drew | apply Grew.drewN)) (heap_new_at W _ _ rfl)) (grew_heap (by repeat (first | with_reducible exact Grew.refl _ | apply Grew.more | apply Grew.alloc | apply Grew.drew | apply Grew.drewN)) (heap_new_at (W.alloc _) _ _ (by simp [World.size_alloc]))) (by repeat (first | with_reducible exact Grew.refl _ | apply Grew.more | apply Grew.alloc | apply Grew.drew | apply Grew.drewN))
end Go.Proofs.YtmnllmbchpebbaaGreatDoor
