import Derived.Test.YtmdmbimfdpngaaaGreatDoorMc45
import Derived.Test.YtmdmbimfdpngaaaGreatDoorMc29
/-! The example of layer 7. -/
namespace Go.Proofs.YtmdmbimfdpngaaaGreatDoor
set_option linter.unusedSimpArgs false
set_option linter.unusedVariables false
open Go.RowKit Ga
set_option maxRecDepth 100000

theorem NewPost.ok {l : List Tab.En} {w : World} {e : Ending} {w' : World} (h : NewPost l w e w') (ho : newOk l = true) : ∃ t b, e = .returned (.tuple #[.pointer (some ⟨t, 0, none⟩), .int .i64 0]) ∧ TableAt w' t b l.length (Tab.newT l) ∧ w.heap.size ≤ t ∧ w.heap.size ≤ b ∧ Grew w w' := by
  rcases h with ⟨_, h⟩ | ⟨h, _⟩
  · exact h
  · rw [ho] at h; cases h
theorem NewPost.bad {l : List Tab.En} {w : World} {e : Ending} {w' : World} (h : NewPost l w e w') (ho : newOk l = false) : e = .returned (.tuple #[.pointer none, .int .i64 1]) ∧ Grew w w' := by
  rcases h with ⟨h, _⟩ | ⟨_, h⟩
  · rw [ho] at h; cases h
  · exact h
theorem run_eql_Rec (ky p0 q0 ky' p0' q0' : Int) (r : Bool) (h : decide (ky = ky' ∧ p0 = p0' ∧ q0 = q0') = r) (w : World) : (binOp .eql 58 (.agg #[.int .i64 ky, .int .i64 p0, .int .i64 q0]) (.agg #[.int .i64 ky', .int .i64 p0', .int .i64 q0'])).run Tryz.prog w = .ok (.bool r) w := by
  subst h
  simp [go_sem, valR_eq, Tryz.underlying58, Tryz.underlying3]
  by_cases h1 : ky = ky' <;> by_cases h2 : p0 = p0' <;> by_cases h3 : q0 = q0' <;> simp [h1, h2, h3]
open Classical in
theorem refSame07_yes (v u : Value) (l m : List Tab.En) (w : World) (hv : EntsAt w v l) (hu : EntsAt w u m) (h : l = m) : Calls Tryz.prog 21 #[v, u] w (Gives (.bool true) w) := by
  have := refSame07_any v u l m w hv hu
  rwa [decide_eq_true h] at this
open Classical in
theorem refRecs07_yes (v u : Value) (l m : List Rc) (w : World) (hv : RecsAt w v l) (hu : RecsAt w u m) (h : l = m) : Calls Tryz.prog 20 #[v, u] w (Gives (.bool true) w) := by
  have := refRecs07_any v u l m w hv hu
  rwa [decide_eq_true h] at this
/-- what is kept behind the first run -/
def aw7 : Int × List Val × List Tab.En := runT [] 3 Vm.exP 5 (1, 0)
theorem aw7_two : ((runT aw7.2.2 3 Vm.exP 5 (1, 0)).1, (runT aw7.2.2 3 Vm.exP 5 (1, 0)).2.1) = ((0 : Int), [((2, 0) : Val)]) := by decide +kernel
set_option maxHeartbeats 4000000 in
theorem awake07_any (w : World) (h : Env4 w) : Calls Tryz.prog 17 #[] w (Gives (.bool true) w) := by
  have HE := Lib.hid h
  clear h
  go_enter Tryz.func17, Tryz.ntmps17
  go_upto_region 6 with (first
    | (go_at_call 18; refine (tabNew_any _ [] _ RowsAt.nil (by decide)).mono ?_; rintro e w1 hN; obtain ⟨t, b, rfl, hT, ht, hb, R1, n1, rfl⟩ := hN.ok rfl; (have HT := Lib.hid hT); clear hT hN)
    | (go_at_call 44; refine (codeParse_env awake6S (by decide) _ (HE.out.grew (by repeat (first | with_reducible exact Grew.refl _ | apply Grew.more | apply Grew.alloc | apply Grew.drew | apply Grew.drewN)))).mono ?_; rintro e w1 ⟨v, rfl, hv, R3, n3, rfl⟩; rw [awake6_parse] at hv ⊢; obtain ⟨av, cv, rfl⟩ := hv.len; (have HV := Lib.hid hv); clear hv))
  have HX : Hid ((((w.more R1 n1).more R3 n3).alloc (.cells #[.int .i64 5, .int .i64 1, .int .i64 0] 58)).heap[w.heap.size + R1.size + R3.size]? = some (.cells #[.int .i64 5, .int .i64 1, .int .i64 0] 58)) := Lib.hid (heap_new_at _ _ _ (by simp [World.more_size]))
  obtain ⟨bx, hbx⟩ : ∃ bx, bx = w.heap.size + R1.size + R3.size := ⟨_, rfl⟩
  rw [← hbx] at HX
  rw [← hbx]
  have HB := Lib.hid hbx
  have hbt := HT.out.2.lt
  simp only [World.more_size] at hbt
  clear hbx
  have hO0 : OkT (Tab.newT []) := OkT.nil
  have HW : ∃ W, W = ((w.more R1 n1).more R3 n3).alloc (.cells #[.int .i64 5, .int .i64 1, .int .i64 0] 58) := ⟨_, rfl⟩
  obtain ⟨W, hW⟩ := HW
  rw [← hW] at HX ⊢
  have HGW : Hid (Grew w W) := Lib.hid (by rw [hW]; repeat (first | with_reducible exact Grew.refl _ | apply Grew.more | apply Grew.alloc | apply Grew.drew | apply Grew.drewN))
  have HTW : Hid (TableAt W t b 0 []) := Lib.hid (by rw [hW]; exact HT.out.grew (by repeat (first | with_reducible exact Grew.refl _ | apply Grew.more | apply Grew.alloc | apply Grew.drew | apply Grew.drewN)))
  have HVW : Hid (ValsAt W (.slice av Vm.exP.length cv) Vm.exP) := Lib.hid (by rw [hW]; exact HV.out.grew (by repeat (first | with_reducible exact Grew.refl _ | apply Grew.more | apply Grew.alloc | apply Grew.drew | apply Grew.drewN)))
  clear hW HT HV
  have k0 := cell_of (o := 0) HX.out
  have k1 := cell_of (o := 1) HX.out
  have k2 := cell_of (o := 2) HX.out
  simp at k0 k1 k2
  have pb := Pre.mk (heap_lt HX.out)
  go_wp2_with fail
  refine (tabRun_any w W t b 0 [] HTW.out OkT.nil HGW.out hb (by decide) 3 _ Vm.exP HVW.out 5 1 0).mono ?_
  rintro e W2 ⟨v2, rfl, -, hT2, hg2, hk2⟩
  have hne : bx ≠ b := by have := HB.out; omega
  have HX2 : Hid (W2.heap[bx]? = some (.cells #[.int .i64 5, .int .i64 1, .int .i64 0] 58)) := Lib.hid (by rw [hk2.2 bx (heap_lt HX.out) hne]; exact HX.out)
  have HV2 : Hid (ValsAt W2 (.slice av Vm.exP.length cv) Vm.exP) := Lib.hid (rows_keepB HVW.out hk2 fun c t f => TabAt.nocells HTW.out.2 c t f)
  have HT2 : Hid (TableAt W2 t b 1 aw7.2.2) := Lib.hid hT2
  have HG2 := Lib.hid hg2
  clear k0 k1 k2 pb hT2 hg2 hk2
  have k0 := cell_of (o := 0) HX2.out
  have k1 := cell_of (o := 1) HX2.out
  have k2 := cell_of (o := 2) HX2.out
  simp at k0 k1 k2
  have pb := Pre.mk (heap_lt HX2.out)
  have hok : OkT aw7.2.2 := runT_ok OkT.nil 3 Vm.exP 5 (1, 0)
  obtain ⟨vr, hvr⟩ : ∃ r, runT aw7.2.2 3 Vm.exP 5 (1, 0) = r := ⟨_, rfl⟩
  have htwo := aw7_two
  rw [hvr] at htwo
  obtain ⟨r0, r1, r2⟩ := vr
  simp only [Prod.mk.injEq] at htwo
  obtain ⟨rfl, rfl⟩ := htwo
  have HVR := Lib.hid hvr
  clear hvr
  go_wp2_with fail
  refine (tabRun_any w W2 t b 1 aw7.2.2 HT2.out hok HG2.out hb (by decide) 3 _ Vm.exP HV2.out 5 1 0).mono ?_
  rintro e W3 ⟨v3, rfl, hv3, hT3, hg3, hk3⟩
  rw [HVR.out] at hv3 ⊢
  obtain ⟨a3, c3, rfl, -, hx3⟩ := RecsAt.open3 hv3
  obtain ⟨b3, o3, rfl, p3, x0, x1, x2⟩ := hx3 0 (by simp)
  simp at x0 x1 x2
  have HG3 := Lib.hid hg3
  clear hv3 hx3 hT3 hg3 hk3 k0 k1 k2 pb
  have hq := run_eql_Rec 5 2 0 5 2 0 true (by decide)
  go_wp2
  go_ret
  exact ⟨rfl, HG3.out.trans (by repeat (first | with_reducible exact Grew.refl _ | apply Grew.more | apply Grew.alloc | apply Grew.drew | apply Grew.drewN))⟩
end Go.Proofs.YtmdmbimfdpngaaaGreatDoor
