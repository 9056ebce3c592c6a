import Derived.Test.YtekkkmkhnphlhaaGreatDoorGh39
/-! forebayref08.Check, cut: how many Froms; the program. -/
namespace Go.Proofs.YtekkkmkhnphlhaaGreatDoor
set_option linter.unusedSimpArgs false
set_option linter.unusedVariables false
open Go.RowKit Ga
set_option maxRecDepth 100000

def OkFroms (y : Gr.Nd) : Prop := (y.kind = 0 → y.frm.length = 0) ∧ (y.kind = 1 → y.frm.length = 1) ∧ (y.kind = 2 → y.frm.length ≠ 0)
def OkProg (y : Gr.Nd) : Prop := (y.kind = 1 → Vm.safe y.prog = true) ∧ (y.kind ≠ 1 → y.prog.length = 0)
set_option maxHeartbeats 8000000 in
theorem chk_p3 (l : List Gr.Nd) (w W : World) (v : Value) (k tx : Nat) (src : Int) (c : NdC) (y : Gr.Nd) (Q : Exit → Act → World → Prop) (a0 : Act)
    (h0 : At11 w v k src tx (encNd c).toArray a0 W) (hn : NodeIs W c y) (hk02 : 0 ≤ y.kind ∧ y.kind ≤ 2) (hsrc : 0 ≤ src ∧ src ≤ 100)
    (hbad : ¬ OkFroms y → ∀ a' w', Ret11 w 10 a' w' → Q .ret a' w')
    (hnext : OkFroms y → ∀ a' w', Grew W w' → At11 w v k (src + if y.kind = 0 then 1 else 0) tx (encNd c).toArray a' w' → Code.wp Tryz.prog (tail11 19) Q a' w') :
    Code.wp Tryz.prog (tail11 15) Q a0 W := by
  have h0' := h0
  obtain ⟨hfr, h00, h03, h04, h05, hg, hbx⟩ := h0
  obtain ⟨u, hu⟩ : ∃ u : Nat → Value, u = fun i => a0.tmps.getD i undef := ⟨_, rfl⟩
  rw [← hu] at hfr
  have u0 : u 0 = _ := (congrFun hu 0).trans h00
  have u3 : u 3 = _ := (congrFun hu 3).trans h03
  have u4 : u 4 = _ := (congrFun hu 4).trans h04
  have u5 : u 5 = _ := (congrFun hu 5).trans h05
  clear hu h00 h03 h04 h0' h05
  subst hfr
  conv => arg 2; whnf
  unfold frameR
  rw [u0, u3, u4, u5]
  obtain ⟨id, kind, af, cf, ap, cp, par, r0, r1, r2, r3, r4, r5, r6, r7, rfl⟩ := hn.lit
  have ek := hn.kind
  simp only at ek
  have EK := Lib.hid ek
  have HG := Lib.hid hg
  have HBX := Lib.hid hbx
  have HBAD := Lib.hid hbad
  have HNX := Lib.hid hnext
  have HN := Lib.hid hn
  have c1 := cell_of (o := 1) hbx
  have c2 := cell_of (o := 2) hbx
  have c3 := cell_of (o := 3) hbx
  have px := Pre.mk (heap_lt hbx)
  simp [encNd] at c1 c2 c3
  obtain ⟨k0, k2⟩ := hk02
  rw [ek] at k0 k2
  obtain ⟨s0, s1⟩ := hsrc
  generalize efl : y.frm.length = fl at *
  have EFL := Lib.hid efl
  clear ek hg hbx hbad hnext hn u0 u3 u4 u5 efl
  have hkc : kind = 0 ∨ kind = 1 ∨ kind = 2 := by omega
  clear k0 k2
  rcases hkc with rfl | rfl | rfl
  · by_cases f0 : fl = 0
    · subst f0
      have hok : OkFroms y := ⟨fun _ => EFL.out, (fun h => by rw [EK.out] at h; cases h), (fun h => by rw [EK.out] at h; cases h)⟩
      have HOK := Lib.hid hok
      have hss : (src + if y.kind = 0 then 1 else 0) = src + 1 := by rw [if_pos EK.out]
      rw [hss] at HNX
      clear hok hss
      go_upto_if 127 with fail
      iterate 4 go_step
      refine HNX.out HOK.out _ _ (Grew.refl _) ?_
      exact ⟨rfl, rfl, rfl, rfl, rfl, HG.out, HBX.out⟩
    · have f0b : ((fl : Int) == 0) = false := by simp; omega
      have f0c : ((fl : Int) != 0) = true := by rw [bne_iff_ne]; omega
      have F0 := Lib.hid f0
      clear f0
      have hno : ¬ OkFroms y := fun h => F0.out (EFL.out.symm.trans (h.1 EK.out))
      have HNO := Lib.hid hno
      clear hno
      go_wp2
      exact HBAD.out HNO.out _ _ ⟨rfl, rfl, HG.out⟩
  · by_cases f0 : fl = 1
    · subst f0
      have hok : OkFroms y := ⟨(fun h => by rw [EK.out] at h; cases h), fun _ => EFL.out, (fun h => by rw [EK.out] at h; cases h)⟩
      have HOK := Lib.hid hok
      have hss : (src + if y.kind = 0 then 1 else 0) = src := by rw [if_neg (by rw [EK.out]; decide)]; omega
      rw [hss] at HNX
      clear hok hss
      go_upto_if 127 with fail
      iterate 4 go_step
      refine HNX.out HOK.out _ _ (Grew.refl _) ?_
      exact ⟨rfl, rfl, rfl, rfl, rfl, HG.out, HBX.out⟩
    · have f0b : ((fl : Int) == 1) = false := by simp; omega
      have f0c : ((fl : Int) != 1) = true := by rw [bne_iff_ne]; omega
      have F0 := Lib.hid f0
      clear f0
      have hno : ¬ OkFroms y := fun h => F0.out (EFL.out.symm.trans (h.2.1 EK.out))
      have HNO := Lib.hid hno
      clear hno
      go_wp2
      exact HBAD.out HNO.out _ _ ⟨rfl, rfl, HG.out⟩
  · by_cases f0 : fl = 0
    · subst f0
      have hno : ¬ OkFroms y := fun h => h.2.2 EK.out EFL.out
      have HNO := Lib.hid hno
      clear hno
      go_wp2
      exact HBAD.out HNO.out _ _ ⟨rfl, rfl, HG.out⟩
    · have f0b : ((fl : Int) == 0) = false := by simp; omega
      have F0 := Lib.hid f0
      clear f0
      have hok : OkFroms y := ⟨(fun h => by rw [EK.out] at h; cases h), (fun h => by rw [EK.out] at h; cases h), fun _ => by rw [EFL.out]; exact F0.out⟩
      have HOK := Lib.hid hok
      have hss : (src + if y.kind = 0 then 1 else 0) = src := by rw [if_neg (by rw [EK.out]; decide)]; omega
      rw [hss] at HNX
      clear hok hss
      go_upto_if 127 with fail
      iterate 4 go_step
      refine HNX.out HOK.out _ _ (Grew.refl _) ?_
      exact ⟨rfl, rfl, rfl, rfl, rfl, HG.out, HBX.out⟩
theorem field_known (d : Value) (n1 n2 : Int) (u1 u2 b : Bool) (W : World) : (Instr.field 88 (.agg #[d, .int .i64 n1, .int .i64 n2, .bool u1, .bool u2, .bool b]) 4).run Tryz.prog W = .ok (.bool b) W := by
  kernel_rfl
set_option maxHeartbeats 8000000 in
theorem chk_p4 (l : List Gr.Nd) (w W : World) (v : Value) (k tx : Nat) (src : Int) (c : NdC) (y : Gr.Nd) (Q : Exit → Act → World → Prop) (a0 : Act)
    (h0 : At11 w v k src tx (encNd c).toArray a0 W) (hn : NodeIs W c y)
    (hbad : ¬ OkProg y → ∀ a' w', Ret11 w 10 a' w' → Q .ret a' w')
    (hnext : OkProg y → ∀ a' w', Grew W w' → At11 w v k src tx (encNd c).toArray a' w' → Code.wp Tryz.prog (tail11 21) Q a' w') :
    Code.wp Tryz.prog (tail11 19) Q a0 W := by
  have h0' := h0
  obtain ⟨hfr, h00, h03, h04, h05, hg, hbx⟩ := h0
  obtain ⟨u, hu⟩ : ∃ u : Nat → Value, u = fun i => a0.tmps.getD i undef := ⟨_, rfl⟩
  rw [← hu] at hfr
  have u0 : u 0 = _ := (congrFun hu 0).trans h00
  have u3 : u 3 = _ := (congrFun hu 3).trans h03
  have u4 : u 4 = _ := (congrFun hu 4).trans h04
  have u5 : u 5 = _ := (congrFun hu 5).trans h05
  clear hu h00 h03 h04 h0' h05
  subst hfr
  conv => arg 2; whnf
  unfold frameR
  rw [u0, u3, u4, u5]
  obtain ⟨id, kind, af, cf, ap, cp, par, r0, r1, r2, r3, r4, r5, r6, r7, rfl⟩ := hn.lit
  have ek := hn.kind
  simp only at ek
  have EK := Lib.hid ek
  have HG := Lib.hid hg
  have HBX := Lib.hid hbx
  have HBAD := Lib.hid hbad
  have HNX := Lib.hid hnext
  have HN := Lib.hid hn
  have c1 := cell_of (o := 1) hbx
  have c2 := cell_of (o := 2) hbx
  have c3 := cell_of (o := 3) hbx
  have px := Pre.mk (heap_lt hbx)
  simp [encNd] at c1 c2 c3
  have HC : Hid (∀ W', Grew W W' → Calls Tryz.prog 46 #[.slice ap y.prog.length cp] W' (RefCheck y.prog W')) := Lib.hid fun W' (g : Grew W W') => refCheck_any _ y.prog W' (hn.p.grew g)
  have hfd := field_known
  generalize epl : y.prog.length = pl at *
  have EPL := Lib.hid epl
  generalize esf : Vm.safe y.prog = sf at *
  have ESF := Lib.hid esf
  clear ek hg hbx hbad hnext hn u0 u3 u4 u5 epl
  by_cases k1 : kind = 1
  · subst k1
    cases sf with
    | true =>
      have hok : OkProg y := ⟨fun _ => ESF.out, fun h => absurd EK.out h⟩
      have HOK := Lib.hid hok
      clear hok esf
      go_upto_if 148 with (go_at_call 46; refine (HC.out _ (by repeat (first | with_reducible exact Grew.refl _ | apply Grew.more | apply Grew.alloc | apply Grew.drew | apply Grew.drewN))).mono ?_; rintro e w1 ⟨⟨R3, n3, rfl⟩, d5, m1, m2, b1, b2, rfl⟩; rw [ESF.out])
      iterate 4 go_step
      refine HNX.out HOK.out _ _ (Grew.more (Grew.refl _) R3 n3) ?_
      exact ⟨rfl, rfl, rfl, rfl, rfl, HG.out.trans (by repeat (first | with_reducible exact Grew.refl _ | apply Grew.more | apply Grew.alloc | apply Grew.drew | apply Grew.drewN)), grew_heap (by repeat (first | with_reducible exact Grew.refl _ | apply Grew.more | apply Grew.alloc | apply Grew.drew | apply Grew.drewN)) HBX.out⟩
    | false =>
      have hno : ¬ OkProg y := fun h => by have := h.1 EK.out; rw [ESF.out] at this; cases this
      have HNO := Lib.hid hno
      clear hno esf
      go_wp2_with (go_at_call 46; refine (HC.out _ (by repeat (first | with_reducible exact Grew.refl _ | apply Grew.more | apply Grew.alloc | apply Grew.drew | apply Grew.drewN))).mono ?_; rintro e w1 ⟨⟨R3, n3, rfl⟩, d5, m1, m2, b1, b2, rfl⟩; rw [ESF.out])
      exact HBAD.out HNO.out _ _ ⟨rfl, rfl, HG.out.trans (by repeat (first | with_reducible exact Grew.refl _ | apply Grew.more | apply Grew.alloc | apply Grew.drew | apply Grew.drewN))⟩
  · have k1b : (kind == 1) = false := by simpa using k1
    have k1c : (kind != 1) = true := by rw [bne_iff_ne]; exact k1
    have K1 := Lib.hid k1
    clear k1 esf
    by_cases p0 : pl = 0
    · subst p0
      have hok : OkProg y := ⟨fun h => absurd (EK.out.symm.trans h) K1.out, fun _ => EPL.out⟩
      have HOK := Lib.hid hok
      clear hok
      go_upto_if 148 with fail
      iterate 4 go_step
      refine HNX.out HOK.out _ _ (Grew.refl _) ?_
      exact ⟨rfl, rfl, rfl, rfl, rfl, HG.out, HBX.out⟩
    · have p0b : ((pl : Int) != 0) = true := by rw [bne_iff_ne]; omega
      have hno : ¬ OkProg y := fun h => p0 (EPL.out.symm.trans (h.2 (fun q => K1.out (EK.out.symm.trans q))))
      have HNO := Lib.hid hno
      clear hno p0
      go_wp2
      exact HBAD.out HNO.out _ _ ⟨rfl, rfl, HG.out⟩
end Go.Proofs.YtekkkmkhnphlhaaGreatDoor
