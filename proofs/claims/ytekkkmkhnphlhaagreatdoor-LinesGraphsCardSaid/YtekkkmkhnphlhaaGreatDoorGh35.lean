import Derived.Test.YtekkkmkhnphlhaaGreatDoorGh29
import Derived.Test.YtekkkmkhnphlhaaGreatDoorGh34
/-! forebayref08.Check, cut: the frame, the code from a region on. -/
namespace Go.Proofs.YtekkkmkhnphlhaaGreatDoor
set_option linter.unusedSimpArgs false
set_option linter.unusedVariables false
open Go.RowKit Ga
set_option maxRecDepth 100000

def frameR (u : Nat → Value) : Act := { tmps := #[u 0, u 1, u 2, u 3, u 4, u 5, u 6, u 7, u 8, u 9, u 10, u 11, u 12, u 13, u 14, u 15, u 16, u 17, u 18, u 19, u 20, u 21, u 22, u 23, u 24, u 25, u 26, u 27, u 28, u 29, u 30, u 31, u 32, u 33, u 34, u 35, u 36, u 37, u 38, u 39, u 40, u 41, u 42, u 43, u 44, u 45, u 46, u 47, u 48, u 49, u 50, u 51, u 52, u 53, u 54, u 55, u 56, u 57, u 58, u 59, u 60, u 61, u 62, u 63, u 64, u 65, u 66, u 67, u 68, u 69, u 70, u 71, u 72, u 73, u 74, u 75, u 76, u 77, u 78, u 79, u 80, u 81, u 82, u 83, u 84, u 85, u 86, u 87, u 88, u 89, u 90, u 91, u 92, u 93, u 94, u 95, u 96, u 97, u 98, u 99, u 100, u 101, u 102, u 103, u 104, u 105, u 106, u 107, u 108, u 109, u 110, u 111, u 112, u 113, u 114, u 115, u 116, u 117, u 118, u 119, u 120, u 121, u 122, u 123, u 124, u 125, u 126, u 127, u 128, u 129, u 130, u 131, u 132, u 133, u 134, u 135, u 136, u 137, u 138, u 139, u 140, u 141, u 142, u 143, u 144, u 145, u 146, u 147, u 148, u 149, u 150, u 151, u 152, u 153, u 154, u 155, u 156, u 157, u 158, u 159, u 160, u 161, u 162, u 163, u 164, u 165, u 166, u 167, u 168, u 169, u 170, u 171, u 172, u 173, u 174, u 175, u 176, u 177, u 178, u 179, u 180, u 181, u 182, u 183, u 184, u 185, u 186, u 187, u 188, u 189, u 190, u 191, u 192, u 193, u 194, u 195, u 196, u 197, u 198, u 199, u 200, u 201, u 202, u 203, u 204], defers := [] }
noncomputable def tail11 (n : Nat) : Code := (Tryz.f17.body.bind (from9 n)).getD .skip
/-- where the round stands -/
structure At11 (w : World) (v : Value) (k : Nat) (src : Int) (tx : Nat) (box : Array Value) (a : Act) (W : World) : Prop where
  fr : a = frameR (fun i => a.tmps.getD i undef)
  t0 : a.tmps.getD 0 undef = v
  t3 : a.tmps.getD 3 undef = .int .i64 src
  t4 : a.tmps.getD 4 undef = .int .i64 k
  t5 : a.tmps.getD 5 undef = .pointer (some ⟨tx, 0, none⟩)
  g : Grew w W
  bx : W.heap[tx]? = some (.cells box 60)
structure Pre11 (w : World) (v : Value) (k : Nat) (src : Int) (a : Act) (W : World) : Prop where
  fr : a = frameR (fun i => a.tmps.getD i undef)
  t0 : a.tmps.getD 0 undef = v
  t3 : a.tmps.getD 3 undef = .int .i64 src
  t4 : a.tmps.getD 4 undef = .int .i64 k
  g : Grew w W
structure Ret11 (w : World) (x : Int) (a : Act) (W : World) : Prop where
  t2 : a.tmps.getD 2 undef = .int .i64 x
  d : a.defers = []
  g : Grew w W
def OkHead (l : List Gr.Nd) (k : Nat) (y : Gr.Nd) : Prop := 0 ≤ y.id ∧ y.id ≤ 7 ∧ findI l y.id = k ∧ 0 ≤ y.kind ∧ y.kind ≤ 2 ∧ 1 ≤ y.par ∧ y.par ≤ 3 ∧ y.frm.length ≤ 3 ∧ (y.id = 0 ↔ y.kind = 0)
set_option maxHeartbeats 8000000 in
theorem chk_p1 (l : List Gr.Nd) (w W : World) (b off cap k : Nat) (src : Int) (c : NdC) (y : Gr.Nd) (Q : Exit → Act → World → Prop) (a0 : Act)
    (h0 : Pre11 w (.slice (some ⟨b, off, none⟩) l.length cap) k src a0 W) (hv : NodesAt w (.slice (some ⟨b, off, none⟩) l.length cap) l) (hk : k < l.length) (hm : l.length ≤ 9223372036854775807) (hn : NodeIs W c y) (hb : Pre b W)
    (c0 : W.cell? ⟨b, off + k * 13, none⟩ = some (.int .i64 c.id)) (c1 : W.cell? ⟨b, off + k * 13 + 1, none⟩ = some (.int .i64 c.kind)) (c2 : W.cell? ⟨b, off + k * 13 + 2, none⟩ = some (.slice c.af c.nf c.cf)) (c3 : W.cell? ⟨b, off + k * 13 + 3, none⟩ = some (.slice c.ap c.np c.cp)) (c4 : W.cell? ⟨b, off + k * 13 + 4, none⟩ = some (.int .i64 c.par))
    (c5 : W.cell? ⟨b, off + k * 13 + 5, none⟩ = some (.int .i64 c.r0)) (c6 : W.cell? ⟨b, off + k * 13 + 6, none⟩ = some (.int .i64 c.r1)) (c7 : W.cell? ⟨b, off + k * 13 + 7, none⟩ = some (.int .i64 c.r2)) (c8 : W.cell? ⟨b, off + k * 13 + 8, none⟩ = some (.int .i64 c.r3)) (c9 : W.cell? ⟨b, off + k * 13 + 9, none⟩ = some (.int .i64 c.r4)) (c10 : W.cell? ⟨b, off + k * 13 + 10, none⟩ = some (.int .i64 c.r5)) (c11 : W.cell? ⟨b, off + k * 13 + 11, none⟩ = some (.int .i64 c.r6)) (c12 : W.cell? ⟨b, off + k * 13 + 12, none⟩ = some (.int .i64 c.r7))
    (hbad : ¬ OkHead l k y → ∀ a' w', Ret11 w 10 a' w' → Q .ret a' w')
    (hnext : OkHead l k y → ∀ a' w', At11 w (.slice (some ⟨b, off, none⟩) l.length cap) k src W.heap.size (encNd c).toArray a' w' → Code.wp Tryz.prog (tail11 10) Q a' w') :
    Code.wp Tryz.prog (tail11 7) Q a0 W := by
  have h0' := h0
  obtain ⟨hfr, h00, h03, h04, hg⟩ := h0
  obtain ⟨u, hu⟩ : ∃ u : Nat → Value, u = fun i => a0.tmps.getD i undef := ⟨_, rfl⟩
  rw [← hu] at hfr
  have u0 : u 0 = _ := (congrFun hu 0).trans h00
  have u3 : u 3 = _ := (congrFun hu 3).trans h03
  have u4 : u 4 = _ := (congrFun hu 4).trans h04
  clear hu h00 h03 h04 h0' 
  subst hfr
  conv => arg 2; whnf
  unfold frameR
  rw [u0, u3, u4]
  obtain ⟨id, kind, af, cf, ap, cp, par, r0, r1, r2, r3, r4, r5, r6, r7, rfl⟩ := hn.lit
  have eid := hn.id
  have ek := hn.kind
  have ep := hn.par
  simp only at eid ek ep c0 c1 c2 c3 c4 c5 c6 c7 c8 c9 c10 c11 c12
  have EID := Lib.hid eid
  have EK := Lib.hid ek
  have EP := Lib.hid ep
  have HG := Lib.hid hg
  have HBAD := Lib.hid hbad
  obtain ⟨fx, efx⟩ : ∃ fx, findI l id = fx := ⟨_, rfl⟩
  have EFX := Lib.hid efx
  have HF := Lib.hid fun W' (g : Grew W W') => (by have := refFind08_any _ l id W' ((hv.grew hg).grew g); rw [efx] at this; exact this)
  generalize efl : y.frm.length = fl at *
  have EFL := Lib.hid efl
  have hnx : ((y.id = 0 ↔ y.kind = 0) → OkHead l k y) → True := fun _ => trivial
  have HNX := Lib.hid hnext
  clear eid ek ep hg hbad hnext efx hn hv hnx efl u0 u3 u4
  by_cases hc0 : id < 0
  · go_wp2_with (go_at_call 45; refine (HF.out _ (by repeat (first | with_reducible exact Grew.refl _ | apply Grew.more | apply Grew.alloc | apply Grew.drew | apply Grew.drewN))).mono ?_; rintro e w1 ⟨rfl, hw1⟩; obtain rfl := hw1.symm)
    exact HBAD.out (fun h => by have := h.1; rw [EID.out] at this; omega) _ _ ⟨rfl, rfl, HG.out.trans (by repeat (first | with_reducible exact Grew.refl _ | apply Grew.more | apply Grew.alloc | apply Grew.drew | apply Grew.drewN))⟩
  · by_cases hc1 : 7 < id
    · go_wp2_with (go_at_call 45; refine (HF.out _ (by repeat (first | with_reducible exact Grew.refl _ | apply Grew.more | apply Grew.alloc | apply Grew.drew | apply Grew.drewN))).mono ?_; rintro e w1 ⟨rfl, hw1⟩; obtain rfl := hw1.symm)
      exact HBAD.out (fun h => by have := h.2.1; rw [EID.out] at this; omega) _ _ ⟨rfl, rfl, HG.out.trans (by repeat (first | with_reducible exact Grew.refl _ | apply Grew.more | apply Grew.alloc | apply Grew.drew | apply Grew.drewN))⟩
    · by_cases hc2 : fx ≠ (k : Int)
      · have hc2b : (fx != (k : Int)) = true := by rw [bne_iff_ne]; exact hc2
        have HC2 := Lib.hid hc2
        clear hc2
        go_wp2_with (go_at_call 45; refine (HF.out _ (by repeat (first | with_reducible exact Grew.refl _ | apply Grew.more | apply Grew.alloc | apply Grew.drew | apply Grew.drewN))).mono ?_; rintro e w1 ⟨rfl, hw1⟩; obtain rfl := hw1.symm)
        exact HBAD.out (fun h => by have := h.2.2.1; rw [EID.out, EFX.out] at this; exact HC2.out this) _ _ ⟨rfl, rfl, HG.out.trans (by repeat (first | with_reducible exact Grew.refl _ | apply Grew.more | apply Grew.alloc | apply Grew.drew | apply Grew.drewN))⟩
      · by_cases hc3 : kind < 0
        · have hfx : fx = (k : Int) := by omega
          clear hc2
          go_wp2_with (go_at_call 45; refine (HF.out _ (by repeat (first | with_reducible exact Grew.refl _ | apply Grew.more | apply Grew.alloc | apply Grew.drew | apply Grew.drewN))).mono ?_; rintro e w1 ⟨rfl, hw1⟩; obtain rfl := hw1.symm; rw [hfx])
          exact HBAD.out (fun h => by have := h.2.2.2.1; rw [EK.out] at this; omega) _ _ ⟨rfl, rfl, HG.out.trans (by repeat (first | with_reducible exact Grew.refl _ | apply Grew.more | apply Grew.alloc | apply Grew.drew | apply Grew.drewN))⟩
        · by_cases hc4 : 2 < kind
          · have hfx : fx = (k : Int) := by omega
            clear hc2
            go_wp2_with (go_at_call 45; refine (HF.out _ (by repeat (first | with_reducible exact Grew.refl _ | apply Grew.more | apply Grew.alloc | apply Grew.drew | apply Grew.drewN))).mono ?_; rintro e w1 ⟨rfl, hw1⟩; obtain rfl := hw1.symm; rw [hfx])
            exact HBAD.out (fun h => by have := h.2.2.2.2.1; rw [EK.out] at this; omega) _ _ ⟨rfl, rfl, HG.out.trans (by repeat (first | with_reducible exact Grew.refl _ | apply Grew.more | apply Grew.alloc | apply Grew.drew | apply Grew.drewN))⟩
          · by_cases hc5 : par < 1
            · have hfx : fx = (k : Int) := by omega
              clear hc2
              go_wp2_with (go_at_call 45; refine (HF.out _ (by repeat (first | with_reducible exact Grew.refl _ | apply Grew.more | apply Grew.alloc | apply Grew.drew | apply Grew.drewN))).mono ?_; rintro e w1 ⟨rfl, hw1⟩; obtain rfl := hw1.symm; rw [hfx])
              exact HBAD.out (fun h => by have := h.2.2.2.2.2.1; rw [EP.out] at this; omega) _ _ ⟨rfl, rfl, HG.out.trans (by repeat (first | with_reducible exact Grew.refl _ | apply Grew.more | apply Grew.alloc | apply Grew.drew | apply Grew.drewN))⟩
            · by_cases hc6 : 3 < par
              · have hfx : fx = (k : Int) := by omega
                clear hc2
                go_wp2_with (go_at_call 45; refine (HF.out _ (by repeat (first | with_reducible exact Grew.refl _ | apply Grew.more | apply Grew.alloc | apply Grew.drew | apply Grew.drewN))).mono ?_; rintro e w1 ⟨rfl, hw1⟩; obtain rfl := hw1.symm; rw [hfx])
                exact HBAD.out (fun h => by have := h.2.2.2.2.2.2.1; rw [EP.out] at this; omega) _ _ ⟨rfl, rfl, HG.out.trans (by repeat (first | with_reducible exact Grew.refl _ | apply Grew.more | apply Grew.alloc | apply Grew.drew | apply Grew.drewN))⟩
              · by_cases hc7 : (3 : Int) < (fl : Int)
                · have hfx : fx = (k : Int) := by omega
                  clear hc2
                  go_wp2_with (go_at_call 45; refine (HF.out _ (by repeat (first | with_reducible exact Grew.refl _ | apply Grew.more | apply Grew.alloc | apply Grew.drew | apply Grew.drewN))).mono ?_; rintro e w1 ⟨rfl, hw1⟩; obtain rfl := hw1.symm; rw [hfx])
                  exact HBAD.out (fun h => by have := h.2.2.2.2.2.2.2.1; rw [EFL.out] at this; omega) _ _ ⟨rfl, rfl, HG.out.trans (by repeat (first | with_reducible exact Grew.refl _ | apply Grew.more | apply Grew.alloc | apply Grew.drew | apply Grew.drewN))⟩
                · have HE : Hid ((id = 0 ↔ kind = 0) → OkHead l k y) := Lib.hid fun q => (by unfold OkHead; rw [EID.out, EK.out, EP.out, EFL.out, EFX.out]; exact ⟨by omega, by omega, by omega, by omega, by omega, by omega, by omega, by omega, q⟩)
                  by_cases i0 : id = 0
                  · subst i0
                    by_cases k0 : kind = 0
                    · subst k0
                      have hok := HE.out ⟨fun _ => rfl, fun _ => rfl⟩
                      have HOK := Lib.hid hok
                      clear hok
                      have hfx : fx = (k : Int) := by omega
                      clear hc2
                      go_upto_if 73 with (first
                        | (go_at_call 45; refine (HF.out _ (by repeat (first | with_reducible exact Grew.refl _ | apply Grew.more | apply Grew.alloc | apply Grew.drew | apply Grew.drewN))).mono ?_; rintro e w1 ⟨rfl, hw1⟩; obtain rfl := hw1.symm; rw [hfx]))
                      iterate 4 go_step
                      refine HNX.out HOK.out _ _ ?_
                      exact ⟨rfl, rfl, rfl, rfl, rfl, HG.out.trans (by repeat (first | with_reducible exact Grew.refl _ | apply Grew.more | apply Grew.alloc | apply Grew.drew | apply Grew.drewN)), heap_new_at _ _ _ rfl⟩
                    · have k0b : (kind == 0) = false := by simpa using k0
                      have K0 := Lib.hid k0
                      clear k0
                      have hfx : fx = (k : Int) := by omega
                      clear hc2
                      go_wp2_with (go_at_call 45; refine (HF.out _ (by repeat (first | with_reducible exact Grew.refl _ | apply Grew.more | apply Grew.alloc | apply Grew.drew | apply Grew.drewN))).mono ?_; rintro e w1 ⟨rfl, hw1⟩; obtain rfl := hw1.symm; rw [hfx])
                      exact HBAD.out (fun h => by have := h.2.2.2.2.2.2.2.2; rw [EID.out, EK.out] at this; exact K0.out (this.1 rfl)) _ _ ⟨rfl, rfl, HG.out.trans (by repeat (first | with_reducible exact Grew.refl _ | apply Grew.more | apply Grew.alloc | apply Grew.drew | apply Grew.drewN))⟩
                  · have i0b : (id == 0) = false := by simpa using i0
                    by_cases k0 : kind = 0
                    · subst k0
                      have I0 := Lib.hid i0
                      clear i0
                      have hfx : fx = (k : Int) := by omega
                      clear hc2
                      go_wp2_with (go_at_call 45; refine (HF.out _ (by repeat (first | with_reducible exact Grew.refl _ | apply Grew.more | apply Grew.alloc | apply Grew.drew | apply Grew.drewN))).mono ?_; rintro e w1 ⟨rfl, hw1⟩; obtain rfl := hw1.symm; rw [hfx])
                      exact HBAD.out (fun h => by have := h.2.2.2.2.2.2.2.2; rw [EID.out, EK.out] at this; exact I0.out (this.2 rfl)) _ _ ⟨rfl, rfl, HG.out.trans (by repeat (first | with_reducible exact Grew.refl _ | apply Grew.more | apply Grew.alloc | apply Grew.drew | apply Grew.drewN))⟩
                    · have k0b : (kind == 0) = false := by simpa using k0
                      have I0 := Lib.hid i0
                      have K0 := Lib.hid k0
                      clear i0 k0
                      have hok := HE.out ⟨fun q => absurd q I0.out, fun q => absurd q K0.out⟩
                      have HOK := Lib.hid hok
                      clear hok
                      have hfx : fx = (k : Int) := by omega
                      clear hc2
                      go_upto_if 73 with (first
                        | (go_at_call 45; refine (HF.out _ (by repeat (first | with_reducible exact Grew.refl _ | apply Grew.more | apply Grew.alloc | apply Grew.drew | apply Grew.drewN))).mono ?_; rintro e w1 ⟨rfl, hw1⟩; obtain rfl := hw1.symm; rw [hfx]))
                      iterate 4 go_step
                      refine HNX.out HOK.out _ _ ?_
                      exact ⟨rfl, rfl, rfl, rfl, rfl, HG.out.trans (by repeat (first | with_reducible exact Grew.refl _ | apply Grew.more | apply Grew.alloc | apply Grew.drew | apply Grew.drewN)), heap_new_at _ _ _ rfl⟩
end Go.Proofs.YtekkkmkhnphlhaaGreatDoor
