import Derived.Test.YtmdmbimfdpngaaaGreatMs22
import Derived.Test.YtmdmbimfdpngaaaGreatMs38
/-! forebayref08.Check, cut: the frame, the code from a region on. -/
namespace Go.Proofs.YtmdmbimfdpngaaaGreat
set_option linter.unusedSimpArgs false
set_option linter.unusedVariables false
open Go.RowKit Ga
set_option maxRecDepth 100000

def frameR (u : Nat → Value) : Act := { tmps := #[u 0, u 1, u 2, u 3, u 4, u 5, u 6, u 7, u 8, u 9, u 10, u 11, u 12, u 13, u 14, u 15, u 16, u 17, u 18, u 19, u 20, u 21, u 22, u 23, u 24, u 25, u 26, u 27, u 28, u 29, u 30, u 31, u 32, u 33, u 34, u 35, u 36, u 37, u 38, u 39, u 40, u 41, u 42, u 43, u 44, u 45, u 46, u 47, u 48, u 49, u 50, u 51, u 52, u 53, u 54, u 55, u 56, u 57, u 58, u 59, u 60, u 61, u 62, u 63, u 64, u 65, u 66, u 67, u 68, u 69, u 70, u 71, u 72, u 73, u 74, u 75, u 76, u 77, u 78, u 79, u 80, u 81, u 82, u 83, u 84, u 85, u 86, u 87, u 88, u 89, u 90, u 91, u 92, u 93, u 94, u 95, u 96, u 97, u 98, u 99, u 100, u 101, u 102, u 103, u 104, u 105, u 106, u 107, u 108, u 109, u 110, u 111, u 112, u 113, u 114, u 115, u 116, u 117, u 118, u 119, u 120, u 121, u 122, u 123, u 124, u 125, u 126, u 127, u 128, u 129, u 130, u 131, u 132, u 133, u 134, u 135, u 136, u 137, u 138, u 139, u 140, u 141, u 142, u 143, u 144, u 145, u 146, u 147, u 148, u 149, u 150, u 151, u 152, u 153, u 154, u 155, u 156, u 157, u 158, u 159, u 160, u 161, u 162, u 163, u 164, u 165, u 166, u 167, u 168, u 169, u 170, u 171, u 172, u 173, u 174, u 175, u 176, u 177, u 178, u 179, u 180, u 181, u 182, u 183, u 184, u 185, u 186, u 187, u 188, u 189, u 190, u 191, u 192, u 193, u 194, u 195, u 196, u 197, u 198, u 199, u 200, u 201, u 202, u 203, u 204], defers := [] }
noncomputable def tail11 (n : Nat) : Code := (Tryz.f12.body.bind (from9 n)).getD .skip
/-- where the round stands -/
structure At11 (w : World) (v : Value) (k : Nat) (src : Int) (tx : Nat) (box : Array Value) (a : Act) (W : World) : Prop where
  fr : a = frameR (fun i => a.tmps.getD i undef)
  t0 : a.tmps.getD 0 undef = v
  t3 : a.tmps.getD 3 undef = .int .i64 src
  t4 : a.tmps.getD 4 undef = .int .i64 k
  t5 : a.tmps.getD 5 undef = .pointer (some ⟨tx, 0, none⟩)
  g : Grew w W
  bx : W.heap[tx]? = some (.cells box 42)
structure Pre11 (w : World) (v : Value) (k : Nat) (src : Int) (a : Act) (W : World) : Prop where
  fr : a = frameR (fun i => a.tmps.getD i undef)
  t0 : a.tmps.getD 0 undef = v
  t3 : a.tmps.getD 3 undef = .int .i64 src
  t4 : a.tmps.getD 4 undef = .int .i64 k
  g : Grew w W
structure Ret11 (w : World) (x : Int) (a : Act) (W : World) : Prop where
  t2 : a.tmps.getD 2 undef = .int .i64 x
  d : a.defers = []
  g : Grew w W
def OkHead (l : List Gr.Nd) (k : Nat) (y : Gr.Nd) : Prop := 0 ≤ y.id ∧ y.id ≤ 7 ∧ findI l y.id = k ∧ 0 ≤ y.kind ∧ y.kind ≤ 2 ∧ 1 ≤ y.par ∧ y.par ≤ 3 ∧ y.frm.length ≤ 3 ∧ (y.id = 0 ↔ y.kind = 0)
set_option maxHeartbeats 8000000 in
theorem chk_p1 (l : List Gr.Nd) (w W : World) (b off cap k : Nat) (src : Int) (c : NdC) (y : Gr.Nd) (Q : Exit → Act → World → Prop) (a0 : Act)
    (h0 : Pre11 w (.slice (some ⟨b, off, none⟩) l.length cap) k src a0 W) (hv : NodesAt w (.slice (some ⟨b, off, none⟩) l.length cap) l) (hk : k < l.length) (hm : l.length ≤ 9223372036854775807) (hn : NodeIs W c y) (hb : Pre b W)
    (c0 : W.cell? ⟨b, off + k * 13, none⟩ = some (.int .i64 c.id)) (c1 : W.cell? ⟨b, off + k * 13 + 1, none⟩ = some (.int .i64 c.kind)) (c2 : W.cell? ⟨b, off + k * 13 + 2, none⟩ = some (.slice c.af c.nf c.cf)) (c3 : W.cell? ⟨b, off + k * 13 + 3, none⟩ = some (.slice c.ap c.np c.cp)) (c4 : W.cell? ⟨b, off + k * 13 + 4, none⟩ = some (.int .i64 c.par))
    (c5 : W.cell? ⟨b, off + k * 13 + 5, none⟩ = some (.int .i64 c.r0)) (c6 : W.cell? ⟨b, off + k * 13 + 6, none⟩ = some (.int .i64 c.r1)) (c7 : W.cell? ⟨b, off + k * 13 + 7, none⟩ = some (.int .i64 c.r2)) (c8 : W.cell? ⟨b, off + k * 13 + 8, none⟩ = some (.int .i64 c.r3)) (c9 : W.cell? ⟨b, off + k * 13 + 9, none⟩ = some (.int .i64 c.r4)) (c10 : W.cell? ⟨b, off + k * 13 + 10, none⟩ = some (.int .i64 c.r5)) (c11 : W.cell? ⟨b, off + k * 13 + 11, none⟩ = some (.int .i64 c.r6)) (c12 : W.cell? ⟨b, off + k * 13 + 12, none⟩ = some (.int .i64 c.r7))
    (hbad : ¬ OkHead l k y → ∀ a' w', Ret11 w 10 a' w' → Q .ret a' w')
    (hnext : OkHead l k y → ∀ a' w', At11 w (.slice (some ⟨b, off, none⟩) l.length cap) k src W.heap.size (encNd c).toArray a' w' → Code.wp Tryz.prog (tail11 10) Q a' w') :
    Code.wp Tryz.prog (tail11 7) Q a0 W := by
  have h0' := h0
  obtain ⟨hfr, h00, h03, h04, hg⟩ := h0
  obtain ⟨u, hu⟩ : ∃ u : Nat → Value, u = fun i => a0.tmps.getD i undef := ⟨_, rfl⟩
  rw [← hu] at hfr
  have u0 : u 0 = _ := (congrFun hu 0).trans h00
  have u3 : u 3 = _ := (congrFun hu 3).trans h03
  have u4 : u 4 = _ := (congrFun hu 4).trans h04
  clear hu h00 h03 h04 h0' 
  subst hfr
  conv => arg 2; whnf
  unfold frameR
  rw [u0, u3, u4]
  obtain ⟨id, kind, af, cf, ap, cp, par, r0, r1, r2, r3, r4, r5, r6, r7, rfl⟩ := hn.lit
  have eid := hn.id
  have ek := hn.kind
  have ep := hn.par
  simp only at eid ek ep c0 c1 c2 c3 c4 c5 c6 c7 c8 c9 c10 c11 c12
  have EID := Lib.hid eid
  have EK := Lib.hid ek
  have EP := Lib.hid ep
  have HG := Lib.hid hg
  have HBAD := Lib.hid hbad
  obtain ⟨fx, efx⟩ : ∃ fx, findI l id = fx := ⟨_, rfl⟩
  have EFX := Lib.hid efx
  have HF := Lib.hid fun W' (g : Grew W W') => (by have := refFind08_any _ l id W' ((hv.grew hg).grew g); rw [efx] at this; exact this)
  generalize efl : y.frm.length = fl at *
  have EFL := Lib.hid efl
  have hnx : ((y.id = 0 ↔ y.kind = 0) → OkHead l k y) → True := fun _ => trivial
  have HNX := Lib.hid hnext
  clear eid ek ep hg hbad hnext efx hn hv hnx efl u0 u3 u4
  by_cases hc0 : id < 0
  · go_wp2_with (go_at_call 18; refine (HF.out _ (by repeat (first | with_reducible exact Grew.refl _ | apply Grew.more | apply Grew.alloc | apply Grew.drew | apply Grew.drewN))).mono ?_; rintro e w1 ⟨rfl, hw1⟩; obtain rfl := hw1.symm)
    exact HBAD.out (fun h => by have := h.1; rw [EID.out] at this; omega) _ _ ⟨rfl, rfl, HG.out.trans (by repeat (first | with_reducible exact Grew.refl _ | apply Grew.more | apply Grew.alloc | apply Grew.drew | apply Grew.drewN))⟩
  · by_cases hc1 : 7 < id
    · go_wp2_with (go_at_call 18; refine (HF.out _ (by repeat (first | with_reducible exact Grew.refl _ | apply Grew.more | apply Grew.alloc | apply Grew.drew | apply Grew.drewN))).mono ?_; rintro e w1 ⟨rfl, hw1⟩; obtain rfl := hw1.symm)
      exact HBAD.out (fun h => by have := h.2.1; rw [EID.out] at this; omega) _ _ ⟨rfl, rfl, HG.out.trans (by repeat (first | with_reducible exact Grew.refl _ | apply Grew.more | apply Grew.alloc | apply Grew.drew | apply Grew.drewN))⟩
    · by_cases hc2 : fx ≠ (k : Int)
      · have hc2b : (fx != (k : Int)) = true := by rw [bne_iff_ne]; exact hc2
        have HC2 := Lib.hid hc2
        clear hc2
        go_wp2_with (go_at_call 18; refine (HF.out _ (by repeat (first | with_reducible exact Grew.refl _ | apply Grew.more | apply Grew.alloc | apply Grew.drew | apply Grew.drewN))).mono ?_; rintro e w1 ⟨rfl, hw1⟩; obtain rfl := hw1.symm)
        exact HBAD.out (fun h => by have := h.2.2.1; rw [EID.out, EFX.out] at this; exact HC2.out this) _ _ ⟨rfl, rfl, HG.out.trans (by repeat (first | with_reducible exact Grew.refl _ | apply Grew.more | apply Grew.alloc | apply Grew.drew | apply Grew.drewN))⟩
      · by_cases hc3 : kind < 0
        · have hfx : fx = (k : Int) := by omega
          clear hc2
          go_wp2_with (go_at_call 18; refine (HF.out _ (by repeat (first | with_reducible exact Grew.refl _ | apply Grew.more | apply Grew.alloc | apply Grew.drew | apply Grew.drewN))).mono ?_; rintro e w1 ⟨rfl, hw1⟩; obtain rfl := hw1.symm; rw [hfx])
          exact HBAD.out (fun h => by have := h.2.2.2.1; rw [EK.out] at this; omega) _ _ ⟨rfl, rfl, HG.out.trans (by repeat (first | with_reducible exact Grew.refl _ | apply Grew.more | apply Grew.alloc | apply Grew.drew | apply Grew.drewN))⟩
        · by_cases hc4 : 2 < kind
          · have hfx : fx = (k : Int) := by omega
            clear hc2
            go_wp2_with (go_at_call 18; refine (HF.out _ (by repeat (first | with_reducible exact Grew.refl _ | apply Grew.more | apply Grew.alloc | apply Grew.drew | apply Grew.drewN))).mono ?_; rintro e w1 ⟨rfl, hw1⟩; obtain rfl := hw1.symm; rw [hfx])
            exact HBAD.out (fun h => by have := h.2.2.2.2.1; rw [EK.out] at this; omega) _ _ ⟨rfl, rfl, HG.out.trans (by repeat (first | with_reducible exact Grew.refl _ | apply Grew.more | apply Grew.alloc | apply Grew.drew | apply Grew.drewN))⟩
          · by_cases hc5 : par < 1
            · have hfx : fx = (k : Int) := by omega
              clear hc2
              go_wp2_with (go_at_call 18; refine (HF.out _ (by repeat (first | with_reducible exact Grew.refl _ | apply Grew.more | apply Grew.alloc | apply Grew.drew | apply Grew.drewN))).mono ?_; rintro e w1 ⟨rfl, hw1⟩; obtain rfl := hw1.symm; rw [hfx])
              exact HBAD.out (fun h => by have := h.2.2.2.2.2.1; rw [EP.out] at this; omega) _ _ ⟨rfl, rfl, HG.out.trans (by repeat (first | with_reducible exact Grew.refl _ | apply Grew.more | apply Grew.alloc | apply Grew.drew | apply Grew.drewN))⟩
            · by_cases hc6 : 3 < par
              · have hfx : fx = (k : Int) := by omega
                clear hc2
                go_wp2_with (go_at_call 18; refine (HF.out _ (by repeat (first | with_reducible exact Grew.refl _ | apply Grew.more | apply Grew.alloc | apply Grew.drew | apply Grew.drewN))).mono ?_; rintro e w1 ⟨rfl, hw1⟩; obtain rfl := hw1.symm; rw [hfx])
                exact HBAD.out (fun h => by have := h.2.2.2.2.2.2.1; rw [EP.out] at this; omega) _ _ ⟨rfl, rfl, HG.out.trans (by repeat (first | with_reducible exact Grew.refl _ | apply Grew.more | apply Grew.alloc | apply Grew.drew | apply Grew.drewN))⟩
              · by_cases hc7 : (3 : Int) < (fl : Int)
                · have hfx : fx = (k : Int) := by omega
                  clear hc2
                  go_wp2_with (go_at_call 18; refine (HF.out _ (by repeat (first | with_reducible exact Grew.refl _ | apply Grew.more | apply Grew.alloc | apply Grew.drew | apply Grew.drewN))).mono ?_; rintro e w1 ⟨rfl, hw1⟩; obtain rfl := hw1.symm; rw [hfx])
                  exact HBAD.out (fun h => by have := h.2.2.2.2.2.2.2.1; rw [EFL.out] at this; omega) _ _ ⟨rfl, rfl, HG.out.trans (by repeat (first | with_reducible exact Grew.refl _ | apply Grew.more | apply Grew.alloc | apply Grew.drew | apply Grew.drewN))⟩
                · have HE : Hid ((id = 0 ↔ kind = 0) → OkHead l k y) := Lib.hid fun q => (by unfold OkHead; rw [EID.out, EK.out, EP.out, EFL.out, EFX.out]; exact ⟨by omega, by omega, by omega, by omega, by omega, by omega, by omega, by omega, q⟩)
                  by_cases i0 : id = 0
                  · subst i0
                    by_cases k0 : kind = 0
                    · subst k0
                      have hok := HE.out ⟨fun _ => rfl, fun _ => rfl⟩
                      have HOK := Lib.hid hok
                      clear hok
                      have hfx : fx = (k : Int) := by omega
                      clear hc2
                      go_upto_if 73 with (first
                        | (go_at_call 18; refine (HF.out _ (by repeat (first | with_reducible exact Grew.refl _ | apply Grew.more | apply Grew.alloc | apply Grew.drew | apply Grew.drewN))).mono ?_; rintro e w1 ⟨rfl, hw1⟩; obtain rfl := hw1.symm; rw [hfx]))
                      iterate 4 go_step
                      refine HNX.out HOK.out _ _ ?_
                      exact ⟨rfl, rfl, rfl, rfl, rfl, HG.out.trans (by repeat (first | with_reducible exact Grew.refl _ | apply Grew.more | apply Grew.alloc | apply Grew.drew | apply Grew.drewN)), heap_new_at _ _ _ rfl⟩
                    · have k0b : (kind == 0) = false := by simpa using k0
                      have K0 := Lib.hid k0
                      clear k0
                      have hfx : fx = (k : Int) := by omega
                      clear hc2
                      go_wp2_with (go_at_call 18; refine (HF.out _ (by repeat (first | with_reducible exact Grew.refl _ | apply Grew.more | apply Grew.alloc | apply Grew.drew | apply Grew.drewN))).mono ?_; rintro e w1 ⟨rfl, hw1⟩; obtain rfl := hw1.symm; rw [hfx])
                      exact HBAD.out (fun h => by have := h.2.2.2.2.2.2.2.2; rw [EID.out, EK.out] at this; exact K0.out (this.1 rfl)) _ _ ⟨rfl, rfl, HG.out.trans (by repeat (first | with_reducible exact Grew.refl _ | apply Grew.more | apply Grew.alloc | apply Grew.drew | apply Grew.drewN))⟩
                  · have i0b : (id == 0) = false := by simpa using i0
                    by_cases k0 : kind = 0
                    · subst k0
                      have I0 := Lib.hid i0
                      clear i0
                      have hfx : fx = (k : Int) := by omega
                      clear hc2
                      go_wp2_with (go_at_call 18; refine (HF.out _ (by repeat (first | with_reducible exact Grew.refl _ | apply Grew.more | apply Grew.alloc | apply Grew.drew | apply Grew.drewN))).mono ?_; rintro e w1 ⟨rfl, hw1⟩; obtain rfl := hw1.symm; rw [hfx])
                      exact HBAD.out (fun h => by have := h.2.2.2.2.2.2.2.2; rw [EID.out, EK.out] at this; exact I0.out (this.2 rfl)) _ _ ⟨rfl, rfl, HG.out.trans (by repeat (first | with_reducible exact Grew.refl _ | apply Grew.more | apply Grew.alloc | apply Grew.drew | apply Grew.drewN))⟩
                    · have k0b : (kind == 0) = false := by simpa using k0
                      have I0 := Lib.hid i0
                      have K0 := Lib.hid k0
                      clear i0 k0
                      have hok := HE.out ⟨fun q => absurd q I0.out, fun q => absurd q K0.out⟩
                      have HOK := Lib.hid hok
                      clear hok
                      have hfx : fx = (k : Int) := by omega
                      clear hc2
                      go_upto_if 73 with (first
                        | (go_at_call 18; refine (HF.out _ (by repeat (first | with_reducible exact Grew.refl _ | apply Grew.more | apply Grew.alloc | apply Grew.drew | apply Grew.drewN))).mono ?_; rintro e w1 ⟨rfl, hw1⟩; obtain rfl := hw1.symm; rw [hfx]))
                      iterate 4 go_step
                      refine HNX.out HOK.out _ _ ?_
                      exact ⟨rfl, rfl, rfl, rfl, rfl, HG.out.trans (by repeat (first | with_reducible exact Grew.refl _ | apply Grew.more | apply Grew.alloc | apply Grew.drew | apply Grew.drewN)), heap_new_at _ _ _ rfl⟩
end Go.Proofs.YtmdmbimfdpngaaaGreat

/-! forebayref08.Check, cut: the routes. -/
namespace Go.Proofs.YtmdmbimfdpngaaaGreat
set_option linter.unusedSimpArgs false
set_option linter.unusedVariables false
open Go.RowKit Ga
set_option maxRecDepth 100000

def OkRoute (y : Gr.Nd) : Prop := ∀ g ∈ y.route, 0 ≤ g ∧ g < y.par
theorem enc_route (c : NdC) (g : Nat) (h : g < 8) : (encNd c).toArray[5 + g]? = some (.int .i64 ([c.r0, c.r1, c.r2, c.r3, c.r4, c.r5, c.r6, c.r7] : List Int)[g]) := by
  rcases (show g = 0 ∨ g = 1 ∨ g = 2 ∨ g = 3 ∨ g = 4 ∨ g = 5 ∨ g = 6 ∨ g = 7 by omega) with rfl | rfl | rfl | rfl | rfl | rfl | rfl | rfl <;> rfl
set_option maxHeartbeats 8000000 in
theorem chk_p2 (l : List Gr.Nd) (w W : World) (v : Value) (k tx : Nat) (src : Int) (c : NdC) (y : Gr.Nd) (Q : Exit → Act → World → Prop) (a0 : Act)
    (h0 : At11 w v k src tx (encNd c).toArray a0 W) (hn : NodeIs W c y)
    (hbad : ¬ OkRoute y → ∀ a' w', Ret11 w 10 a' w' → Q .ret a' w')
    (hnext : OkRoute y → ∀ a' w', Grew W w' → At11 w v k src tx (encNd c).toArray a' w' → Code.wp Tryz.prog (tail11 15) Q a' w') :
    Code.wp Tryz.prog (tail11 10) Q a0 W := by
  have h0' := h0
  obtain ⟨hfr, h00, h03, h04, h05, hg, hbx⟩ := h0
  obtain ⟨u, hu⟩ : ∃ u : Nat → Value, u = fun i => a0.tmps.getD i undef := ⟨_, rfl⟩
  rw [← hu] at hfr
  have u0 : u 0 = _ := (congrFun hu 0).trans h00
  have u3 : u 3 = _ := (congrFun hu 3).trans h03
  have u4 : u 4 = _ := (congrFun hu 4).trans h04
  have u5 : u 5 = _ := (congrFun hu 5).trans h05
  clear hu h00 h03 h04 h0' h05
  subst hfr
  conv => arg 2; whnf
  unfold frameR
  rw [u0, u3, u4, u5]
  have hrt := hn.route
  have hpar := hn.par
  have HRT := Lib.hid hrt
  have HPAR := Lib.hid hpar
  have HG := Lib.hid hg
  have HBX := Lib.hid hbx
  have HBAD := Lib.hid hbad
  have HNX := Lib.hid hnext
  have c4 := cell_of (o := 4) hbx
  have px := Pre.mk (heap_lt hbx)
  simp [encNd] at c4
  clear hrt hpar hg hbx hbad hnext hn u0 u3 u4 u5
  go_wp2
  go_loopg [6] 8 (fun gg s6 wr => ∃ g : Nat, g ≤ 8 ∧ 8 - g ≤ gg ∧ s6 = .int .i64 g ∧ Hid (Grew W wr) ∧ Hid (∀ j (hj : j < y.route.length), j < g → 0 ≤ y.route[j] ∧ y.route[j] < y.par))
  case atStart => exact ⟨0, by omega, by omega, rfl, Lib.hid (by repeat (first | with_reducible exact Grew.refl _ | apply Grew.more | apply Grew.alloc | apply Grew.drew | apply Grew.drewN)), Lib.hid fun j _ h => by omega⟩
  case round =>
    obtain ⟨g, hg8, hgg, rfl, HGR, HNO⟩ := hrel
    have hbx2 := grew_heap HGR.out HBX.out
    have d4 := cell_of (o := 4) hbx2
    have px2 := Pre.mk (heap_lt hbx2)
    simp [encNd] at d4
    have HBX2 := Lib.hid hbx2
    by_cases hlt : g < 8
    · have dg := cell_of (o := 5 + g) hbx2
      rw [enc_route c g hlt] at dg
      have hrl : g < y.route.length := by rw [HRT.out]; exact hlt
      have hre : y.route[g] = ([c.r0, c.r1, c.r2, c.r3, c.r4, c.r5, c.r6, c.r7] : List Int)[g] := by
        have := HRT.out
        simp only [this]
      have HRE := Lib.hid hre
      clear hre hbx2
      generalize ([c.r0, c.r1, c.r2, c.r3, c.r4, c.r5, c.r6, c.r7] : List Int)[g] = x at *
      have HPA2 := Lib.hid (HPAR.out)
      clear c4
      generalize hcp : c.par = par at *
      have HCP := Lib.hid hcp
      clear hcp
      by_cases x0 : x < 0
      · go_upto_region 13 with fail
        go_quiet (fail)
        go_wp2
        refine HBAD.out (fun h => ?_) _ _ ⟨rfl, rfl, HG.out.trans (HGR.out.trans (by repeat (first | with_reducible exact Grew.refl _ | apply Grew.more | apply Grew.alloc | apply Grew.drew | apply Grew.drewN)))⟩
        have := (h _ (List.getElem_mem hrl)).1
        rw [HRE.out] at this
        omega
      · by_cases xp : par ≤ x
        · go_upto_region 13 with fail
          go_quiet (fail)
          go_wp2
          refine HBAD.out (fun h => ?_) _ _ ⟨rfl, rfl, HG.out.trans (HGR.out.trans (by repeat (first | with_reducible exact Grew.refl _ | apply Grew.more | apply Grew.alloc | apply Grew.drew | apply Grew.drewN)))⟩
          have := (h _ (List.getElem_mem hrl)).2
          rw [HRE.out, HPA2.out] at this
          omega
        · go_upto_region 13 with fail
          go_quiet (fail)
          go_wp2
          go_roundg (8 - (g + 1))
          case measure => omega
          case rel => exact ⟨g + 1, by omega, by omega, by go_num, Lib.hid (HGR.out.trans (by repeat (first | with_reducible exact Grew.refl _ | apply Grew.more | apply Grew.alloc | apply Grew.drew | apply Grew.drewN))), Lib.hid fun j hj h => by
            rcases Nat.lt_or_ge j g with h1 | h1
            · exact HNO.out j hj h1
            · obtain rfl : j = g := by omega
              rw [HRE.out, HPA2.out]
              exact ⟨by omega, by omega⟩⟩
    · obtain rfl : g = 8 := by omega
      have hok : OkRoute y := fun x hx => by
        obtain ⟨j, hj, rfl⟩ := List.mem_iff_getElem.1 hx
        exact HNO.out j hj (by rw [HRT.out] at hj; exact hj)
      have HOK := Lib.hid hok
      clear hok hbx2
      go_upto_if 75 with fail
      iterate 4 go_step
      refine HNX.out HOK.out _ _ HGR.out ?_
      exact ⟨rfl, rfl, rfl, rfl, rfl, HG.out.trans HGR.out, HBX2.out⟩
end Go.Proofs.YtmdmbimfdpngaaaGreat

/-! forebayref08.Check, cut: how many Froms; the program. -/
namespace Go.Proofs.YtmdmbimfdpngaaaGreat
set_option linter.unusedSimpArgs false
set_option linter.unusedVariables false
open Go.RowKit Ga
set_option maxRecDepth 100000

def OkFroms (y : Gr.Nd) : Prop := (y.kind = 0 → y.frm.length = 0) ∧ (y.kind = 1 → y.frm.length = 1) ∧ (y.kind = 2 → y.frm.length ≠ 0)
def OkProg (y : Gr.Nd) : Prop := (y.kind = 1 → Vm.safe y.prog = true) ∧ (y.kind ≠ 1 → y.prog.length = 0)
set_option maxHeartbeats 8000000 in
theorem chk_p3 (l : List Gr.Nd) (w W : World) (v : Value) (k tx : Nat) (src : Int) (c : NdC) (y : Gr.Nd) (Q : Exit → Act → World → Prop) (a0 : Act)
    (h0 : At11 w v k src tx (encNd c).toArray a0 W) (hn : NodeIs W c y) (hk02 : 0 ≤ y.kind ∧ y.kind ≤ 2) (hsrc : 0 ≤ src ∧ src ≤ 100)
    (hbad : ¬ OkFroms y → ∀ a' w', Ret11 w 10 a' w' → Q .ret a' w')
    (hnext : OkFroms y → ∀ a' w', Grew W w' → At11 w v k (src + if y.kind = 0 then 1 else 0) tx (encNd c).toArray a' w' → Code.wp Tryz.prog (tail11 19) Q a' w') :
    Code.wp Tryz.prog (tail11 15) Q a0 W := by
  have h0' := h0
  obtain ⟨hfr, h00, h03, h04, h05, hg, hbx⟩ := h0
  obtain ⟨u, hu⟩ : ∃ u : Nat → Value, u = fun i => a0.tmps.getD i undef := ⟨_, rfl⟩
  rw [← hu] at hfr
  have u0 : u 0 = _ := (congrFun hu 0).trans h00
  have u3 : u 3 = _ := (congrFun hu 3).trans h03
  have u4 : u 4 = _ := (congrFun hu 4).trans h04
  have u5 : u 5 = _ := (congrFun hu 5).trans h05
  clear hu h00 h03 h04 h0' h05
  subst hfr
  conv => arg 2; whnf
  unfold frameR
  rw [u0, u3, u4, u5]
  obtain ⟨id, kind, af, cf, ap, cp, par, r0, r1, r2, r3, r4, r5, r6, r7, rfl⟩ := hn.lit
  have ek := hn.kind
  simp only at ek
  have EK := Lib.hid ek
  have HG := Lib.hid hg
  have HBX := Lib.hid hbx
  have HBAD := Lib.hid hbad
  have HNX := Lib.hid hnext
  have HN := Lib.hid hn
  have c1 := cell_of (o := 1) hbx
  have c2 := cell_of (o := 2) hbx
  have c3 := cell_of (o := 3) hbx
  have px := Pre.mk (heap_lt hbx)
  simp [encNd] at c1 c2 c3
  obtain ⟨k0, k2⟩ := hk02
  rw [ek] at k0 k2
  obtain ⟨s0, s1⟩ := hsrc
  generalize efl : y.frm.length = fl at *
  have EFL := Lib.hid efl
  clear ek hg hbx hbad hnext hn u0 u3 u4 u5 efl
  have hkc : kind = 0 ∨ kind = 1 ∨ kind = 2 := by omega
  clear k0 k2
  rcases hkc with rfl | rfl | rfl
  · by_cases f0 : fl = 0
    · subst f0
      have hok : OkFroms y := ⟨fun _ => EFL.out, (fun h => by rw [EK.out] at h; cases h), (fun h => by rw [EK.out] at h; cases h)⟩
      have HOK := Lib.hid hok
      have hss : (src + if y.kind = 0 then 1 else 0) = src + 1 := by rw [if_pos EK.out]
      rw [hss] at HNX
      clear hok hss
      go_upto_if 127 with fail
      iterate 4 go_step
      refine HNX.out HOK.out _ _ (Grew.refl _) ?_
      exact ⟨rfl, rfl, rfl, rfl, rfl, HG.out, HBX.out⟩
    · have f0b : ((fl : Int) == 0) = false := by simp; omega
      have f0c : ((fl : Int) != 0) = true := by rw [bne_iff_ne]; omega
      have F0 := Lib.hid f0
      clear f0
      have hno : ¬ OkFroms y := fun h => F0.out (EFL.out.symm.trans (h.1 EK.out))
      have HNO := Lib.hid hno
      clear hno
      go_wp2
      exact HBAD.out HNO.out _ _ ⟨rfl, rfl, HG.out⟩
  · by_cases f0 : fl = 1
    · subst f0
      have hok : OkFroms y := ⟨(fun h => by rw [EK.out] at h; cases h), fun _ => EFL.out, (fun h => by rw [EK.out] at h; cases h)⟩
      have HOK := Lib.hid hok
      have hss : (src + if y.kind = 0 then 1 else 0) = src := by rw [if_neg (by rw [EK.out]; decide)]; omega
      rw [hss] at HNX
      clear hok hss
      go_upto_if 127 with fail
      iterate 4 go_step
      refine HNX.out HOK.out _ _ (Grew.refl _) ?_
      exact ⟨rfl, rfl, rfl, rfl, rfl, HG.out, HBX.out⟩
    · have f0b : ((fl : Int) == 1) = false := by simp; omega
      have f0c : ((fl : Int) != 1) = true := by rw [bne_iff_ne]; omega
      have F0 := Lib.hid f0
      clear f0
      have hno : ¬ OkFroms y := fun h => F0.out (EFL.out.symm.trans (h.2.1 EK.out))
      have HNO := Lib.hid hno
      clear hno
      go_wp2
      exact HBAD.out HNO.out _ _ ⟨rfl, rfl, HG.out⟩
  · by_cases f0 : fl = 0
    · subst f0
      have hno : ¬ OkFroms y := fun h => h.2.2 EK.out EFL.out
      have HNO := Lib.hid hno
      clear hno
      go_wp2
      exact HBAD.out HNO.out _ _ ⟨rfl, rfl, HG.out⟩
    · have f0b : ((fl : Int) == 0) = false := by simp; omega
      have F0 := Lib.hid f0
      clear f0
      have hok : OkFroms y := ⟨(fun h => by rw [EK.out] at h; cases h), (fun h => by rw [EK.out] at h; cases h), fun _ => by rw [EFL.out]; exact F0.out⟩
      have HOK := Lib.hid hok
      have hss : (src + if y.kind = 0 then 1 else 0) = src := by rw [if_neg (by rw [EK.out]; decide)]; omega
      rw [hss] at HNX
      clear hok hss
      go_upto_if 127 with fail
      iterate 4 go_step
      refine HNX.out HOK.out _ _ (Grew.refl _) ?_
      exact ⟨rfl, rfl, rfl, rfl, rfl, HG.out, HBX.out⟩
theorem field_known (d : Value) (n1 n2 : Int) (u1 u2 b : Bool) (W : World) : (Instr.field 93 (.agg #[d, .int .i64 n1, .int .i64 n2, .bool u1, .bool u2, .bool b]) 4).run Tryz.prog W = .ok (.bool b) W := by
  kernel_rfl
set_option maxHeartbeats 8000000 in
theorem chk_p4 (l : List Gr.Nd) (w W : World) (v : Value) (k tx : Nat) (src : Int) (c : NdC) (y : Gr.Nd) (Q : Exit → Act → World → Prop) (a0 : Act)
    (h0 : At11 w v k src tx (encNd c).toArray a0 W) (hn : NodeIs W c y)
    (hbad : ¬ OkProg y → ∀ a' w', Ret11 w 10 a' w' → Q .ret a' w')
    (hnext : OkProg y → ∀ a' w', Grew W w' → At11 w v k src tx (encNd c).toArray a' w' → Code.wp Tryz.prog (tail11 21) Q a' w') :
    Code.wp Tryz.prog (tail11 19) Q a0 W := by
  have h0' := h0
  obtain ⟨hfr, h00, h03, h04, h05, hg, hbx⟩ := h0
  obtain ⟨u, hu⟩ : ∃ u : Nat → Value, u = fun i => a0.tmps.getD i undef := ⟨_, rfl⟩
  rw [← hu] at hfr
  have u0 : u 0 = _ := (congrFun hu 0).trans h00
  have u3 : u 3 = _ := (congrFun hu 3).trans h03
  have u4 : u 4 = _ := (congrFun hu 4).trans h04
  have u5 : u 5 = _ := (congrFun hu 5).trans h05
  clear hu h00 h03 h04 h0' h05
  subst hfr
  conv => arg 2; whnf
  unfold frameR
  rw [u0, u3, u4, u5]
  obtain ⟨id, kind, af, cf, ap, cp, par, r0, r1, r2, r3, r4, r5, r6, r7, rfl⟩ := hn.lit
  have ek := hn.kind
  simp only at ek
  have EK := Lib.hid ek
  have HG := Lib.hid hg
  have HBX := Lib.hid hbx
  have HBAD := Lib.hid hbad
  have HNX := Lib.hid hnext
  have HN := Lib.hid hn
  have c1 := cell_of (o := 1) hbx
  have c2 := cell_of (o := 2) hbx
  have c3 := cell_of (o := 3) hbx
  have px := Pre.mk (heap_lt hbx)
  simp [encNd] at c1 c2 c3
  have HC : Hid (∀ W', Grew W W' → Calls Tryz.prog 35 #[.slice ap y.prog.length cp] W' (RefCheck y.prog W')) := Lib.hid fun W' (g : Grew W W') => refCheck_any _ y.prog W' (hn.p.grew g)
  have hfd := field_known
  generalize epl : y.prog.length = pl at *
  have EPL := Lib.hid epl
  generalize esf : Vm.safe y.prog = sf at *
  have ESF := Lib.hid esf
  clear ek hg hbx hbad hnext hn u0 u3 u4 u5 epl
  by_cases k1 : kind = 1
  · subst k1
    cases sf with
    | true =>
      have hok : OkProg y := ⟨fun _ => ESF.out, fun h => absurd EK.out h⟩
      have HOK := Lib.hid hok
      clear hok esf
      go_upto_if 148 with (go_at_call 35; refine (HC.out _ (by repeat (first | with_reducible exact Grew.refl _ | apply Grew.more | apply Grew.alloc | apply Grew.drew | apply Grew.drewN))).mono ?_; rintro e w1 ⟨⟨R3, n3, rfl⟩, d5, m1, m2, b1, b2, rfl⟩; rw [ESF.out])
      iterate 4 go_step
      refine HNX.out HOK.out _ _ (Grew.more (Grew.refl _) R3 n3) ?_
      exact ⟨rfl, rfl, rfl, rfl, rfl, HG.out.trans (by repeat (first | with_reducible exact Grew.refl _ | apply Grew.more | apply Grew.alloc | apply Grew.drew | apply Grew.drewN)), grew_heap (by repeat (first | with_reducible exact Grew.refl _ | apply Grew.more | apply Grew.alloc | apply Grew.drew | apply Grew.drewN)) HBX.out⟩
    | false =>
      have hno : ¬ OkProg y := fun h => by have := h.1 EK.out; rw [ESF.out] at this; cases this
      have HNO := Lib.hid hno
      clear hno esf
      go_wp2_with (go_at_call 35; refine (HC.out _ (by repeat (first | with_reducible exact Grew.refl _ | apply Grew.more | apply Grew.alloc | apply Grew.drew | apply Grew.drewN))).mono ?_; rintro e w1 ⟨⟨R3, n3, rfl⟩, d5, m1, m2, b1, b2, rfl⟩; rw [ESF.out])
      exact HBAD.out HNO.out _ _ ⟨rfl, rfl, HG.out.trans (by repeat (first | with_reducible exact Grew.refl _ | apply Grew.more | apply Grew.alloc | apply Grew.drew | apply Grew.drewN))⟩
  · have k1b : (kind == 1) = false := by simpa using k1
    have k1c : (kind != 1) = true := by rw [bne_iff_ne]; exact k1
    have K1 := Lib.hid k1
    clear k1 esf
    by_cases p0 : pl = 0
    · subst p0
      have hok : OkProg y := ⟨fun h => absurd (EK.out.symm.trans h) K1.out, fun _ => EPL.out⟩
      have HOK := Lib.hid hok
      clear hok
      go_upto_if 148 with fail
      iterate 4 go_step
      refine HNX.out HOK.out _ _ (Grew.refl _) ?_
      exact ⟨rfl, rfl, rfl, rfl, rfl, HG.out, HBX.out⟩
    · have p0b : ((pl : Int) != 0) = true := by rw [bne_iff_ne]; omega
      have hno : ¬ OkProg y := fun h => p0 (EPL.out.symm.trans (h.2 (fun q => K1.out (EK.out.symm.trans q))))
      have HNO := Lib.hid hno
      clear hno p0
      go_wp2
      exact HBAD.out HNO.out _ _ ⟨rfl, rfl, HG.out⟩
end Go.Proofs.YtmdmbimfdpngaaaGreat
