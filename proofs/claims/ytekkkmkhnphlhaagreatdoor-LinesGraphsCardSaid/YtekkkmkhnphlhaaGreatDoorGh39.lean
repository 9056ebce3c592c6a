import Derived.Test.YtekkkmkhnphlhaaGreatDoorGh35
/-! forebayref08.Check, cut: the routes. -/
namespace Go.Proofs.YtekkkmkhnphlhaaGreatDoor
set_option linter.unusedSimpArgs false
set_option linter.unusedVariables false
open Go.RowKit Ga
set_option maxRecDepth 100000

def OkRoute (y : Gr.Nd) : Prop := ∀ g ∈ y.route, 0 ≤ g ∧ g < y.par
theorem enc_route (c : NdC) (g : Nat) (h : g < 8) : (encNd c).toArray[5 + g]? = some (.int .i64 ([c.r0, c.r1, c.r2, c.r3, c.r4, c.r5, c.r6, c.r7] : List Int)[g]) := by
  rcases (show g = 0 ∨ g = 1 ∨ g = 2 ∨ g = 3 ∨ g = 4 ∨ g = 5 ∨ g = 6 ∨ g = 7 by omega) with rfl | rfl | rfl | rfl | rfl | rfl | rfl | rfl <;> rfl
set_option maxHeartbeats 8000000 in
theorem chk_p2 (l : List Gr.Nd) (w W : World) (v : Value) (k tx : Nat) (src : Int) (c : NdC) (y : Gr.Nd) (Q : Exit → Act → World → Prop) (a0 : Act)
    (h0 : At11 w v k src tx (encNd c).toArray a0 W) (hn : NodeIs W c y)
    (hbad : ¬ OkRoute y → ∀ a' w', Ret11 w 10 a' w' → Q .ret a' w')
    (hnext : OkRoute y → ∀ a' w', Grew W w' → At11 w v k src tx (encNd c).toArray a' w' → Code.wp Tryz.prog (tail11 15) Q a' w') :
    Code.wp Tryz.prog (tail11 10) Q a0 W := by
  have h0' := h0
  obtain ⟨hfr, h00, h03, h04, h05, hg, hbx⟩ := h0
  obtain ⟨u, hu⟩ : ∃ u : Nat → Value, u = fun i => a0.tmps.getD i undef := ⟨_, rfl⟩
  rw [← hu] at hfr
  have u0 : u 0 = _ := (congrFun hu 0).trans h00
  have u3 : u 3 = _ := (congrFun hu 3).trans h03
  have u4 : u 4 = _ := (congrFun hu 4).trans h04
  have u5 : u 5 = _ := (congrFun hu 5).trans h05
  clear hu h00 h03 h04 h0' h05
  subst hfr
  conv => arg 2; whnf
  unfold frameR
  rw [u0, u3, u4, u5]
  have hrt := hn.route
  have hpar := hn.par
  have HRT := Lib.hid hrt
  have HPAR := Lib.hid hpar
  have HG := Lib.hid hg
  have HBX := Lib.hid hbx
  have HBAD := Lib.hid hbad
  have HNX := Lib.hid hnext
  have c4 := cell_of (o := 4) hbx
  have px := Pre.mk (heap_lt hbx)
  simp [encNd] at c4
  clear hrt hpar hg hbx hbad hnext hn u0 u3 u4 u5
  go_wp2
  go_loopg [6] 8 (fun gg s6 wr => ∃ g : Nat, g ≤ 8 ∧ 8 - g ≤ gg ∧ s6 = .int .i64 g ∧ Hid (Grew W wr) ∧ Hid (∀ j (hj : j < y.route.length), j < g → 0 ≤ y.route[j] ∧ y.route[j] < y.par))
  case atStart => exact ⟨0, by omega, by omega, rfl, Lib.hid (by repeat (first | with_reducible exact Grew.refl _ | apply Grew.more | apply Grew.alloc | apply Grew.drew | apply Grew.drewN)), Lib.hid fun j _ h => by omega⟩
  case round =>
    obtain ⟨g, hg8, hgg, rfl, HGR, HNO⟩ := hrel
    have hbx2 := grew_heap HGR.out HBX.out
    have d4 := cell_of (o := 4) hbx2
    have px2 := Pre.mk (heap_lt hbx2)
    simp [encNd] at d4
    have HBX2 := Lib.hid hbx2
    by_cases hlt : g < 8
    · have dg := cell_of (o := 5 + g) hbx2
      rw [enc_route c g hlt] at dg
      have hrl : g < y.route.length := by rw [HRT.out]; exact hlt
      have hre : y.route[g] = ([c.r0, c.r1, c.r2, c.r3, c.r4, c.r5, c.r6, c.r7] : List Int)[g] := by
        have := HRT.out
        simp only [this]
      have HRE := Lib.hid hre
      clear hre hbx2
      generalize ([c.r0, c.r1, c.r2, c.r3, c.r4, c.r5, c.r6, c.r7] : List Int)[g] = x at *
      have HPA2 := Lib.hid (HPAR.out)
      clear c4
      generalize hcp : c.par = par at *
      have HCP := Lib.hid hcp
      clear hcp
      by_cases x0 : x < 0
      · go_upto_region 13 with fail
        go_quiet (fail)
        go_wp2
        refine HBAD.out (fun h => ?_) _ _ ⟨rfl, rfl, HG.out.trans (HGR.out.trans (by repeat (first | with_reducible exact Grew.refl _ | apply Grew.more | apply Grew.alloc | apply Grew.drew | apply Grew.drewN)))⟩
        have := (h _ (List.getElem_mem hrl)).1
        rw [HRE.out] at this
        omega
      · by_cases xp : par ≤ x
        · go_upto_region 13 with fail
          go_quiet (fail)
          go_wp2
          refine HBAD.out (fun h => ?_) _ _ ⟨rfl, rfl, HG.out.trans (HGR.out.trans (by repeat (first | with_reducible exact Grew.refl _ | apply Grew.more | apply Grew.alloc | apply Grew.drew | apply Grew.drewN)))⟩
          have := (h _ (List.getElem_mem hrl)).2
          rw [HRE.out, HPA2.out] at this
          omega
        · go_upto_region 13 with fail
          go_quiet (fail)
          go_wp2
          go_roundg (8 - (g + 1))
          case measure => omega
          case rel => exact ⟨g + 1, by omega, by omega, by go_num, Lib.hid (HGR.out.trans (by repeat (first | with_reducible exact Grew.refl _ | apply Grew.more | apply Grew.alloc | apply Grew.drew | apply Grew.drewN))), Lib.hid fun j hj h => by
            rcases Nat.lt_or_ge j g with h1 | h1
            · exact HNO.out j hj h1
            · obtain rfl : j = g := by omega
              rw [HRE.out, HPA2.out]
              exact ⟨by omega, by omega⟩⟩
    · obtain rfl : g = 8 := by omega
      have hok : OkRoute y := fun x hx => by
        obtain ⟨j, hj, rfl⟩ := List.mem_iff_getElem.1 hx
        exact HNO.out j hj (by rw [HRT.out] at hj; exact hj)
      have HOK := Lib.hid hok
      clear hok hbx2
      go_upto_if 75 with fail
      iterate 4 go_step
      refine HNX.out HOK.out _ _ HGR.out ?_
      exact ⟨rfl, rfl, rfl, rfl, rfl, HG.out.trans HGR.out, HBX2.out⟩
end Go.Proofs.YtekkkmkhnphlhaaGreatDoor
