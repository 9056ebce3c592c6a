import Derived.Test.YtekkkmkhnphlhaaGreatDoorGh41
/-! forebayref08.Check, cut: each From. -/
namespace Go.Proofs.YtekkkmkhnphlhaaGreatDoor
set_option linter.unusedSimpArgs false
set_option linter.unusedVariables false
open Go.RowKit Ga
set_option maxRecDepth 100000

def OkFr1 (l : List Gr.Nd) (y : Gr.Nd) (i : Nat) (f : Int) : Prop := (∃ j m, Gr.find l f = some j ∧ l[j]? = some m ∧ m.kind ≠ 2) ∧ f ∉ y.frm.take i
def OkFr (l : List Gr.Nd) (y : Gr.Nd) : Prop := ∀ i f, y.frm[i]? = some f → OkFr1 l y i f
set_option maxHeartbeats 16000000 in
theorem chk_p5 (l : List Gr.Nd) (w W : World) (b off cap : Nat) (k tx : Nat) (src : Int) (c : NdC) (y : Gr.Nd) (Q : Exit → Act → World → Prop) (a0 : Act)
    (h0 : At11 w (.slice (some ⟨b, off, none⟩) l.length cap) k src tx (encNd c).toArray a0 W) (hn : NodeIs W c y) (hv : NodesAt w (.slice (some ⟨b, off, none⟩) l.length cap) l) (hm : l.length ≤ 1000) (hfl : y.frm.length ≤ 3)
    (hbad : ¬ OkFr l y → ∀ a' w', Ret11 w 10 a' w' → Q .ret a' w')
    (hnext : OkFr l y → ∀ a' w', Grew W w' → At11 w (.slice (some ⟨b, off, none⟩) l.length cap) k src tx (encNd c).toArray a' w' → Q .normal a' w') :
    Code.wp Tryz.prog (tail11 21) Q a0 W := by
  have h0' := h0
  obtain ⟨hfr, h00, h03, h04, h05, hg, hbx⟩ := h0
  obtain ⟨u, hu⟩ : ∃ u : Nat → Value, u = fun i => a0.tmps.getD i undef := ⟨_, rfl⟩
  rw [← hu] at hfr
  have u0 : u 0 = _ := (congrFun hu 0).trans h00
  have u3 : u 3 = _ := (congrFun hu 3).trans h03
  have u4 : u 4 = _ := (congrFun hu 4).trans h04
  have u5 : u 5 = _ := (congrFun hu 5).trans h05
  clear hu h00 h03 h04 h0' h05
  subst hfr
  conv => arg 2; whnf
  unfold frameR
  rw [u0, u3, u4, u5]
  obtain ⟨id, kind, af, cf, ap, cp, par, r0, r1, r2, r3, r4, r5, r6, r7, rfl⟩ := hn.lit
  have HG := Lib.hid hg
  have HBX := Lib.hid hbx
  have HBAD := Lib.hid hbad
  have HNX := Lib.hid hnext
  have HF := Lib.hid hn.f
  have HV := Lib.hid (hv.grew hg)
  have hfc := hn.fc
  have c2 := cell_of (o := 2) hbx
  have px := Pre.mk (heap_lt hbx)
  simp [encNd] at c2
  simp only at hfc
  obtain ⟨fl, efl⟩ : ∃ fl, fl = y.frm := ⟨_, rfl⟩
  have EFL := Lib.hid efl
  rw [← efl] at c2 hfc hfl
  clear hg hbx hbad hnext hn hv u0 u3 u4 u5 efl
  go_wp2
  go_loopg [7] fl.length (fun gg s7 wr => ∃ g : Nat, g ≤ fl.length ∧ fl.length - g ≤ gg ∧ s7 = .int .i64 g ∧ Hid (Grew W wr) ∧ Hid (∀ j f, fl[j]? = some f → j < g → OkFr1 l y j f))
  case atStart => exact ⟨0, by omega, by omega, rfl, Lib.hid (by repeat (first | with_reducible exact Grew.refl _ | apply Grew.more | apply Grew.alloc | apply Grew.drew | apply Grew.drewN)), Lib.hid fun j f _ h => by omega⟩
  case round =>
    obtain ⟨g, hg8, hgg, rfl, HGR, HNO⟩ := hrel
    have hbx2 := grew_heap HGR.out HBX.out
    have d2 := cell_of (o := 2) hbx2
    have px2 := Pre.mk (heap_lt hbx2)
    simp [encNd] at d2
    rw [← EFL.out] at d2
    have HBX2 := Lib.hid hbx2
    clear hbx2 c2
    by_cases hlt : g < fl.length
    · have hrows : IntsAt wr (.slice af fl.length cf) fl := by
        have := HF.out.grew HGR.out
        simp only [NdC.vf] at this
        rw [← EFL.out] at this
        exact this
      obtain ⟨af', cf', e, -, hx⟩ := ints_open hrows
      cases e
      obtain ⟨bf, offf, rfl, hpf, cx⟩ := hx g hlt
      have htk : IntsAt wr (.slice (some ⟨bf, offf, none⟩) g cf) (fl.take g) := RowsAt.take hrows (by omega)
      obtain ⟨av, cv, e, -, hxl⟩ := (HV.out.grew HGR.out).openC
      cases e
      have hget : y.frm[g]? = some fl[g] := by rw [← EFL.out]; exact List.getElem?_eq_getElem hlt
      have HGET := Lib.hid hget
      have HFIND := Lib.hid fun W' (gr : Grew wr W') => refFind08_any _ l fl[g] W' ((HV.out.grew HGR.out).grew gr)
      have HHAS := Lib.hid fun n => refHas08_any _ (fl.take g) fl[g] (wr.drewN n) (htk.grew ((Grew.refl wr).drewN n))
      have HETK := Lib.hid (congrArg (List.take g) EFL.out)
      have hgc : (g : Int) ≤ (cf : Int) := by omega
      have hgc2 : g ≤ cf := by omega
      clear hx hget hrows htk
      generalize hxx : fl[g] = x at *
      have HXX := Lib.hid hxx
      clear hxx
      cases hf : Gr.find l x with
      | none =>
        have hi := findI_none hf
        have HI := Lib.hid hi
        have hno : ¬ OkFr l y := fun h => by
          obtain ⟨⟨j, m, h1, _⟩, _⟩ := h g x HGET.out
          rw [hf] at h1
          cases h1
        have HNOT := Lib.hid hno
        clear hi hf hno hxl
        go_upto_region 25 with (go_at_call 45; refine (HFIND.out _ (by repeat (first | with_reducible exact Grew.refl _ | apply Grew.more | apply Grew.alloc | apply Grew.drew | apply Grew.drewN))).mono ?_; rintro e w1 ⟨rfl, hw1⟩; obtain rfl := hw1.symm; rw [HI.out])
        go_quiet (fail)
        go_wp2
        exact HBAD.out HNOT.out _ _ ⟨rfl, rfl, HG.out.trans (HGR.out.trans (by repeat (first | with_reducible exact Grew.refl _ | apply Grew.more | apply Grew.alloc | apply Grew.drew | apply Grew.drewN)))⟩
      | some j =>
        obtain ⟨hi, hjl⟩ := findI_some hf
        have HI := Lib.hid hi
        obtain ⟨b', off', cm, eb, hpb, hnm, -, dk, -⟩ := hxl j hjl
        cases eb
        have ekm := hnm.kind
        have hjm : l[j]? = some l[j] := List.getElem?_eq_getElem hjl
        have hj0 : decide ((j : Int) < 0) = false := decide_eq_false (by omega)
        have hj1 : (j : Int) < (l.length : Int) := by omega
        have HFJ := Lib.hid hf
        have HJM := Lib.hid hjm
        clear hi hf hjm hxl hnm
        generalize cm.kind = km at *
        have HEKM := Lib.hid ekm
        clear ekm
        by_cases k2 : km = 2
        · subst k2
          have hno : ¬ OkFr l y := fun h => by
            obtain ⟨⟨j', m, h1, h2, h3⟩, _⟩ := h g x HGET.out
            rw [HFJ.out] at h1
            cases h1
            rw [HJM.out] at h2
            cases h2
            exact h3 HEKM.out
          have HNOT := Lib.hid hno
          clear hno
          go_upto_region 25 with (go_at_call 45; refine (HFIND.out _ (by repeat (first | with_reducible exact Grew.refl _ | apply Grew.more | apply Grew.alloc | apply Grew.drew | apply Grew.drewN))).mono ?_; rintro e w1 ⟨rfl, hw1⟩; obtain rfl := hw1.symm; rw [HI.out])
          go_quiet (fail)
          go_wp2
          exact HBAD.out HNOT.out _ _ ⟨rfl, rfl, HG.out.trans (HGR.out.trans (by repeat (first | with_reducible exact Grew.refl _ | apply Grew.more | apply Grew.alloc | apply Grew.drew | apply Grew.drewN)))⟩
        · have k2b : (km == 2) = false := by simpa using k2
          have K2 := Lib.hid k2
          clear k2
          by_cases hin : x ∈ fl.take g
          · have hno : ¬ OkFr l y := fun h => by
              obtain ⟨_, h2⟩ := h g x HGET.out
              rw [← EFL.out] at h2
              exact h2 hin
            have HNOT := Lib.hid hno
            have HIN := Lib.hid (decide_eq_true hin)
            clear hno hin
            go_upto_region 25 with (go_at_call 45; refine (HFIND.out _ (by repeat (first | with_reducible exact Grew.refl _ | apply Grew.more | apply Grew.alloc | apply Grew.drew | apply Grew.drewN))).mono ?_; rintro e w1 ⟨rfl, hw1⟩; obtain rfl := hw1.symm; rw [HI.out])
            go_quiet (first | (go_at_call 47; refine Calls.quiet_of_same ((HHAS.out _).mono fun e w' h => ⟨h.1.trans (by rw [HIN.out]), h.2⟩)))
            go_wp2
            exact HBAD.out HNOT.out _ _ ⟨rfl, rfl, HG.out.trans (HGR.out.trans (by repeat (first | with_reducible exact Grew.refl _ | apply Grew.more | apply Grew.alloc | apply Grew.drew | apply Grew.drewN)))⟩
          · have HIN := Lib.hid (decide_eq_false hin)
            have HOUT := Lib.hid hin
            clear hin
            go_upto_region 25 with (go_at_call 45; refine (HFIND.out _ (by repeat (first | with_reducible exact Grew.refl _ | apply Grew.more | apply Grew.alloc | apply Grew.drew | apply Grew.drewN))).mono ?_; rintro e w1 ⟨rfl, hw1⟩; obtain rfl := hw1.symm; rw [HI.out])
            go_quiet (first | (go_at_call 47; refine Calls.quiet_of_same ((HHAS.out _).mono fun e w' h => ⟨h.1.trans (by rw [HIN.out]), h.2⟩)))
            go_wp2
            go_roundg (fl.length - (g + 1))
            case measure => omega
            case rel => exact ⟨g + 1, by omega, by omega, by go_num, Lib.hid (HGR.out.trans (by repeat (first | with_reducible exact Grew.refl _ | apply Grew.more | apply Grew.alloc | apply Grew.drew | apply Grew.drewN))), Lib.hid fun i f hi h => by
              rcases Nat.lt_or_ge i g with h1 | h1
              · exact HNO.out i f hi h1
              · obtain rfl : i = g := by omega
                rw [List.getElem?_eq_getElem hlt, HXX.out] at hi
                cases hi
                exact ⟨⟨j, _, HFJ.out, HJM.out, fun q => K2.out (HEKM.out.symm.trans q)⟩, by rw [← EFL.out]; exact HOUT.out⟩⟩
    · obtain rfl : g = fl.length := by omega
      have hok : OkFr l y := fun i f hi => by
        rw [← EFL.out] at hi
        exact HNO.out i f hi (List.getElem?_eq_some_iff.1 hi).1
      have HOK := Lib.hid hok
      clear hok
      go_upto_if 153 with fail
      iterate 3 go_step
      refine HNX.out HOK.out _ _ HGR.out ?_
      exact ⟨rfl, rfl, rfl, rfl, rfl, HG.out.trans HGR.out, HBX2.out⟩
end Go.Proofs.YtekkkmkhnphlhaaGreatDoor
