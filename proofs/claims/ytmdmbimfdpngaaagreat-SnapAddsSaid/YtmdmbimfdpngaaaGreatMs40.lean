import Derived.Test.YtmdmbimfdpngaaaGreatMs39
import Derived.Test.YtmdmbimfdpngaaaGreatMs22
import Derived.Test.YtmdmbimfdpngaaaGreatMs9
import Derived.Test.YtmdmbimfdpngaaaGreatMs34
import Derived.Test.YtmdmbimfdpngaaaGreatMs30
import Derived.Test.YtmdmbimfdpngaaaGreatMs27
/-! forebayref08.Check, cut: each From. -/
namespace Go.Proofs.YtmdmbimfdpngaaaGreat
set_option linter.unusedSimpArgs false
set_option linter.unusedVariables false
open Go.RowKit Ga
set_option maxRecDepth 100000

def OkFr1 (l : List Gr.Nd) (y : Gr.Nd) (i : Nat) (f : Int) : Prop := (∃ j m, Gr.find l f = some j ∧ l[j]? = some m ∧ m.kind ≠ 2) ∧ f ∉ y.frm.take i
def OkFr (l : List Gr.Nd) (y : Gr.Nd) : Prop := ∀ i f, y.frm[i]? = some f → OkFr1 l y i f
set_option maxHeartbeats 16000000 in
theorem chk_p5 (l : List Gr.Nd) (w W : World) (b off cap : Nat) (k tx : Nat) (src : Int) (c : NdC) (y : Gr.Nd) (Q : Exit → Act → World → Prop) (a0 : Act)
    (h0 : At11 w (.slice (some ⟨b, off, none⟩) l.length cap) k src tx (encNd c).toArray a0 W) (hn : NodeIs W c y) (hv : NodesAt w (.slice (some ⟨b, off, none⟩) l.length cap) l) (hm : l.length ≤ 1000) (hfl : y.frm.length ≤ 3)
    (hbad : ¬ OkFr l y → ∀ a' w', Ret11 w 10 a' w' → Q .ret a' w')
    (hnext : OkFr l y → ∀ a' w', Grew W w' → At11 w (.slice (some ⟨b, off, none⟩) l.length cap) k src tx (encNd c).toArray a' w' → Q .normal a' w') :
    Code.wp Tryz.prog (tail11 21) Q a0 W := by
  have h0' := h0
  obtain ⟨hfr, h00, h03, h04, h05, hg, hbx⟩ := h0
  obtain ⟨u, hu⟩ : ∃ u : Nat → Value, u = fun i => a0.tmps.getD i undef := ⟨_, rfl⟩
  rw [← hu] at hfr
  have u0 : u 0 = _ := (congrFun hu 0).trans h00
  have u3 : u 3 = _ := (congrFun hu 3).trans h03
  have u4 : u 4 = _ := (congrFun hu 4).trans h04
  have u5 : u 5 = _ := (congrFun hu 5).trans h05
  clear hu h00 h03 h04 h0' h05
  subst hfr
  conv => arg 2; whnf
  unfold frameR
  rw [u0, u3, u4, u5]
  obtain ⟨id, kind, af, cf, ap, cp, par, r0, r1, r2, r3, r4, r5, r6, r7, rfl⟩ := hn.lit
  have HG := Lib.hid hg
  have HBX := Lib.hid hbx
  have HBAD := Lib.hid hbad
  have HNX := Lib.hid hnext
  have HF := Lib.hid hn.f
  have HV := Lib.hid (hv.grew hg)
  have hfc := hn.fc
  have c2 := cell_of (o := 2) hbx
  have px := Pre.mk (heap_lt hbx)
  simp [encNd] at c2
  simp only at hfc
  obtain ⟨fl, efl⟩ : ∃ fl, fl = y.frm := ⟨_, rfl⟩
  have EFL := Lib.hid efl
  rw [← efl] at c2 hfc hfl
  clear hg hbx hbad hnext hn hv u0 u3 u4 u5 efl
  go_wp2
  go_loopg [7] fl.length (fun gg s7 wr => ∃ g : Nat, g ≤ fl.length ∧ fl.length - g ≤ gg ∧ s7 = .int .i64 g ∧ Hid (Grew W wr) ∧ Hid (∀ j f, fl[j]? = some f → j < g → OkFr1 l y j f))
  case atStart => exact ⟨0, by omega, by omega, rfl, Lib.hid (by repeat (first | with_reducible exact Grew.refl _ | apply Grew.more | apply Grew.alloc | apply Grew.drew | apply Grew.drewN)), Lib.hid fun j f _ h => by omega⟩
  case round =>
    obtain ⟨g, hg8, hgg, rfl, HGR, HNO⟩ := hrel
    have hbx2 := grew_heap HGR.out HBX.out
    have d2 := cell_of (o := 2) hbx2
    have px2 := Pre.mk (heap_lt hbx2)
    simp [encNd] at d2
    rw [← EFL.out] at d2
    have HBX2 := Lib.hid hbx2
    clear hbx2 c2
    by_cases hlt : g < fl.length
    · have hrows : IntsAt wr (.slice af fl.length cf) fl := by
        have := HF.out.grew HGR.out
        simp only [NdC.vf] at this
        rw [← EFL.out] at this
        exact this
      obtain ⟨af', cf', e, -, hx⟩ := ints_open hrows
      cases e
      obtain ⟨bf, offf, rfl, hpf, cx⟩ := hx g hlt
      have htk : IntsAt wr (.slice (some ⟨bf, offf, none⟩) g cf) (fl.take g) := RowsAt.take hrows (by omega)
      obtain ⟨av, cv, e, -, hxl⟩ := (HV.out.grew HGR.out).openC
      cases e
      have hget : y.frm[g]? = some fl[g] := by rw [← EFL.out]; exact List.getElem?_eq_getElem hlt
      have HGET := Lib.hid hget
      have HFIND := Lib.hid fun W' (gr : Grew wr W') => refFind08_any _ l fl[g] W' ((HV.out.grew HGR.out).grew gr)
      have HHAS := Lib.hid fun n => refHas08_any _ (fl.take g) fl[g] (wr.drewN n) (htk.grew ((Grew.refl wr).drewN n))
      have HETK := Lib.hid (congrArg (List.take g) EFL.out)
      have hgc : (g : Int) ≤ (cf : Int) := by omega
      have hgc2 : g ≤ cf := by omega
      clear hx hget hrows htk
      generalize hxx : fl[g] = x at *
      have HXX := Lib.hid hxx
      clear hxx
      cases hf : Gr.find l x with
      | none =>
        have hi := findI_none hf
        have HI := Lib.hid hi
        have hno : ¬ OkFr l y := fun h => by
          obtain ⟨⟨j, m, h1, _⟩, _⟩ := h g x HGET.out
          rw [hf] at h1
          cases h1
        have HNOT := Lib.hid hno
        clear hi hf hno hxl
        go_upto_region 25 with (go_at_call 18; refine (HFIND.out _ (by repeat (first | with_reducible exact Grew.refl _ | apply Grew.more | apply Grew.alloc | apply Grew.drew | apply Grew.drewN))).mono ?_; rintro e w1 ⟨rfl, hw1⟩; obtain rfl := hw1.symm; rw [HI.out])
        go_quiet (fail)
        go_wp2
        exact HBAD.out HNOT.out _ _ ⟨rfl, rfl, HG.out.trans (HGR.out.trans (by repeat (first | with_reducible exact Grew.refl _ | apply Grew.more | apply Grew.alloc | apply Grew.drew | apply Grew.drewN)))⟩
      | some j =>
        obtain ⟨hi, hjl⟩ := findI_some hf
        have HI := Lib.hid hi
        obtain ⟨b', off', cm, eb, hpb, hnm, -, dk, -⟩ := hxl j hjl
        cases eb
        have ekm := hnm.kind
        have hjm : l[j]? = some l[j] := List.getElem?_eq_getElem hjl
        have hj0 : decide ((j : Int) < 0) = false := decide_eq_false (by omega)
        have hj1 : (j : Int) < (l.length : Int) := by omega
        have HFJ := Lib.hid hf
        have HJM := Lib.hid hjm
        clear hi hf hjm hxl hnm
        generalize cm.kind = km at *
        have HEKM := Lib.hid ekm
        clear ekm
        by_cases k2 : km = 2
        · subst k2
          have hno : ¬ OkFr l y := fun h => by
            obtain ⟨⟨j', m, h1, h2, h3⟩, _⟩ := h g x HGET.out
            rw [HFJ.out] at h1
            cases h1
            rw [HJM.out] at h2
            cases h2
            exact h3 HEKM.out
          have HNOT := Lib.hid hno
          clear hno
          go_upto_region 25 with (go_at_call 18; refine (HFIND.out _ (by repeat (first | with_reducible exact Grew.refl _ | apply Grew.more | apply Grew.alloc | apply Grew.drew | apply Grew.drewN))).mono ?_; rintro e w1 ⟨rfl, hw1⟩; obtain rfl := hw1.symm; rw [HI.out])
          go_quiet (fail)
          go_wp2
          exact HBAD.out HNOT.out _ _ ⟨rfl, rfl, HG.out.trans (HGR.out.trans (by repeat (first | with_reducible exact Grew.refl _ | apply Grew.more | apply Grew.alloc | apply Grew.drew | apply Grew.drewN)))⟩
        · have k2b : (km == 2) = false := by simpa using k2
          have K2 := Lib.hid k2
          clear k2
          by_cases hin : x ∈ fl.take g
          · have hno : ¬ OkFr l y := fun h => by
              obtain ⟨_, h2⟩ := h g x HGET.out
              rw [← EFL.out] at h2
              exact h2 hin
            have HNOT := Lib.hid hno
            have HIN := Lib.hid (decide_eq_true hin)
            clear hno hin
            go_upto_region 25 with (go_at_call 18; refine (HFIND.out _ (by repeat (first | with_reducible exact Grew.refl _ | apply Grew.more | apply Grew.alloc | apply Grew.drew | apply Grew.drewN))).mono ?_; rintro e w1 ⟨rfl, hw1⟩; obtain rfl := hw1.symm; rw [HI.out])
            go_quiet (first | (go_at_call 36; refine Calls.quiet_of_same ((HHAS.out _).mono fun e w' h => ⟨h.1.trans (by rw [HIN.out]), h.2⟩)))
            go_wp2
            exact HBAD.out HNOT.out _ _ ⟨rfl, rfl, HG.out.trans (HGR.out.trans (by repeat (first | with_reducible exact Grew.refl _ | apply Grew.more | apply Grew.alloc | apply Grew.drew | apply Grew.drewN)))⟩
          · have HIN := Lib.hid (decide_eq_false hin)
            have HOUT := Lib.hid hin
            clear hin
            go_upto_region 25 with (go_at_call 18; refine (HFIND.out _ (by repeat (first | with_reducible exact Grew.refl _ | apply Grew.more | apply Grew.alloc | apply Grew.drew | apply Grew.drewN))).mono ?_; rintro e w1 ⟨rfl, hw1⟩; obtain rfl := hw1.symm; rw [HI.out])
            go_quiet (first | (go_at_call 36; refine Calls.quiet_of_same ((HHAS.out _).mono fun e w' h => ⟨h.1.trans (by rw [HIN.out]), h.2⟩)))
            go_wp2
            go_roundg (fl.length - (g + 1))
            case measure => omega
            case rel => exact ⟨g + 1, by omega, by omega, by go_num, Lib.hid (HGR.out.trans (by repeat (first | with_reducible exact Grew.refl _ | apply Grew.more | apply Grew.alloc | apply Grew.drew | apply Grew.drewN))), Lib.hid fun i f hi h => by
              rcases Nat.lt_or_ge i g with h1 | h1
              · exact HNO.out i f hi h1
              · obtain rfl : i = g := by omega
                rw [List.getElem?_eq_getElem hlt, HXX.out] at hi
                cases hi
                exact ⟨⟨j, _, HFJ.out, HJM.out, fun q => K2.out (HEKM.out.symm.trans q)⟩, by rw [← EFL.out]; exact HOUT.out⟩⟩
    · obtain rfl : g = fl.length := by omega
      have hok : OkFr l y := fun i f hi => by
        rw [← EFL.out] at hi
        exact HNO.out i f hi (List.getElem?_eq_some_iff.1 hi).1
      have HOK := Lib.hid hok
      clear hok
      go_upto_if 153 with fail
      iterate 3 go_step
      refine HNX.out HOK.out _ _ HGR.out ?_
      exact ⟨rfl, rfl, rfl, rfl, rfl, HG.out.trans HGR.out, HBX2.out⟩
end Go.Proofs.YtmdmbimfdpngaaaGreat

/-! forebayref08.Check, cut: none above itself. -/
namespace Go.Proofs.YtmdmbimfdpngaaaGreat
set_option linter.unusedSimpArgs false
set_option linter.unusedVariables false
open Go.RowKit Ga
set_option maxRecDepth 100000

set_option maxHeartbeats 16000000 in
theorem chk_p6 (l : List Gr.Nd) (v : Value) (w W : World) (src : Int) (Q : Exit → Act → World → Prop) (a0 : Act)
    (hfr : a0 = frameR (fun i => a0.tmps.getD i undef)) (h00 : a0.tmps.getD 0 undef = v) (h03 : a0.tmps.getD 3 undef = .int .i64 src) (hg : Grew w W) (hv : NodesAt w v l)
    (hbad : (src ≠ 1 ∨ ¬ ∀ n ∈ l, Gr.above l n.id n.id 9 = false) → ∀ a' w', Ret11 w 10 a' w' → Q .ret a' w')
    (hnext : src = 1 → (∀ n ∈ l, Gr.above l n.id n.id 9 = false) → ∀ a' w', Ret11 w 0 a' w' → Q .ret a' w') :
    Code.wp Tryz.prog (tail11 27) Q a0 W := by
  obtain ⟨u, hu⟩ : ∃ u : Nat → Value, u = fun i => a0.tmps.getD i undef := ⟨_, rfl⟩
  rw [← hu] at hfr
  have u0 : u 0 = _ := (congrFun hu 0).trans h00
  have u3 : u 3 = _ := (congrFun hu 3).trans h03
  clear hu h00 h03
  subst hfr
  obtain ⟨a, cap, rfl, hm, -⟩ := hv.openC
  conv => arg 2; whnf
  unfold frameR
  rw [u0, u3]
  have HG := Lib.hid hg
  have HBAD := Lib.hid hbad
  have HNX := Lib.hid hnext
  have HV := Lib.hid (hv.grew hg)
  clear hg hbad hnext hv u0 u3
  by_cases k1 : src = 1
  · subst k1
    go_wp2
    go_loopg [9] l.length (fun gg s9 wr => ∃ g : Nat, g ≤ l.length ∧ l.length - g ≤ gg ∧ s9 = .int .i64 g ∧ Hid (Grew W wr) ∧ Hid (∀ i (hi : i < l.length), i < g → Gr.above l l[i].id l[i].id 9 = false))
    case atStart => exact ⟨0, by omega, by omega, rfl, Lib.hid (by repeat (first | with_reducible exact Grew.refl _ | apply Grew.more | apply Grew.alloc | apply Grew.drew | apply Grew.drewN)), Lib.hid fun i _ h => by omega⟩
    case round =>
      obtain ⟨g, hg8, hgg, rfl, HGR, HNO⟩ := hrel
      by_cases hlt : g < l.length
      · obtain ⟨av, cv, e, -, hx⟩ := (HV.out.grew HGR.out).openC
        cases e
        obtain ⟨b, off, c, rfl, hb, hn, c0, -⟩ := hx g hlt
        have eid := hn.id
        have HAB := Lib.hid fun n => refAbove08_any _ l (wr.drewN n) ((HV.out.grew HGR.out).grew ((Grew.refl wr).drewN n)) 9 (by omega) l[g].id l[g].id
        have HBK := Lib.hid fun (h : Gr.above l l[g].id l[g].id 9 = true) => HBAD.out (Or.inr fun q => by rw [q _ (List.getElem_mem hlt)] at h; cases h)
        obtain ⟨x, hx2⟩ : ∃ x, x = c.id := ⟨_, rfl⟩
        have HX := Lib.hid (eid.trans hx2.symm)
        rw [← hx2] at c0
        rw [eid, ← hx2] at HAB HBK
        clear hx hn eid hx2
        cases hq : Gr.above l x x 9
        · have HQ := Lib.hid hq
          clear hq
          go_upto_region 32 with fail
          go_quiet (first | (go_at_call 37; refine Calls.quiet_of_same ((HAB.out _).mono fun e w' h => ⟨h.1.trans (by rw [HQ.out]), h.2⟩)))
          go_wp2
          go_roundg (l.length - (g + 1))
          case measure => omega
          case rel => exact ⟨g + 1, by omega, by omega, by go_num, Lib.hid (HGR.out.trans (by repeat (first | with_reducible exact Grew.refl _ | apply Grew.more | apply Grew.alloc | apply Grew.drew | apply Grew.drewN))), Lib.hid fun i hi h => by
            rcases Nat.lt_or_ge i g with h1 | h1
            · exact HNO.out i hi h1
            · obtain rfl : i = g := by omega
              rw [HX.out]
              exact HQ.out⟩
        · have HQ := Lib.hid hq
          clear hq
          go_upto_region 32 with fail
          go_quiet (first | (go_at_call 37; refine Calls.quiet_of_same ((HAB.out _).mono fun e w' h => ⟨h.1.trans (by rw [HQ.out]), h.2⟩)))
          go_wp2
          exact HBK.out HQ.out _ _ ⟨rfl, rfl, HG.out.trans (HGR.out.trans (by repeat (first | with_reducible exact Grew.refl _ | apply Grew.more | apply Grew.alloc | apply Grew.drew | apply Grew.drewN)))⟩
      · obtain rfl : g = l.length := by omega
        have hok : ∀ n ∈ l, Gr.above l n.id n.id 9 = false := fun n hn => by
          obtain ⟨i, hi, rfl⟩ := List.mem_iff_getElem.1 hn
          exact HNO.out i hi hi
        have HOK := Lib.hid hok
        clear hok
        go_wp2
        exact HNX.out (by simp) HOK.out _ _ ⟨rfl, rfl, HG.out.trans HGR.out⟩
  · have k1' : (src != 1) = true := by rw [bne_iff_ne]; exact k1
    have HK := Lib.hid k1
    clear k1
    go_wp2
    exact HBAD.out (Or.inl HK.out) _ _ ⟨rfl, rfl, HG.out.trans (by repeat (first | with_reducible exact Grew.refl _ | apply Grew.more | apply Grew.alloc | apply Grew.drew | apply Grew.drewN))⟩
end Go.Proofs.YtmdmbimfdpngaaaGreat

/-! forebayref08.Check. -/
namespace Go.Proofs.YtmdmbimfdpngaaaGreat
set_option linter.unusedSimpArgs false
set_option linter.unusedVariables false
open Go.RowKit Ga
set_option maxRecDepth 100000

/-- a node among others, from its parts -/
theorem okR_iff {l : List Gr.Nd} {k : Nat} {y : Gr.Nd} : Gr.OkR l k y ↔ OkHead l k y ∧ OkRoute y ∧ OkFroms y ∧ OkProg y ∧ OkFr l y := by
  constructor
  · intro h
    refine ⟨⟨h.id0, h.id7, (findI_some h.fst).1, h.kd0, h.kd2, h.pr1, h.pr3, h.fr3, h.src⟩, h.rt, ⟨h.f0, h.f1, h.f2⟩, ⟨h.p1, h.p0⟩, h.fr⟩
  · rintro ⟨⟨h1, h2, h3, h4, h5, h6, h7, h8, h9⟩, h10, ⟨h11, h12, h13⟩, ⟨h14, h15⟩, h16⟩
    refine ⟨h1, h2, ?_, h4, h5, h6, h7, h8, h9, h10, h11, h12, h13, h14, h15, h16⟩
    cases hf : Gr.find l y.id with
    | none => rw [findI_none hf] at h3; omega
    | some j =>
      rw [(findI_some hf).1] at h3
      have : j = k := by omega
      rw [this]
theorem count_next {l : List Gr.Nd} {k : Nat} {y : Gr.Nd} (hk : l[k]? = some y) : (((l.take (k + 1)).countP (fun n => n.kind == 0) : Nat) : Int) = ((l.take k).countP (fun n => n.kind == 0) : Nat) + if y.kind = 0 then 1 else 0 := by
  rw [List.take_add_one, hk]
  simp only [Option.toList_some, List.countP_append, List.countP_singleton]
  by_cases h : y.kind = 0
  · rw [if_pos (by rw [h]; rfl), if_pos h]; omega
  · rw [if_neg (by simpa using h), if_neg h]; omega
theorem ret_end {w W : World} {x : Int} {a : Act} {l : List Gr.Nd} (h : Ret11 w x a W) (e : x = checkR l) : bodyPost Tryz.prog Tryz.f12 (Gives (.int .i64 (checkR l)) w) .ret a W := by
  obtain ⟨t, d⟩ := a
  obtain ⟨h1, h2, h3⟩ := h
  simp only at h1 h2
  subst h2
  refine bodyPost_ret (v := .int .i64 x) ?_ rfl ⟨by rw [e], h3⟩
  simp [results, Tryz.results12, go_sem]
  rw [← Array.getD_eq_getD_getElem?, h1]
set_option maxHeartbeats 16000000 in
theorem refCheck08_any (v : Value) (l : List Gr.Nd) (w : World) (hv : NodesAt w v l) : Calls Tryz.prog 12 #[v] w (Gives (.int .i64 (checkR l)) w) := by
  have HV := Lib.hid hv
  obtain ⟨a, cap, rfl, hm, -⟩ := hv.openC
  clear hv
  by_cases h8 : 8 < l.length
  · have h8' : (8 : Int) < (l.length : Int) := by omega
    have hc := checkR_long h8
    have HC := Lib.hid hc
    clear hc h8
    go_enter Tryz.func12, Tryz.ntmps12
    go_wp2
    go_ret
    exact ⟨by rw [HC.out]; rfl, by repeat (first | with_reducible exact Grew.refl _ | apply Grew.more | apply Grew.alloc | apply Grew.drew | apply Grew.drewN)⟩
  · have h8' : ¬ (8 : Int) < (l.length : Int) := by omega
    have H8 := Lib.hid h8
    clear h8
    go_enter Tryz.func12, Tryz.ntmps12
    go_wp2
    refine wp_loop_ghost_k (fun gg a' wr => ∃ k : Nat, k ≤ l.length ∧ l.length - k ≤ gg ∧ Pre11 w (.slice a l.length cap) k (((l.take k).countP (fun n => n.kind == 0) : Nat) : Int) a' wr ∧ ∀ j n, l[j]? = some n → j < k → Gr.OkR l j n) l.length ?_ ?_
    · exact ⟨0, by omega, by omega, ⟨rfl, rfl, rfl, rfl, by repeat (first | with_reducible exact Grew.refl _ | apply Grew.more | apply Grew.alloc | apply Grew.drew | apply Grew.drewN)⟩, fun j n _ h => by omega⟩
    · rintro gg a1 wr ⟨k, hk8, hgg, ⟨hfr, h00, h03, h04, hg⟩, hno⟩ J K hJ hK
      have HK : Hid (∀ a' w', (∃ n', n' < gg ∧ ∃ k : Nat, k ≤ l.length ∧ l.length - k ≤ n' ∧ Pre11 w (.slice a l.length cap) k (((l.take k).countP (fun n => n.kind == 0) : Nat) : Int) a' w' ∧ ∀ j n, l[j]? = some n → j < k → Gr.OkR l j n) → K a' w') := Lib.hid fun a' w' ⟨n', h1, h2⟩ => hK _ _ (Handed.intro n' h1 (hJ _ _ _ h2))
      have HGR := Lib.hid hg
      have HNO := Lib.hid hno
      obtain ⟨u, hu⟩ : ∃ u : Nat → Value, u = fun i => a1.tmps.getD i undef := ⟨_, rfl⟩
      rw [← hu] at hfr
      have u0 : u 0 = _ := (congrFun hu 0).trans h00
      have u3 : u 3 = _ := (congrFun hu 3).trans h03
      have u4 : u 4 = _ := (congrFun hu 4).trans h04
      clear hu h00 h03 h04 hno hg hJ hK
      subst hfr
      unfold frameR
      rw [u0, u3, u4]
      clear u0 u3 u4
      by_cases hlt : k < l.length
      · obtain ⟨av, cv, e, -, hx⟩ := (HV.out.grew HGR.out).openC
        cases e
        obtain ⟨b, off, c, rfl, hb, hn, c0, c1, c2, c3, c4, c5, c6, c7, c8, c9, c10, c11, c12⟩ := hx k hlt
        have HX := Lib.hid (And.intro hn (And.intro c0 (And.intro c1 (And.intro c2 (And.intro c3 (And.intro c4 (And.intro c5 (And.intro c6 (And.intro c7 (And.intro c8 (And.intro c9 (And.intro c10 (And.intro c11 c12)))))))))))))
        clear hx hn c0 c1 c2 c3 c4 c5 c6 c7 c8 c9 c10 c11 c12
        have hget : l[k]? = some l[k] := List.getElem?_eq_getElem hlt
        have HGET := Lib.hid hget
        have hcnt : ((l.take k).countP (fun n => n.kind == 0)) ≤ 8 := Nat.le_trans List.countP_le_length (by rw [List.length_take]; omega)
        have hbad : ¬ Gr.OkR l k l[k] → (10 : Int) = checkR l := fun h => (checkR_bad (by have := H8.out; omega) fun r => h (r.ok k _ HGET.out)).symm
        have HBAD := Lib.hid hbad
        clear hget hbad
        generalize hy : l[k] = y at *
        have HY := Lib.hid hy
        clear hy
        go_upto_if 16 with fail
        iterate 6 go_step
        obtain ⟨hn, c0, c1, c2, c3, c4, c5, c6, c7, c8, c9, c10, c11, c12⟩ := HX.out
        refine chk_p1 l wr wr b off cap k (((l.take k).countP (fun n => n.kind == 0) : Nat) : Int) c y _ _ ?_ (HV.out.grew HGR.out) hlt hm hn hb c0 c1 c2 c3 c4 c5 c6 c7 c8 c9 c10 c11 c12 ?_ ?_
        · exact ⟨rfl, rfl, rfl, rfl, Grew.refl wr⟩
        · intro h a' w' hr
          exact ret_end ⟨hr.t2, hr.d, HGR.out.trans hr.g⟩ (HBAD.out fun q => h (okR_iff.1 q).1)
        · intro o1 a1 W1 h1
          have hnW := hn.grew h1.g
          refine chk_p2 l wr W1 _ k _ _ c y _ _ h1 hnW ?_ ?_
          · intro h a' w' hr
            exact ret_end ⟨hr.t2, hr.d, HGR.out.trans hr.g⟩ (HBAD.out fun q => h (okR_iff.1 q).2.1)
          · intro o2 a2 W2 g2 h2
            refine chk_p3 l wr W2 _ k _ _ c y _ _ h2 (hnW.grew g2) ⟨o1.2.2.2.1, o1.2.2.2.2.1⟩ ⟨by omega, by omega⟩ ?_ ?_
            · intro h a' w' hr
              exact ret_end ⟨hr.t2, hr.d, HGR.out.trans hr.g⟩ (HBAD.out fun q => h (okR_iff.1 q).2.2.1)
            · intro o3 a3 W3 g3 h3
              refine chk_p4 l wr W3 _ k _ _ c y _ _ h3 ((hnW.grew g2).grew g3) ?_ ?_
              · intro h a' w' hr
                exact ret_end ⟨hr.t2, hr.d, HGR.out.trans hr.g⟩ (HBAD.out fun q => h (okR_iff.1 q).2.2.2.1)
              · intro o4 a4 W4 g4 h4
                refine chk_p5 l wr W4 b off cap k _ _ c y _ _ h4 (((hnW.grew g2).grew g3).grew g4) (HV.out.grew HGR.out) (by omega) o1.2.2.2.2.2.2.2.1 ?_ ?_
                · intro h a' w' hr
                  exact ret_end ⟨hr.t2, hr.d, HGR.out.trans hr.g⟩ (HBAD.out fun q => h (okR_iff.1 q).2.2.2.2)
                · intro o5 a5 W5 g5 h5
                  have hok : Gr.OkR l k y := okR_iff.2 ⟨o1, o2, o3, o4, o5⟩
                  have HOK := Lib.hid hok
                  have hcn := count_next HGET.out
                  have HCN := Lib.hid hcn
                  clear hok hcn
                  obtain ⟨hfr, h00, h03, h04, h05, hg, hbx⟩ := h5
                  obtain ⟨u, hu⟩ : ∃ u : Nat → Value, u = fun i => a5.tmps.getD i undef := ⟨_, rfl⟩
                  rw [← hu] at hfr
                  have u0 : u 0 = _ := (congrFun hu 0).trans h00
                  have u3 : u 3 = _ := (congrFun hu 3).trans h03
                  have u4 : u 4 = _ := (congrFun hu 4).trans h04
                  clear hu h00 h03 h04 h05
                  subst hfr
                  obtain ⟨cc, hcc⟩ : ∃ cc, cc = (((l.take k).countP (fun n => n.kind == 0) : Nat) : Int) + if y.kind = 0 then 1 else 0 := ⟨_, rfl⟩
                  rw [← hcc] at u3 HCN
                  clear hcc
                  unfold frameR
                  rw [u0, u3, u4]
                  have HG5 := Lib.hid hg
                  clear hg hbx u0 u3 u4 o1 o2 o3 o4 o5 h1 h2 h3 h4 g2 g3 g4 g5 hnW hn c0 c1 c2 c3 c4 c5 c6 c7 c8 c9 c10 c11 c12
                  go_wp2
                  refine HK.out _ _ ⟨l.length - (k + 1), by omega, k + 1, by omega, by omega, ⟨rfl, rfl, ?_, ?_, HGR.out.trans (HG5.out.trans (by repeat (first | with_reducible exact Grew.refl _ | apply Grew.more | apply Grew.alloc | apply Grew.drew | apply Grew.drewN)))⟩, ?_⟩
                  · rw [HCN.out]
                    rfl
                  · exact congrArg (Value.int .i64) (by omega : (k : Int) + 1 = ((k + 1 : Nat) : Int))
                  · intro j n hj h
                    rcases Nat.lt_or_ge j k with h1 | h1
                    · exact HNO.out j n hj h1
                    · obtain rfl : j = k := by omega
                      have := HGET.out.symm.trans hj
                      cases this
                      exact HOK.out
      · obtain rfl : k = l.length := by omega
        have hcnt : (((l.take l.length).countP (fun n => n.kind == 0) : Nat) : Int) = (l.countP (fun n => n.kind == 0) : Nat) := by rw [List.take_length]
        have HCNT := Lib.hid hcnt
        clear hcnt
        go_upto_if 16 with fail
        iterate 4 go_step
        refine chk_p6 l _ w wr ((l.countP (fun n => n.kind == 0) : Nat) : Int) _ _ ?_ ?_ ?_ HGR.out HV.out ?_ ?_
        · rfl
        · rfl
        · first | rfl | exact congrArg (Value.int .i64) HCNT.out
        · intro h a' w' hr
          refine ret_end hr (checkR_bad (by have := H8.out; omega) fun q => ?_).symm
          rcases h with h | h
          · exact h (by have := q.one; omega)
          · exact h q.ac
        · intro h1 h2 a' w' hr
          refine ret_end hr (checkR_ok (by have := H8.out; omega) ⟨by have := H8.out; omega, fun i n hi => HNO.out i n hi (List.getElem?_eq_some_iff.1 hi).1, by omega, h2⟩).symm
end Go.Proofs.YtmdmbimfdpngaaaGreat

/-! forebaylaw08.Great. -/
namespace Go.Proofs.YtmdmbimfdpngaaaGreat
set_option linter.unusedSimpArgs false
set_option linter.unusedVariables false
open Go.RowKit Ga
set_option maxRecDepth 100000

/-- more than is played -/
def greatN (n : Gr.Nd) : Bool := decide (60 < n.prog.length) || decide (20 < n.frm.length)
def greatG (l : List Gr.Nd) : Bool := decide (20 < l.length) || l.any greatN

set_option maxHeartbeats 4000000 in
theorem great08_any (v : Value) (l : List Gr.Nd) (w : World) (hv : NodesAt w v l) : Calls Tryz.prog 9 #[v] w (Gives (.bool (greatG l)) w) := by
  obtain ⟨a, cap, rfl, hm, -⟩ := hv.open13
  have HV := Lib.hid hv
  clear hv
  by_cases h20 : 20 < l.length
  · have hg : greatG l = true := by unfold greatG; rw [decide_eq_true h20]; rfl
    have HG := Lib.hid hg
    clear hg
    have h20' : (20 : Int) < (l.length : Int) := by omega
    go_enter Tryz.func9, Tryz.ntmps9
    go_wp2
    go_ret
    refine ⟨by rw [HG.out]; rfl, ?_⟩
    repeat (first | with_reducible exact Grew.refl _ | apply Grew.more | apply Grew.alloc | apply Grew.drew | apply Grew.drewN)
  · have hg0 : greatG l = l.any greatN := by unfold greatG; rw [decide_eq_false h20]; rfl
    have HG0 := Lib.hid hg0
    clear hg0
    go_enter Tryz.func9, Tryz.ntmps9
    go_wp2
    go_loopw [10] (fun i wr => ∃ k : Nat, k ≤ l.length ∧ i = .int .i64 k ∧ Grew w wr ∧ ∀ j (hj : j < l.length), j < k → greatN l[j] = false) (fun i _ => l.length - (intOf i).toNat)
    case atStart => exact ⟨0, Nat.zero_le _, rfl, by repeat (first | with_reducible exact Grew.refl _ | apply Grew.more | apply Grew.alloc | apply Grew.drew | apply Grew.drewN), fun j _ h => by omega⟩
    case round =>
      obtain ⟨k, hk, rfl, hgw, hno⟩ := hrel
      have HNO := Lib.hid hno
      have HGW := Lib.hid hgw
      by_cases hlt : k < l.length
      · obtain ⟨a', cap', e', -, hx⟩ := (HV.out.grew hgw).open13
        cases e'
        obtain ⟨b, off, vf, vp, rfl, hb, hvf, hvp, c0, c1, c2, c3, c4, c5, c6, c7, c8, c9, c10, c11, c12⟩ := hx k hlt
        obtain ⟨af, capf, rfl, hmf, -⟩ := ints_open hvf
        obtain ⟨ap, capp, rfl, hmp, -⟩ := hvp.open2
        clear hx hvf hvp hgw hno
        cases hq : greatN l[k]
        · have HQ := Lib.hid hq
          unfold greatN at hq
          simp only [Bool.or_eq_false_iff, decide_eq_false_iff_not] at hq
          obtain ⟨q1, q2⟩ := hq
          generalize hgx : l[k] = x at *
          have HGX := Lib.hid hgx
          clear hgx
          go_wp2
          go_roundw
          case rel => exact ⟨k + 1, by omega, by go_num, HGW.out.trans (by repeat (first | with_reducible exact Grew.refl _ | apply Grew.more | apply Grew.alloc | apply Grew.drew | apply Grew.drewN)), fun j hj h => by
            rcases Nat.lt_or_ge j k with h1 | h1
            · exact HNO.out j hj h1
            · obtain rfl : j = k := by omega
              rw [HGX.out]
              exact HQ.out⟩
          case measure => first | (simp [intOf]; done) | (simp [intOf]; omega)
        · have hg : greatG l = true := by
            rw [HG0.out, List.any_eq_true]
            exact ⟨l[k], List.getElem_mem hlt, hq⟩
          have HG := Lib.hid hg
          unfold greatN at hq
          simp only [Bool.or_eq_true, decide_eq_true_eq] at hq
          generalize l[k] = x at *
          clear hg
          by_cases q1 : 60 < x.prog.length
          · clear hq
            go_wp2
            go_ret
            refine ⟨by rw [HG.out]; rfl, HGW.out.trans ?_⟩
            repeat (first | with_reducible exact Grew.refl _ | apply Grew.more | apply Grew.alloc | apply Grew.drew | apply Grew.drewN)
          · have q2 : 20 < x.frm.length := by omega
            clear hq
            go_wp2
            go_ret
            refine ⟨by rw [HG.out]; rfl, HGW.out.trans ?_⟩
            repeat (first | with_reducible exact Grew.refl _ | apply Grew.more | apply Grew.alloc | apply Grew.drew | apply Grew.drewN)
      · obtain rfl : k = l.length := by omega
        have hg : greatG l = false := by
          rw [HG0.out, List.any_eq_false]
          intro x hx
          obtain ⟨t, ht, rfl⟩ := List.mem_iff_getElem.1 hx
          rw [HNO.out t ht ht]
          simp
        have HG := Lib.hid hg
        clear hg hgw hno
        go_wp2
        go_ret
        refine ⟨by rw [HG.out]; rfl, HGW.out.trans ?_⟩
        repeat (first | with_reducible exact Grew.refl _ | apply Grew.more | apply Grew.alloc | apply Grew.drew | apply Grew.drewN)
end Go.Proofs.YtmdmbimfdpngaaaGreat

/-! forebaylaw13: awake. -/
namespace Go.Proofs.YtmdmbimfdpngaaaGreat
set_option linter.unusedSimpArgs false
set_option linter.unusedVariables false
open Go.RowKit Ga
set_option maxRecDepth 100000

theorem nodes_route {w : World} {v : Value} {l : List Gr.Nd} (h : NodesAt w v l) : ∀ n ∈ l, n.route.length = 8 := by
  obtain ⟨lc, -, h2, h3⟩ := h
  intro n hn
  obtain ⟨i, hi, rfl⟩ := List.mem_iff_getElem.1 hn
  rw [(h3 i lc[i] l[i] (List.getElem?_eq_getElem (by omega)) (List.getElem?_eq_getElem hi)).route]
  rfl
theorem great_small {l : List Gr.Nd} (h : greatG l = false) : Small l ∧ l.length ≤ 20 := by
  unfold greatG at h
  simp only [Bool.or_eq_false_iff, decide_eq_false_iff_not, List.any_eq_false] at h
  refine ⟨fun n hn => ?_, by omega⟩
  have := h.2 n hn
  unfold greatN at this
  simp only [Bool.or_eq_true, decide_eq_true_eq, not_or] at this
  omega
end Go.Proofs.YtmdmbimfdpngaaaGreat
