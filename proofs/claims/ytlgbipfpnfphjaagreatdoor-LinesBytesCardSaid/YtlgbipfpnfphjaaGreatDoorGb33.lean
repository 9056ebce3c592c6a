import Derived.Test.YtlgbipfpnfphjaaGreatDoorGb29
/-! forebayref13.Plan. -/
namespace Go.Proofs.YtlgbipfpnfphjaaGreatDoor
set_option linter.unusedSimpArgs false
set_option linter.unusedVariables false
open Go.RowKit Ga
set_option maxRecDepth 100000

set_option maxHeartbeats 8000000 in
theorem pl_p5 (n : Nat) (w W : World) (v : Value) (k tx ty : Nat) (T : List UInt8) (d : StC) (z : Gr.Stp) (Q : Exit → Act → World → Prop) (a0 : Act)
    (h0 : At17 w v k T tx ty d a0 W) (hn : StepIs W d z) (hok : Gr.OkB fitsP 0 z.nd) (hkd : 1 ≤ z.kind ∧ z.kind ≤ 5) (hT : T.length ≤ 100000)
    (hnext : ∀ a' W', Grew W W' → Pre17 w v k (T ++ (Oc.be z.kind ++ (Oc.be (if z.reset then 1 else 0) ++ Gr.putNd putI z.nd))) a' W' → Q .normal a' W') :
    Code.wp Tryz.prog (tail17 23) Q a0 W := by
  obtain ⟨hfr, h00, h04, h05, h06, h07, hg, hbx, hby⟩ := h0
  obtain ⟨u, hu⟩ : ∃ u : Nat → Value, u = fun i => a0.tmps.getD i undef := ⟨_, rfl⟩
  rw [← hu] at hfr
  have u0 : u 0 = _ := (congrFun hu 0).trans h00
  have u4 : u 4 = _ := (congrFun hu 4).trans h04
  have u5 : u 5 = _ := (congrFun hu 5).trans h05
  have u6 : u 6 = _ := (congrFun hu 6).trans h06
  have u7 : u 7 = _ := (congrFun hu 7).trans h07
  clear hu h00 h04 h05 h06 h07
  subst hfr
  conv => arg 2; whnf
  unfold framePl
  rw [u0, u4, u5, u6, u7]
  clear u0 u4 u5 u6 u7
  have HN := Lib.hid fun W' (g : Grew W W') => node13_any d.c z.nd 0 (by decide) W' (hn.nd.grew g) hok
  have hnl := putNd_len hok
  have ekind := hn.kind
  have ereset := hn.reset
  have f1 : Oc.fitsN z.kind = true := fits_of (by omega) (by omega)
  have HK := Lib.hid fun W' => num13_any z.kind f1 W'
  have H1 := Lib.hid fun W' => num13_any 1 rfl W'
  have H0 := Lib.hid fun W' => num13_any 0 rfl W'
  have b1 : (Oc.be z.kind).length ≤ 4 := Nat.le_of_eq (Oc.be_len _)
  have b2 : (Oc.be 1).length ≤ 4 := Nat.le_of_eq (Oc.be_len _)
  have b3 : (Oc.be 0).length ≤ 4 := Nat.le_of_eq (Oc.be_len _)
  rw [ekind] at HK b1 hnext
  rw [ereset] at hnext
  obtain ⟨dk, dr, id, kd, af, cf, ap, cp, par, r0, r1, r2, r3, r4, r5, r6, r7, rfl⟩ := hn.lit
  simp only at HK b1 hnext HN
  have HG := Lib.hid hg
  have a0 := cell_of (o := 0) hbx
  have a14 := cell_of (o := 14) hbx
  simp [encSt] at a0 a14
  have c0 := cell_of (o := 0) hby
  have c1 := cell_of (o := 1) hby
  have c2 := cell_of (o := 2) hby
  have c3 := cell_of (o := 3) hby
  have c4 := cell_of (o := 4) hby
  have c5 := cell_of (o := 5) hby
  have c6 := cell_of (o := 6) hby
  have c7 := cell_of (o := 7) hby
  have c8 := cell_of (o := 8) hby
  have c9 := cell_of (o := 9) hby
  have c10 := cell_of (o := 10) hby
  have c11 := cell_of (o := 11) hby
  have c12 := cell_of (o := 12) hby
  simp [encNd] at c0 c1 c2 c3 c4 c5 c6 c7 c8 c9 c10 c11 c12
  have px := Pre.mk (heap_lt hbx)
  have py := Pre.mk (heap_lt hby)
  clear hg hbx hby hn ekind ereset f1 hkd hok
  cases dr
  · simp only [Bool.false_eq_true, if_false] at hnext
    generalize Oc.be dk = A at *
    generalize Oc.be 0 = B at *
    generalize Gr.putNd putI z.nd = Y at *
    have HNX := Lib.hid hnext
    clear hnext
    go_wp2_with (first
      | (go_at_call_of 31 (Value.int IntKind.i64 dk); refine (HK.out _).mono ?_; rintro e w2 ⟨rfl, R5, n5, rfl⟩)
      | (go_at_call 31; refine (H0.out _).mono ?_; rintro e w2 ⟨rfl, R6, n6, rfl⟩)
      | (go_at_call 34; refine (HN.out _ (by repeat (first | with_reducible exact Grew.refl _ | apply Grew.more | apply Grew.alloc | apply Grew.drew | apply Grew.drewN))).mono ?_; rintro e w2 ⟨rfl, R7, n7, rfl⟩))
    refine HNX.out _ _ (by repeat (first | with_reducible exact Grew.refl _ | apply Grew.more | apply Grew.alloc | apply Grew.drew | apply Grew.drewN)) ⟨rfl, rfl, ?_, rfl, HG.out.trans (by repeat (first | with_reducible exact Grew.refl _ | apply Grew.more | apply Grew.alloc | apply Grew.drew | apply Grew.drewN))⟩
    refine congrArg Value.string ?_
    rw [str_cat, str_cat, str_cat, List.append_assoc, List.append_assoc]
  · simp only [if_true] at hnext
    generalize Oc.be dk = A at *
    generalize Oc.be 1 = B at *
    generalize Gr.putNd putI z.nd = Y at *
    have HNX := Lib.hid hnext
    clear hnext
    go_wp2_with (first
      | (go_at_call_of 31 (Value.int IntKind.i64 dk); refine (HK.out _).mono ?_; rintro e w2 ⟨rfl, R5, n5, rfl⟩)
      | (go_at_call 31; refine (H1.out _).mono ?_; rintro e w2 ⟨rfl, R6, n6, rfl⟩)
      | (go_at_call 34; refine (HN.out _ (by repeat (first | with_reducible exact Grew.refl _ | apply Grew.more | apply Grew.alloc | apply Grew.drew | apply Grew.drewN))).mono ?_; rintro e w2 ⟨rfl, R7, n7, rfl⟩))
    refine HNX.out _ _ (by repeat (first | with_reducible exact Grew.refl _ | apply Grew.more | apply Grew.alloc | apply Grew.drew | apply Grew.drewN)) ⟨rfl, rfl, ?_, rfl, HG.out.trans (by repeat (first | with_reducible exact Grew.refl _ | apply Grew.more | apply Grew.alloc | apply Grew.drew | apply Grew.drewN))⟩
    refine congrArg Value.string ?_
    rw [str_cat, str_cat, str_cat, List.append_assoc, List.append_assoc]
/-- what is told of a plan -/
def Post13 (p : List Gr.Stp) (w : World) (e : Ending) (w' : World) : Prop := ∃ (t : List UInt8) (b : Bool), e = .returned (.tuple #[str t, .bool b]) ∧ Grew w w' ∧ (Gr.OkPl fitsP p → t = Gr.putPl putI p ∧ b = true) ∧ (¬ Gr.OkPl fitsP p → t = [] ∧ b = false)
theorem putSt_len {s : Gr.Stp} (h : Gr.OkS fitsP s) : (Gr.putSt putI s).length ≤ 308 := by
  have := putNd_len h.2
  unfold Gr.putSt
  rw [List.length_append, List.length_append, Oc.be_len, Oc.be_len]
  omega
theorem flatSt_len : ∀ {l : List Gr.Stp}, (∀ s ∈ l, Gr.OkS fitsP s) → (l.flatMap (Gr.putSt putI)).length ≤ l.length * 308
  | [], _ => Nat.le_refl _
  | s :: l, h => by
    have h1 := putSt_len (h s (List.mem_cons_self ..))
    have h2 := flatSt_len (l := l) fun x hx => h x (List.mem_cons_of_mem _ hx)
    rw [List.flatMap_cons, List.length_append, List.length_cons]
    omega
theorem okS_parts {w : World} {d : StC} {s : Gr.Stp} (hd : StepIs w d (Gr.cleanS s)) (hk : 1 ≤ s.kind ∧ s.kind ≤ 5) (h1 : OkP (Gr.cleanS s)) (h2 : OkPF (Gr.cleanS s)) (h3 : OkPR (Gr.cleanS s)) : Gr.OkS fitsP s :=
  ⟨hk, ⟨⟨h1.1, h1.2.1⟩, ⟨h1.2.2.1, h1.2.2.2.1⟩, h1.2.2.2.2.1, h2, h1.2.2.2.2.2.2.2, ⟨h1.2.2.2.2.2.1, h1.2.2.2.2.2.2.1⟩, hd.nd.r8, h3⟩⟩
theorem ret17_end {w W : World} {a : Act} {p : List Gr.Stp} (h : Ret17 w a W) (e : ¬ Gr.OkPl fitsP p) : bodyPost Tryz.prog Tryz.f13 (Post13 p w) .ret a W := by
  obtain ⟨t, d⟩ := a
  obtain ⟨h1, h2, h3, h4⟩ := h
  simp only at h1 h2 h3
  subst h3
  refine bodyPost_ret (v := .tuple #[str [], .bool false]) ?_ rfl ⟨[], false, rfl, h4, fun q => absurd q e, fun _ => ⟨rfl, rfl⟩⟩
  simp [results, Tryz.results13, go_sem]
  rw [← Array.getD_eq_getD_getElem?, h1, ← Array.getD_eq_getD_getElem?, h2]
  exact ⟨rfl, rfl⟩
end Go.Proofs.YtlgbipfpnfphjaaGreatDoor

/-! forebayref13.Plan. -/
namespace Go.Proofs.YtlgbipfpnfphjaaGreatDoor
set_option linter.unusedSimpArgs false
set_option linter.unusedVariables false
open Go.RowKit Ga
set_option maxRecDepth 100000

theorem take_next {p : List Gr.Stp} {k : Nat} {y : Gr.Stp} (h : p[k]? = some y) (T : List UInt8) : T ++ (p.take (k + 1)).flatMap (Gr.putSt putI) = (T ++ (p.take k).flatMap (Gr.putSt putI)) ++ Gr.putSt putI y := by
  rw [List.take_add_one, h, Option.toList_some, List.flatMap_append, List.append_assoc]
  congr 1
  rw [List.flatMap_cons, List.flatMap_nil, List.append_nil]
set_option maxHeartbeats 16000000 in
theorem plan13_any (v : Value) (p : List Gr.Stp) (w : World) (hv : StepsAt w v p) : Calls Tryz.prog 13 #[v] w (Post13 p w) := by
  have HV := Lib.hid hv
  obtain ⟨a, cap, rfl, hm, -⟩ := hv.openC
  clear hv
  by_cases h1 : p.length < 1
  · have hb : ¬ Gr.OkPl fitsP p := fun h => by have := h.1; omega
    have HB := Lib.hid hb
    have h1' : (p.length : Int) < 1 := by omega
    clear hb h1
    go_enter Tryz.func13, Tryz.ntmps13
    go_wp2
    exact ret17_end ⟨rfl, rfl, rfl, by repeat (first | with_reducible exact Grew.refl _ | apply Grew.more | apply Grew.alloc | apply Grew.drew | apply Grew.drewN)⟩ HB.out
  by_cases h6 : 6 < p.length
  · have hb : ¬ Gr.OkPl fitsP p := fun h => by have := h.2.1; omega
    have HB := Lib.hid hb
    have h6' : (6 : Int) < (p.length : Int) := by omega
    have h1' : ¬ (p.length : Int) < 1 := by omega
    clear hb h1 h6
    go_enter Tryz.func13, Tryz.ntmps13
    go_wp2
    exact ret17_end ⟨rfl, rfl, rfl, by repeat (first | with_reducible exact Grew.refl _ | apply Grew.more | apply Grew.alloc | apply Grew.drew | apply Grew.drewN)⟩ HB.out
  have h6' : ¬ (6 : Int) < (p.length : Int) := by omega
  have h1' : ¬ (p.length : Int) < 1 := by omega
  have HL := Lib.hid (And.intro h1 h6)
  have f0 : Oc.fitsN (p.length : Int) = true := fits_of (by omega) (by omega)
  have b0 : (Oc.be (p.length : Int)).length ≤ 4 := Nat.le_of_eq (Oc.be_len _)
  have hpl : Gr.putPl putI p = Oc.be (p.length : Int) ++ p.flatMap (Gr.putSt putI) := rfl
  have HPL := Lib.hid hpl
  have HNUM := Lib.hid fun W => num13_any _ f0 W
  clear h1 h6 hpl f0
  generalize Oc.be (p.length : Int) = T0 at *
  go_enter Tryz.func13, Tryz.ntmps13
  go_wp2_with (go_at_call 31; refine (HNUM.out _).mono ?_; rintro e w2 ⟨rfl, R5, n5, rfl⟩)
  refine wp_loop_ghost_k (fun gg a' wr => ∃ k : Nat, k ≤ p.length ∧ p.length - k ≤ gg ∧ Pre17 w (.slice a p.length cap) k (T0 ++ (p.take k).flatMap (Gr.putSt putI)) a' wr ∧ ∀ s ∈ p.take k, Gr.OkS fitsP s) p.length ?_ ?_
  · exact ⟨0, by omega, by omega, ⟨rfl, rfl, by rw [List.take_zero, List.flatMap_nil, List.append_nil]; rfl, rfl, by repeat (first | with_reducible exact Grew.refl _ | apply Grew.more | apply Grew.alloc | apply Grew.drew | apply Grew.drewN)⟩, fun s h => by simp at h⟩
  · rintro gg a1 wr ⟨k, hk8, hgg, ⟨hfr, h00, h04, h05, hg⟩, hno⟩ J K hJ hK
    have HK : Hid (∀ a' w', (∃ n', n' < gg ∧ ∃ k : Nat, k ≤ p.length ∧ p.length - k ≤ n' ∧ Pre17 w (.slice a p.length cap) k (T0 ++ (p.take k).flatMap (Gr.putSt putI)) a' w' ∧ ∀ s ∈ p.take k, Gr.OkS fitsP s) → K a' w') := Lib.hid fun a' w' ⟨n', h1, h2⟩ => hK _ _ (Handed.intro n' h1 (hJ _ _ _ h2))
    have HGR := Lib.hid hg
    have HNO := Lib.hid hno
    have hTl : (T0 ++ (p.take k).flatMap (Gr.putSt putI)).length ≤ 100000 := by
      have := flatSt_len hno
      rw [List.length_append]
      rw [List.length_take] at this
      omega
    obtain ⟨u, hu⟩ : ∃ u : Nat → Value, u = fun i => a1.tmps.getD i undef := ⟨_, rfl⟩
    rw [← hu] at hfr
    have u0 : u 0 = _ := (congrFun hu 0).trans h00
    have u4 : u 4 = _ := (congrFun hu 4).trans h04
    have u5 : u 5 = _ := (congrFun hu 5).trans h05
    clear hu h00 h04 h05 hno hg hJ hK
    subst hfr
    unfold framePl
    rw [u0, u4, u5]
    clear u0 u4 u5
    by_cases hlt : k < p.length
    · obtain ⟨av, cv, e, -, hx⟩ := (HV.out.grew HGR.out).openC
      cases e
      obtain ⟨b, off, c, rfl, hb, hn, c0, c1, c2, c3, c4, c5, c6, c7, c8, c9, c10, c11, c12, c13, c14⟩ := hx k hlt
      have hget : p[k]? = some p[k] := List.getElem?_eq_getElem hlt
      have hmem : p[k] ∈ p := List.getElem_mem hlt
      have HX := Lib.hid (And.intro hn (And.intro c0 (And.intro c1 (And.intro c2 (And.intro c3 (And.intro c4 (And.intro c5 (And.intro c6 (And.intro c7 (And.intro c8 (And.intro c9 (And.intro c10 (And.intro c11 (And.intro c12 (And.intro c13 c14)))))))))))))))
      have HGET := Lib.hid hget
      have HMEM := Lib.hid hmem
      clear hx hn c0 c1 c2 c3 c4 c5 c6 c7 c8 c9 c10 c11 c12 c13 c14 hget hmem
      generalize p[k] = y at *
      have hbad : ¬ Gr.OkS fitsP y → ¬ Gr.OkPl fitsP p := fun h q => h (q.2.2 _ HMEM.out)
      have HBAD := Lib.hid hbad
      have htn := take_next HGET.out T0
      have HTN := Lib.hid htn
      clear hbad htn
      generalize hT : T0 ++ (p.take k).flatMap (Gr.putSt putI) = T at *
      clear hT
      go_upto_if 24 with fail
      iterate 6 go_step
      obtain ⟨hn, c0, c1, c2, c3, c4, c5, c6, c7, c8, c9, c10, c11, c12, c13, c14⟩ := HX.out
      refine pl_p1 p.length wr wr b off cap k T c.kind _ _ ?_ hlt hm hb c0 ?_ ?_
      · exact ⟨rfl, rfl, rfl, rfl, Grew.refl wr⟩
      · intro h a' w' hr
        exact ret17_end ⟨hr.t2, hr.t3, hr.d, HGR.out.trans hr.g⟩ (HBAD.out fun q => h (by have := q.1; rw [hn.kind] at this; exact this))
      · intro hkd a2 h2
        refine pl_p2 p.length wr wr b off cap k T c y (Gr.cleanS y) _ _ h2 hlt hm hn rfl hkd hb c0 c1 c2 c3 c4 c5 c6 c7 c8 c9 c10 c11 c12 c13 c14 ?_ ?_
        · intro h a' w' hr
          exact ret17_end ⟨hr.t2, hr.t3, hr.d, HGR.out.trans hr.g⟩ (HBAD.out fun q => h ⟨q.2.i.1, q.2.i.2, q.2.k.1, q.2.k.2, q.2.m, q.2.r.1, q.2.r.2, q.2.p⟩)
        · intro o1 a3 W3 tx ty d g3 hd3 h3
          refine pl_p3 p.length wr W3 _ k tx ty T d (Gr.cleanS y) _ _ h3 hd3 o1.2.2.2.2.1 ?_ ?_
          · intro h a' w' hr
            exact ret17_end ⟨hr.t2, hr.t3, hr.d, HGR.out.trans hr.g⟩ (HBAD.out fun q => h q.2.f)
          · intro o2 a4 W4 g4 h4
            refine pl_p4 p.length wr W4 _ k tx ty T d (Gr.cleanS y) _ _ h4 (hd3.grew g4) ?_ ?_
            · intro h a' w' hr
              exact ret17_end ⟨hr.t2, hr.t3, hr.d, HGR.out.trans hr.g⟩ (HBAD.out fun q => h q.2.o)
            · intro o3 a5 W5 g5 h5
              have hkd2 : 1 ≤ y.kind ∧ y.kind ≤ 5 := by rw [hn.kind]; exact hkd
              have hok := okS_parts hd3 hkd2 o1 o2 o3
              refine pl_p5 p.length wr W5 _ k tx ty T d (Gr.cleanS y) _ _ h5 ((hd3.grew g4).grew g5) hok.2 (by rw [Gr.clean_kind hkd2]; exact hkd2) hTl ?_
              intro a6 W6 g6 h6
              have HOK := Lib.hid hok
              obtain ⟨hfr, h00, h04, h05, hg⟩ := h6
              obtain ⟨u, hu⟩ : ∃ u : Nat → Value, u = fun i => a6.tmps.getD i undef := ⟨_, rfl⟩
              rw [← hu] at hfr
              have u0 : u 0 = _ := (congrFun hu 0).trans h00
              have u4 : u 4 = str (T ++ Gr.putSt putI y) := (congrFun hu 4).trans h04
              have u5 : u 5 = _ := (congrFun hu 5).trans h05
              clear hu h00 h04 h05
              subst hfr
              unfold framePl
              rw [u0, u4, u5]
              generalize Gr.putSt putI y = Z at *
              have HG6 := Lib.hid hg
              clear hg u0 u4 u5 o1 o2 o3 h2 h3 h4 h5 g3 g4 g5 g6 hd3 hn c0 c1 c2 c3 c4 c5 c6 c7 c8 c9 c10 c11 c12 c13 c14 hok hkd hkd2
              go_wp2
              refine HK.out _ _ ⟨p.length - (k + 1), by omega, k + 1, by omega, by omega, ⟨rfl, rfl, ?_, ?_, HGR.out.trans (HG6.out.trans (by repeat (first | with_reducible exact Grew.refl _ | apply Grew.more | apply Grew.alloc | apply Grew.drew | apply Grew.drewN)))⟩, ?_⟩
              · rw [HTN.out]
                rfl
              · exact congrArg (Value.int .i64) (by omega : (k : Int) + 1 = ((k + 1 : Nat) : Int))
              · intro s hs
                rw [List.take_add_one, HGET.out] at hs
                simp only [Option.toList_some, List.mem_append, List.mem_singleton] at hs
                rcases hs with hs | rfl
                · exact HNO.out s hs
                · exact HOK.out
    · obtain rfl : k = p.length := by omega
      have hok : Gr.OkPl fitsP p := ⟨by have := HL.out.1; omega, by have := HL.out.2; omega, fun s hs => HNO.out s (by rw [List.take_length]; exact hs)⟩
      have HOK := Lib.hid hok
      have ht : T0 ++ (p.take p.length).flatMap (Gr.putSt putI) = Gr.putPl putI p := by rw [List.take_length, HPL.out]
      have HT := Lib.hid ht
      clear hok ht
      generalize T0 ++ (p.take p.length).flatMap (Gr.putSt putI) = T at *
      go_wp2
      exact bodyPost_ret (v := .tuple #[str T, .bool true]) (by simp [results, Tryz.results13, go_sem]) rfl ⟨T, true, rfl, HGR.out, fun _ => ⟨HT.out, rfl⟩, fun h => absurd HOK.out h⟩
end Go.Proofs.YtlgbipfpnfphjaaGreatDoor
