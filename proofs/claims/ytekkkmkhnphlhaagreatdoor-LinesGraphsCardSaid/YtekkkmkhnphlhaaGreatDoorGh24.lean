import Derived.Test.YtekkkmkhnphlhaaGreatDoorGh21
/-! forebayref05.Check: a round, from the depth's store on. -/
namespace Go.Proofs.YtekkkmkhnphlhaaGreatDoor
set_option linter.unusedSimpArgs false
set_option linter.unusedVariables false
open Go.RowKit Ga
set_option maxRecDepth 100000

set_option maxHeartbeats 8000000 in
theorem tail24 (l : List Val) (w wr : World) (a : Option Addr) (cap b3 bx bd cd bt ct k n9 : Nat) (d e mx' em' : Int) (x y : Int) (u0 u1 : Bool) (T' M : List Pl) (dep : List Int) (a0 : Act) (J : Nat → Act → World → Prop) (K K2 : Act → World → Prop)
    (hJ : ∀ (n : Nat) (a' : Act) (w' : World), (∃ u, a' = frame9 (.slice a l.length cap) w.heap.size b3 u ∧ Going l w b3 n (u 5) w') → J n a' w') (hK : ∀ (a' : Act) (w' : World), Handed J n9 a' w' → K a' w')
    (hv : ValsAt w (.slice a l.length cap) l) (hf0 : Co.fitsI l = true) (hgn : Vm.Gone l M (T' ++ [((k : Int), d, e)]) dep) (hin : ((k : Int), d, e) ∉ M) (h8 : d ≤ 8) (h4 : e ≤ 4) (hli : l[k]? = some (x, y)) (hdep : ¬ (0 ≤ dep.getD k (-1) ∧ dep.getD k (-1) ≠ d)) (hme : n9 = 2 * Vm.free M + (T' ++ [((k : Int), d, e)]).length) (hbx : b3 + 1 < bx)
    (hga4 : GoneAt w w.heap.size b3 (b3 + 1) (M.length + 1) wr (.slice (some ⟨bd, 0, none⟩) dep.length cd) (.slice (some ⟨bt, 0, none⟩) T'.length ct) dep mx' em' u0 u1 T' (((k : Int), d, e) :: M)) (hx4 : wr.heap[bx]? = some (.cells #[.int .i64 k, .int .i64 d, .int .i64 e] 151))
    (ha : a0 = frame9 (.slice a l.length cap) w.heap.size b3 (fun i => a0.tmps.getD i undef)) (a5 : a0.tmps.getD 5 undef = .slice (some ⟨bt, 0, none⟩) T'.length ct) (a7 : a0.tmps.getD 7 undef = .pointer (some ⟨bx, 0, none⟩)) :
    Code.wp Tryz.prog ((Tryz.f46.body.bind (from9 24)).getD .skip) (Exit.inBlock 3 (Exit.then K (Exit.inBlock 2 (Exit.then K2 (bodyPost Tryz.prog Tryz.f46 (RefCheck l w)))))) a0 wr := by
  obtain ⟨u, hu⟩ : ∃ u : Nat → Value, u = fun i => a0.tmps.getD i undef := ⟨_, rfl⟩
  rw [← hu] at ha
  have u5' : u 5 = _ := (congrFun hu 5).trans a5
  have u7' : u 7 = _ := (congrFun hu 7).trans a7
  clear hu a5 a7
  subst ha
  conv => arg 2; whnf
  unfold frame9
  rw [u5', u7']
  dsimp only
  have HV := Lib.hid hv
  have HF := Lib.hid hf0
  have h24 := (Co.fits_parts hf0).1
  have HGN := Lib.hid hgn
  have HIN := Lib.hid hin
  have HME := Lib.hid hme
  have hfr0 : Vm.free (((k : Int), d, e) :: M) < Vm.free M := Vm.free_cons h24 hgn.okM ⟨by simp, by simpa using (hgn.at).1, (hgn.at).2.1, h8, (hgn.at).2.2.2.1, h4⟩ hin
  have HFR := Lib.hid hfr0
  obtain ⟨q1, q2, q3, q4, q5⟩ := hgn.at
  have hMl : M.length ≤ 1125 := by have := hgn.fr; omega
  have hTl : T'.length ≤ 1125 := by have := hgn.tl; rw [List.length_append] at this; simp at this; omega
  have hkl' : k < l.length := (List.getElem?_eq_some_iff.1 hli).1
  have hdl : k < dep.length := by rw [hgn.len]; exact hkl'
  have hri := (Co.fits_parts hf0).2 _ (List.mem_of_getElem? hli)
  obtain ⟨r0, r1, r2, r3, r4, r6⟩ := right_args hri
  have r5 := right_jump hri
  have HLI := Lib.hid hli
  have HCL := Lib.hid hdep
  obtain ⟨b, off, rfl, -⟩ := hv.open2.elim fun a' h => h.elim fun c' h => by
    obtain ⟨e, -, hx⟩ := h
    cases e
    exact hx k hkl'
  clear hv hf0 hgn hin hli hdep hme hfr0 hri
  have HJ := Lib.hid hJ
  have HKK := Lib.hid hK
  have HGA4 := Lib.hid hga4
  have HX4 := Lib.hid hx4
  obtain ⟨bd', cd', curd', hv', hbd', hhd, kd⟩ := ownD_at hga4.d (k := k) hdl
  cases hv'
  have kx0 := cell_of (o := 0) hx4
  have kx1 := cell_of (o := 1) hx4
  simp at kx0 kx1
  have px := Pre.mk (heap_lt hx4)
  have k30 := cell_of (o := 0) hga4.c3
  simp at k30
  have p3 := Pre.mk (heap_lt hga4.c3)
  have pd := Pre.mk (heap_lt hhd)
  have fd := frozen_of (o := k) hhd
  have hne : bd ≠ bx := by
    rintro rfl
    rw [hhd] at hx4
    cases hx4
  clear hga4 hx4 hhd hbd'
  go_upto_region 24 with fail
  go_cut [] (fun wx => GoneAt w w.heap.size b3 (b3 + 1) (M.length + 1) wx (.slice (some ⟨bd, 0, none⟩) dep.length cd) (.slice (some ⟨bt, 0, none⟩) T'.length ct) (dep.set k d) mx' em' u0 u1 T' (((k : Int), d, e) :: M) ∧ wx.heap[bx]? = some (.cells #[.int .i64 k, .int .i64 d, .int .i64 e] 151))
  case first =>
    go_wp2
    go_meet
    exact ⟨HGA4.out.setDep hdl d, (set_other hne).trans HX4.out⟩
  obtain ⟨hga5, hx5⟩ := hcut
  clear HGA4 HX4 kx0 kx1 px k30 p3 pd fd kd hne
  have kx0 := cell_of (o := 0) hx5
  have kx1 := cell_of (o := 1) hx5
  simp at kx0 kx1
  have px := Pre.mk (heap_lt hx5)
  obtain ⟨a', c', e', -, hx'⟩ := (HV.out.grew hga5.g).open2
  cases e'
  obtain ⟨b', off', e', hb', h0', h1'⟩ := hx' k hkl'
  cases e'
  have hl2 := HLI.out
  rw [List.getElem?_eq_getElem hkl'] at hl2
  have hl3 := Option.some.inj hl2
  rw [hl3] at h0' h1'
  simp only at h0' h1'
  have HX5 := Lib.hid hx5
  have HGA5 := Lib.hid hga5
  clear hx' hl2 hl3 hga5 hx5
  go_upto_region 26 with fail
  go_cut [117] (fun s wx => s = .bool (decide (d < takesI x)) ∧ Grew wc wx)
  case first =>
    go_quiet (first | (go_at_call 105; refine Calls.quiet_of_same ((take05_any _ r0 r1 _).mono fun e w' h => ⟨h.1, h.2.symm⟩)))
    go_wp2
    go_meet
    exact ⟨rfl, by repeat (first | with_reducible exact Grew.refl _ | apply Grew.more | apply Grew.alloc | apply Grew.drew | apply Grew.drewN)⟩
  obtain ⟨rfl, hg6⟩ := hcut
  have hga6 := HGA5.out.grew hg6
  have hx6 := grew_heap hg6 HX5.out
  have HGA6 := Lib.hid hga6
  have HX6 := Lib.hid hx6
  clear HGA5 HX5 kx0 kx1 px hg6 hb' h0'
  by_cases ht : d < takesI x
  · rw [decide_eq_true ht]
    have hun := HGN.out.short HLI.out ht
    have HUN := Lib.hid hun
    clear hun ht
    have hp2 := Pre.mk (heap_lt hga6.c2)
    have hd0 := cell_of (o := 0) hga6.c2
    have hf0 := frozen_of (o := 0) hga6.c2
    have hd1 := cell_of (o := 1) hga6.c2
    have hf1 := frozen_of (o := 1) hga6.c2
    have hd2 := cell_of (o := 2) hga6.c2
    have hf2 := frozen_of (o := 2) hga6.c2
    have hd3 := cell_of (o := 3) hga6.c2
    have hf3 := frozen_of (o := 3) hga6.c2
    have hd4 := cell_of (o := 4) hga6.c2
    have hf4 := frozen_of (o := 4) hga6.c2
    have hd5 := cell_of (o := 5) hga6.c2
    have hf5 := frozen_of (o := 5) hga6.c2
    simp at hd0 hd1 hd2 hd3 hd4 hd5
    clear hga6 hx6
    go_wp2
    refine bodyPost_ret (v := .agg #[.slice none 0 0, .int .i64 0, .int .i64 0, .bool false, .bool false, .bool false]) (by simp [results, Tryz.results46, go_sem, hd0, hd1, hd2, hd3, hd4, hd5]) rfl (RefCheck.mk HUN.out ?_)
    exact (((((HGA6.out.g.set (Nat.le_refl _) _).set (Nat.le_refl _) _).set (Nat.le_refl _) _).set (Nat.le_refl _) _).set (Nat.le_refl _) _).set (Nat.le_refl _) _
  rw [decide_eq_false ht]
  have HT := Lib.hid ht
  clear ht
  obtain ⟨a', c', e', -, hx'⟩ := (HV.out.grew hga6.g).open2
  cases e'
  obtain ⟨b', off', e', hb', h0', h1'⟩ := hx' k hkl'
  cases e'
  have hl2 := HLI.out
  rw [List.getElem?_eq_getElem hkl'] at hl2
  have hl3 := Option.some.inj hl2
  rw [hl3] at h0' h1'
  simp only at h0' h1'
  have kx0 := cell_of (o := 0) hx6
  simp at kx0
  have px := Pre.mk (heap_lt hx6)
  have p3 := Pre.mk (heap_lt hga6.c3)
  have k33 := cell_of (o := 3) hga6.c3
  have k34 := cell_of (o := 4) hga6.c3
  simp at k33 k34
  have f33 := frozen_of (o := 3) hga6.c3
  have f34 := frozen_of (o := 4) hga6.c3
  clear hx' hl2 hl3 hga6 hx6
  go_upto_region 28 with fail
  go_cut [124] (fun s wx => s = .bool (decide (x = 4 ∨ x = 5)) ∧ wx = wc)
  case first =>
    by_cases e4 : x = 4
    · subst e4
      go_wp2
      go_meet
      exact ⟨rfl, rfl⟩
    · have b4 : (x == 4) = false := by simpa using e4
      by_cases e5 : x = 5
      · subst e5
        go_wp2
        go_meet
        exact ⟨rfl, rfl⟩
      · have b5 : (x == 5) = false := by simpa using e5
        go_wp2
        go_meet
        exact ⟨by simp [e4, e5], rfl⟩
  obtain ⟨rfl, rfl⟩ := hcut
  go_upto_if 124 with fail
  go_cut [] (fun wx => ∃ u0' u1', GoneAt w w.heap.size b3 (b3 + 1) (M.length + 1) wx (.slice (some ⟨bd, 0, none⟩) dep.length cd) (.slice (some ⟨bt, 0, none⟩) T'.length ct) (dep.set k d) mx' em' u0' u1' T' (((k : Int), d, e) :: M) ∧ wx.heap[bx]? = some (.cells #[.int .i64 k, .int .i64 d, .int .i64 e] 151))
  case first =>
    by_cases x45 : x = 4 ∨ x = 5
    · rw [decide_eq_true x45]
      have y01 := r6 x45
      clear x45 r6
      rcases y01 with rfl | rfl
      · go_wp2
        go_meet
        exact ⟨true, u1, HGA6.out.setK 3 (.bool true) mx' em' true u1 rfl, (set_other (by omega)).trans HX6.out⟩
      · go_wp2
        go_meet
        exact ⟨u0, true, HGA6.out.setK 4 (.bool true) mx' em' u0 true rfl, (set_other (by omega)).trans HX6.out⟩
    · rw [decide_eq_false x45]
      go_wp2
      go_meet
      exact ⟨u0, u1, HGA6.out, HX6.out⟩
  obtain ⟨u0', u1', hga8, hx8⟩ := hcut
  clear HGA6 HX6 kx0 px p3 k33 k34 f33 f34 h0' h1' hb'
  have TL := tail30 l w wc (some ⟨b, off, none⟩) cap b3 bx bd cd bt ct k n9 d e mx' em' x y u0' u1' T' M dep
  first
    | (go_step; (refine TL _ J K K2 HJ.out HKK.out HV.out HF.out HGN.out HIN.out h8 h4 HLI.out HCL.out HME.out hbx HT.out hga8 hx8 ?_ ?_ ?_ ?_) <;> rfl)
end Go.Proofs.YtekkkmkhnphlhaaGreatDoor
