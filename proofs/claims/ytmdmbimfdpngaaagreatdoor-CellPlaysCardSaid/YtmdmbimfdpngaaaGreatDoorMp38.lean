import Derived.Test.YtmdmbimfdpngaaaGreatDoorMp33
import Derived.Test.YtmdmbimfdpngaaaGreatDoorMp34
import Derived.Test.YtmdmbimfdpngaaaGreatDoorMp35
import Derived.Test.YtmdmbimfdpngaaaGreatDoorMp36
import Derived.Test.YtmdmbimfdpngaaaGreatDoorMp37
import Derived.Test.YtmdmbimfdpngaaaGreatDoorMp10
import Derived.Deep.QuietTactic
import Derived.BigQuiet
import Derived.Test.YtmdmbimfdpngaaaGreatDoorMp31
import Derived.Test.YtmdmbimfdpngaaaGreatDoorMp28
/-! forebayref06.Run. -/
namespace Go.Proofs.YtmdmbimfdpngaaaGreatDoor
set_option linter.unusedSimpArgs false
set_option linter.unusedVariables false
open Go.RowKit Ga
set_option maxRecDepth 100000

theorem loop11 (l : List Val) (c : Vm.Cst) (s0 : Vm.St) (w wr : World) (a : Option Addr) (cap b4 b5 b7 n : Nat) (p q : Int) (a0 : Act) (Q : Exit → Act → World → Prop)
    (hv : ValsAt w (.slice a l.length cap) l) (hc : Vm.checkC l = some c) (hin : rightV (p, q) = true) (hs00 : 0 ≤ s0.steps ∧ s0.steps ≤ 900) (ho0 : s0.out.length ≤ 900)
    (h0 : Next11 l c s0 w (.slice a l.length cap) b4 b5 b7 p q n a0 wr)
    (hX : ∀ (a' : Act) (w' : World), End11 l s0 w (.slice a l.length cap) b4 b5 b7 p q a' w' → Q (.exit 0) a' w') :
    Code.wp Tryz.prog (.loop ((Tryz.f57.body.bind firstLoop).getD .skip)) Q a0 wr := by
  refine wp_loop_ghost_k (Next11 l c s0 w (.slice a l.length cap) b4 b5 b7 p q) n h0 ?_
  rintro n1 a1 wr ⟨u, rfl, s, h11, h12, hR, hA, hS, rfl⟩ J K hJ hK
  have hK' : ∀ (a' : Act) (w' : World), (∃ n, n < 60 - s.pc ∧ Next11 l c s0 w (.slice a l.length cap) b4 b5 b7 p q n a' w') → K a' w' := fun a' w' ⟨n', h1, h2⟩ => hK _ _ (Handed.intro n' h1 (hJ _ _ _ h2))
  have hs0 : 0 ≤ s.steps ∧ s.steps ≤ 1000 := by have := hA.s1; have := hA.s2; have := hA.pc; omega
  have hout : s.out.length ≤ 1000 := by have := hA.ot; have := hA.pc; omega
  rcases Nat.lt_or_ge s.pc l.length with hlt | hge
  · have hi : l[s.pc]? = some l[s.pc] := List.getElem?_eq_getElem hlt
    obtain ⟨⟨x, y⟩, hxy⟩ : ∃ xy, xy = l[s.pc] := ⟨_, rfl⟩
    rw [← hxy] at hi
    clear hxy
    obtain ⟨r0, r1, -, -, -, r6⟩ := Vm.right_parts' hc hi
    have hcs : x = 0 ∨ x = 1 ∨ x = 2 ∨ x = 3 ∨ (x = 4 ∧ y = 0) ∨ (x = 4 ∧ y = 1) ∨ (x = 5 ∧ y = 0) ∨ (x = 5 ∧ y = 1) ∨ x = 6 ∨ x = 7 ∨ x = 8 ∨ x = 9 ∨ x = 10 ∨ x = 11 ∨ x = 12 ∨ x = 13 ∨ x = 14 ∨ x = 15 ∨ x = 16 ∨ x = 17 := by omega
    rcases hcs with rfl | rfl | rfl | rfl | ⟨rfl, rfl⟩ | ⟨rfl, rfl⟩ | ⟨rfl, rfl⟩ | ⟨rfl, rfl⟩ | rfl | rfl | rfl | rfl | rfl | rfl | rfl | rfl | rfl | rfl | rfl | rfl
    · exact op11_0 l c s0 s w wr a cap b4 b5 b7 p q y u _ _ K Q hv hc hin hR hA hS rfl rfl h11 h12 hs0 hout hi hK' hX
    · exact op11_1 l c s0 s w wr a cap b4 b5 b7 p q y u _ _ K Q hv hc hin hR hA hS rfl rfl h11 h12 hs0 hout hi hK' hX
    · exact op11_2 l c s0 s w wr a cap b4 b5 b7 p q y u _ _ K Q hv hc hin hR hA hS rfl rfl h11 h12 hs0 hout hi hK' hX
    · exact op11_3 l c s0 s w wr a cap b4 b5 b7 p q y u _ _ K Q hv hc hin hR hA hS rfl rfl h11 h12 hs0 hout hi hK' hX
    · exact op11_40 l c s0 s w wr a cap b4 b5 b7 p q u _ _ K Q hv hc hin hR hA hS rfl rfl h11 h12 hs0 hout hi hK' hX
    · exact op11_41 l c s0 s w wr a cap b4 b5 b7 p q u _ _ K Q hv hc hin hR hA hS rfl rfl h11 h12 hs0 hout hi hK' hX
    · exact op11_50 l c s0 s w wr a cap b4 b5 b7 p q u _ _ K Q hv hc hin hR hA hS rfl rfl h11 h12 hs0 hout hi hK' hX
    · exact op11_51 l c s0 s w wr a cap b4 b5 b7 p q u _ _ K Q hv hc hin hR hA hS rfl rfl h11 h12 hs0 hout hi hK' hX
    · exact op11_6 l c s0 s w wr a cap b4 b5 b7 p q y u _ _ K Q hv hc hin hR hA hS rfl rfl h11 h12 hs0 hout hi hK' hX
    · exact op11_7 l c s0 s w wr a cap b4 b5 b7 p q y u _ _ K Q hv hc hin hR hA hS rfl rfl h11 h12 hs0 hout hi hK' hX
    · exact op11_8 l c s0 s w wr a cap b4 b5 b7 p q y u _ _ K Q hv hc hin hR hA hS rfl rfl h11 h12 hs0 hout hi hK' hX
    · exact op11_9 l c s0 s w wr a cap b4 b5 b7 p q y u _ _ K Q hv hc hin hR hA hS rfl rfl h11 h12 hs0 hout hi hK' hX
    · exact op11_10 l c s0 s w wr a cap b4 b5 b7 p q y u _ _ K Q hv hc hin hR hA hS rfl rfl h11 h12 hs0 hout hi hK' hX
    · exact op11_11 l c s0 s w wr a cap b4 b5 b7 p q y u _ _ K Q hv hc hin hR hA hS rfl rfl h11 h12 hs0 hout hi hK' hX
    · exact op11_12 l c s0 s w wr a cap b4 b5 b7 p q y u _ _ K Q hv hc hin hR hA hS rfl rfl h11 h12 hs0 hout hi hK' hX
    · exact op11_13 l c s0 s w wr a cap b4 b5 b7 p q y u _ _ K Q hv hc hin hR hA hS rfl rfl h11 h12 hs0 hout hi hK' hX
    · exact op11_14 l c s0 s w wr a cap b4 b5 b7 p q y u _ _ K Q hv hc hin hR hA hS rfl rfl h11 h12 hs0 hout hi hK' hX
    · by_cases hz : Vm.top1 s = (0, 0)
      · exact op11_15z l c s0 s w wr a cap b4 b5 b7 p q y u _ _ K Q hv hc hin hR hA hS rfl rfl h11 h12 hs0 hout hi hK' hz hX
      · exact op11_15n l c s0 s w wr a cap b4 b5 b7 p q y u _ _ K Q hv hc hin hR hA hS rfl rfl h11 h12 hs0 hout hi hK' hz hX
    · exact op11_16 l c s0 s w wr a cap b4 b5 b7 p q y u _ _ K Q hv hc hin hR hA hS rfl rfl h11 h12 hs0 hout hi hK' hX
    · by_cases hz : (Vm.top1 (Vm.pop1 s)).1 < (Vm.top1 s).1
      · exact op11_17y l c s0 s w wr a cap b4 b5 b7 p q y u _ _ K Q hv hc hin hR hA hS rfl rfl h11 h12 hs0 hout hi hK' hz hX
      · exact op11_17n l c s0 s w wr a cap b4 b5 b7 p q y u _ _ K Q hv hc hin hR hA hS rfl rfl h11 h12 hs0 hout hi hK' hz hX
  · exact op11_end l c s0 s w wr a cap b4 b5 b7 p q u _ _ K Q hv hc hin hR hA hS rfl rfl h11 h12 hs0 hout hge hK' hX
end Go.Proofs.YtmdmbimfdpngaaaGreatDoor

/-! forebayref06.Run, whole. -/
namespace Go.Proofs.YtmdmbimfdpngaaaGreatDoor
set_option linter.unusedSimpArgs false
set_option linter.unusedVariables false
open Go.RowKit Ga
set_option maxRecDepth 100000

theorem Next11.start {l : List Val} {c : Vm.Cst} {s0 s : Vm.St} {w w' : World} {v : Value} {b4 b5 b7 : Nat} {p q : Int} {a' : Act} (h : a' = frame11 v b4 b5 b7 (fun i => a'.tmps.getD i undef)) (hst : a'.tmps.getD 11 undef = .int .i64 s.steps) (hpc : a'.tmps.getD 12 undef = .int .i64 s.pc)
    (hR : RunAt w b4 b5 b7 p q w' (a'.tmps.getD 9 undef) (a'.tmps.getD 10 undef) s) (hA : Vm.At l c (p, q) s0 s) (hS : Vm.AllRight s) : Next11 l c s0 w v b4 b5 b7 p q (60 - s.pc) a' w' :=
  ⟨_, h, s, hst, hpc, hR, hA, hS, rfl⟩

theorem RunAt.start (w : World) (p q x0 y0 x1 y1 : Int) : RunAt w w.heap.size (w.heap.size + 1) (w.heap.size + 1 + 1) p q
    (((((w.alloc (.cells #[.int .i64 p, .int .i64 q] 47)).alloc (.cells #[.int .i64 x0, .int .i64 y0, .int .i64 x1, .int .i64 y1] 48)).alloc (.cells #[.int .i64 0, .int .i64 0, .int .i64 0, .int .i64 0] 48)).alloc (.cells #[] 47)).alloc (.cells #[] 47))
    (.slice (some ⟨w.heap.size + 1 + 1 + 1, 0, none⟩) 0 0) (.slice (some ⟨w.heap.size + 1 + 1 + 1 + 1, 0, none⟩) 0 0) (Vm.stOf ⟨[], (x0, y0), (x1, y1), 0⟩) := by
  refine ⟨by repeat (first | with_reducible exact Grew.refl _ | apply Grew.more | apply Grew.alloc | apply Grew.drew | apply Grew.drewN), Nat.le_refl _, by omega, by omega, by omega, ?_, ?_, ?_, ?_, ?_, fun b h e => ?_, fun e => ?_, fun e => ?_⟩
  · exact heap_alloc' (heap_alloc' (heap_alloc' (heap_alloc' (heap_new_at w _ _ rfl) _) _) _) _
  · exact heap_alloc' (heap_alloc' (heap_alloc' (heap_new_at _ _ _ (by simp [World.size_alloc])) _) _) _
  · exact heap_alloc' (heap_alloc' (heap_new_at _ _ _ (by simp [World.size_alloc])) _) _
  · exact OwnAt.grew (OwnAt.fresh (l := ([] : List Val)) rfl rfl rfl (Nat.zero_le _) encI_len (by simp [World.size_alloc]) (by omega) rfl) ((Grew.refl _).alloc _)
  · exact OwnAt.fresh (l := ([] : List Val)) rfl rfl rfl (Nat.zero_le _) encI_len (by simp [World.size_alloc]) (by omega) rfl
  · have h1 : w.heap.size + 1 + 1 + 1 = b := Option.some.inj h
    have h2 : w.heap.size + 1 + 1 + 1 + 1 = b := Option.some.inj e
    omega
  · have h1 : w.heap.size + 1 + 1 + 1 = w.heap.size := Option.some.inj e
    omega
  · have h1 : w.heap.size + 1 + 1 + 1 + 1 = w.heap.size := Option.some.inj e
    omega

set_option maxHeartbeats 8000000 in
theorem refRun_any (v : Value) (l : List Val) (p q x0 y0 x1 y1 : Int) (w : World) (hv : ValsAt w v l) (hz : Vm.codeOf l (x0, y0) (x1, y1) [(p, q)] = 0) :
    Calls Tryz.prog 57 #[v, .agg #[.int .i64 p, .int .i64 q], .agg #[.int .i64 x0, .int .i64 y0, .int .i64 x1, .int .i64 y1]] w (fun e w' => Grew w w' ∧ ∃ vo, e = .returned (.tuple #[vo, .agg #[.int .i64 (Vm.each l ⟨[], (x0, y0), (x1, y1), 0⟩ [(p, q)]).c0.1, .int .i64 (Vm.each l ⟨[], (x0, y0), (x1, y1), 0⟩ [(p, q)]).c0.2, .int .i64 (Vm.each l ⟨[], (x0, y0), (x1, y1), 0⟩ [(p, q)]).c1.1, .int .i64 (Vm.each l ⟨[], (x0, y0), (x1, y1), 0⟩ [(p, q)]).c1.2], .int .i64 (Vm.each l ⟨[], (x0, y0), (x1, y1), 0⟩ [(p, q)]).steps]) ∧ OwnAt w.heap.size 47 2 encI w' vo (Vm.each l ⟨[], (x0, y0), (x1, y1), 0⟩ [(p, q)]).out) := by
  obtain ⟨a, cap, rfl, hm, -⟩ := hv.open2
  obtain ⟨hs, hr, hi⟩ := Vm.codeOf_zero.1 hz
  simp only [List.all_cons, List.all_nil, Bool.and_true, Bool.and_eq_true] at hr hi
  obtain ⟨c, hc⟩ : ∃ c, Vm.checkC l = some c := Option.isSome_iff_exists.1 hs
  have hat := at_start hc (p, q) ⟨[], (x0, y0), (x1, y1), 0⟩
  have hall : Vm.AllRight (Vm.stOf ⟨[], (x0, y0), (x1, y1), 0⟩) := ⟨hr.1, hr.2, fun u hu => by cases hu⟩
  have hdn : Vm.resOf (Vm.done l (p, q) (Vm.stOf ⟨[], (x0, y0), (x1, y1), 0⟩)) = Vm.each l ⟨[], (x0, y0), (x1, y1), 0⟩ [(p, q)] := rfl
  generalize Vm.each l ⟨[], (x0, y0), (x1, y1), 0⟩ [(p, q)] = E at *
  have HV := Lib.hid hv
  have HC := Lib.hid hc
  have HAT := Lib.hid hat
  have HALL := Lib.hid hall
  have HI := Lib.hid hi
  have HDN := Lib.hid hdn
  clear hv hc hat hall hi hr hs hz hdn
  go_enter Tryz.func57, Tryz.ntmps57
  go_wp2
  refine loop11 l c (Vm.stOf ⟨[], (x0, y0), (x1, y1), 0⟩) w _ a cap w.heap.size (w.heap.size + 1) (w.heap.size + 1 + 1) 60 p q _ _ HV.out HC.out HI.out ⟨Int.le_refl 0, (by decide : (0 : Int) ≤ 900)⟩ (Nat.zero_le 900) (Next11.start (s := Vm.stOf ⟨[], (x0, y0), (x1, y1), 0⟩) rfl rfl rfl ?_ HAT.out HALL.out) ?_
  · exact RunAt.start w p q x0 y0 x1 y1
  · rintro a' w' ⟨u, s, rfl, h11, ⟨vs, hR⟩, ho, h0, h1, hst⟩
    unfold frame11
    generalize u 9 = vo at *
    rw [h11]
    have k50 := cell_of (o := 0) hR.c5
    have k51 := cell_of (o := 1) hR.c5
    have k52 := cell_of (o := 2) hR.c5
    have k53 := cell_of (o := 3) hR.c5
    simp at k50 k51 k52 k53
    have k70 := cell_of (o := 0) hR.c7
    have k71 := cell_of (o := 1) hR.c7
    have k72 := cell_of (o := 2) hR.c7
    have k73 := cell_of (o := 3) hR.c7
    simp at k70 k71 k72 k73
    have f70 := frozen_of (o := 0) hR.c7
    have f71 := frozen_of (o := 1) hR.c7
    have f72 := frozen_of (o := 2) hR.c7
    have f73 := frozen_of (o := 3) hR.c7
    have p5 := Pre.mk (heap_lt hR.c5)
    have p7 := Pre.mk (heap_lt hR.c7)
    have h57 := hR.n57
    have HR := Lib.hid hR
    have HO := Lib.hid ho
    have H0 := Lib.hid h0
    have H1 := Lib.hid h1
    have HST := Lib.hid hst
    clear hR ho h0 h1 hst h11
    go_wp2
    go_region
    all_goals
      go_wp2
      refine bodyPost_ret (v := .tuple #[vo, .agg #[.int .i64 s.c0.1, .int .i64 s.c0.2, .int .i64 s.c1.1, .int .i64 s.c1.2], .int .i64 s.steps]) (by simp [results, Tryz.results57, go_sem, k70, k71, k72, k73]) rfl ?_
      have h7 := HR.out.h7
      refine ⟨((((HR.out.g.set h7 _).set h7 _).set h7 _).set h7 _).trans (by repeat (first | with_reducible exact Grew.refl _ | apply Grew.more | apply Grew.alloc | apply Grew.drew | apply Grew.drewN)), vo, ?_, ?_⟩
      · rw [← HDN.out]
        simp only [Vm.resOf]
        rw [← H0.out, ← H1.out, ← HST.out]
      · rw [← HDN.out]
        show OwnAt _ _ _ _ _ vo (Vm.done l (p, q) _).out
        rw [← HO.out]
        refine HR.out.o.same fun r hr => ?_
        have hn : w.heap.size + 1 + 1 ≠ r := fun e => HR.out.o.other HR.out.c7 (by decide) (e ▸ hr)
        exact (set_other hn).trans ((set_other hn).trans ((set_other hn).trans (set_other hn)))
end Go.Proofs.YtmdmbimfdpngaaaGreatDoor

/-! forebayref07.Val, Right, Rec. -/
namespace Go.Proofs.YtmdmbimfdpngaaaGreatDoor
set_option linter.unusedSimpArgs false
set_option linter.unusedVariables false
open Go.RowKit Ga
set_option maxRecDepth 100000

set_option maxHeartbeats 1000000 in
theorem refVal07_any (x y : Int) (w : World) : Calls Tryz.prog 41 #[.agg #[.int .i64 x, .int .i64 y]] w (Gives (.bool (rightV (x, y))) w) := by
  have H : rightV (x, y) = (decide (into x = x) && decide (into y = y)) := by
    unfold rightV; simp only [eq_comm]
  by_cases h1 : into x = x <;> by_cases h2 : into y = y
  all_goals
    rw [H]
    simp only [h1, h2, decide_true, decide_false, Bool.and_true, Bool.and_false, Bool.and_self]
    clear H
    try (have h1' : ¬ x = into x := fun e => h1 e.symm)
    try (have h2' : ¬ y = into y := fun e => h2 e.symm)
    go_enter Tryz.func41, Tryz.ntmps41
    go_wp2
    refine wp_region_seq 8 Tryz.mixed (by kernel_rfl) (by kernel_rfl) ?_
    iterate 8
      apply Seq.val
      focus
        rintro w1 u ⟨R1, n1, rfl⟩ -
        simp [putFacts, Oper.deps, Region.binds, List.filter_cons, Region.dstOf, Fact.at, Act.put, World.more_drew]
        go_wp2_with (first
        | (go_at_call 70; refine (refOf_any _ _ _).mono ?_; rintro e w1 ⟨rfl, R1, n1, rfl⟩))
        exact ⟨by repeat (first | exact Grew.refl _ | apply Grew.more | apply Grew.alloc | apply Grew.drew), rfl, _, _, rfl, rfl, rfl⟩
    rintro u w1 ⟨R1, n1, rfl⟩ -
    simp [putFacts, Region.dstOf, Fact.at, Act.put, List.range_succ, World.more_drew]
    go_wp2
    go_ret
    refine ⟨by simp [h1, h2], ?_⟩
    repeat (first | exact Grew.refl _ | apply Grew.more | apply Grew.alloc | apply Grew.drew)
set_option maxHeartbeats 4000000 in
theorem refRight07_any (nd ky p0 q0 p1 q1 : Int) (w : World) : Calls Tryz.prog 15 #[.agg #[.int .i64 nd, .int .i64 ky, .int .i64 p0, .int .i64 q0, .int .i64 p1, .int .i64 q1]] w (Gives (.bool (okEn ⟨nd, ky, (p0, q0), (p1, q1)⟩)) w) := by
  obtain ⟨r, hr⟩ : ∃ r, okEn ⟨nd, ky, (p0, q0), (p1, q1)⟩ = r := ⟨_, rfl⟩
  rw [hr]
  have hr2 : r = (decide (0 ≤ nd) && decide (nd < 8) && decide (0 ≤ ky) && decide (ky < 64) && (rightV (p0, q0) && rightV (p1, q1))) := hr.symm
  clear hr
  have HV0 := Lib.hid fun W => refVal07_any p0 q0 W
  have HV1 := Lib.hid fun W => refVal07_any p1 q1 W
  generalize rightV (p0, q0) = b0 at *
  generalize rightV (p1, q1) = b1 at *
  by_cases h1 : 0 ≤ nd
  case neg =>
    have hr3 : r = false := by rw [hr2]; simp [h1]
    subst hr3
    clear HV0 HV1 hr2
    go_enter Tryz.func15, Tryz.ntmps15
    go_wp2
    go_ret
    exact ⟨rfl, by repeat (first | with_reducible exact Grew.refl _ | apply Grew.more | apply Grew.alloc | apply Grew.drew | apply Grew.drewN)⟩
  by_cases h2 : nd < 8
  case neg =>
    have hr3 : r = false := by rw [hr2]; simp [h2]
    subst hr3
    clear HV0 HV1 hr2
    go_enter Tryz.func15, Tryz.ntmps15
    go_wp2
    go_ret
    exact ⟨rfl, by repeat (first | with_reducible exact Grew.refl _ | apply Grew.more | apply Grew.alloc | apply Grew.drew | apply Grew.drewN)⟩
  by_cases h3 : 0 ≤ ky
  case neg =>
    have hr3 : r = false := by rw [hr2]; simp [h3]
    subst hr3
    clear HV0 HV1 hr2
    go_enter Tryz.func15, Tryz.ntmps15
    go_wp2
    go_ret
    exact ⟨rfl, by repeat (first | with_reducible exact Grew.refl _ | apply Grew.more | apply Grew.alloc | apply Grew.drew | apply Grew.drewN)⟩
  by_cases h4 : ky < 64
  case neg =>
    have hr3 : r = false := by rw [hr2]; simp [h4]
    subst hr3
    clear HV0 HV1 hr2
    go_enter Tryz.func15, Tryz.ntmps15
    go_wp2
    go_ret
    exact ⟨rfl, by repeat (first | with_reducible exact Grew.refl _ | apply Grew.more | apply Grew.alloc | apply Grew.drew | apply Grew.drewN)⟩
  simp only [h1, h2, h3, h4, decide_true, Bool.true_and] at hr2
  cases b0
  · subst hr2
    go_enter Tryz.func15, Tryz.ntmps15
    go_wp2_with (go_at_call 41; refine (HV0.out _).mono ?_; rintro e w1 ⟨rfl, R1, n1, rfl⟩)
    go_ret
    exact ⟨rfl, by repeat (first | with_reducible exact Grew.refl _ | apply Grew.more | apply Grew.alloc | apply Grew.drew | apply Grew.drewN)⟩
  · obtain rfl : r = b1 := by simpa using hr2
    clear hr2
    go_enter Tryz.func15, Tryz.ntmps15
    go_wp2_with fail
    refine (HV0.out _).mono ?_
    rintro e w1 ⟨rfl, R1, n1, rfl⟩
    go_wp2_with fail
    refine (HV1.out _).mono ?_
    rintro e w1 ⟨rfl, R2, n2, rfl⟩
    go_wp2
    go_ret
    exact ⟨rfl, by repeat (first | with_reducible exact Grew.refl _ | apply Grew.more | apply Grew.alloc | apply Grew.drew | apply Grew.drewN)⟩
def recB (k : Int) (v : Val) : Bool := decide (0 ≤ k) && decide (k < 64) && rightV v
set_option maxHeartbeats 4000000 in
theorem refRec07_any (ky p q : Int) (w : World) : Calls Tryz.prog 27 #[.agg #[.int .i64 ky, .int .i64 p, .int .i64 q]] w (Gives (.bool (recB ky (p, q))) w) := by
  obtain ⟨r, hr⟩ : ∃ r, recB ky (p, q) = r := ⟨_, rfl⟩
  rw [hr]
  have hr2 : r = (decide (0 ≤ ky) && decide (ky < 64) && rightV (p, q)) := hr.symm
  clear hr
  have HV0 := Lib.hid fun W => refVal07_any p q W
  generalize rightV (p, q) = b0 at *
  by_cases h3 : 0 ≤ ky
  case neg =>
    have hr3 : r = false := by rw [hr2]; simp [h3]
    subst hr3
    clear HV0 hr2
    go_enter Tryz.func27, Tryz.ntmps27
    go_wp2
    go_ret
    exact ⟨rfl, by repeat (first | with_reducible exact Grew.refl _ | apply Grew.more | apply Grew.alloc | apply Grew.drew | apply Grew.drewN)⟩
  by_cases h4 : ky < 64
  case neg =>
    have hr3 : r = false := by rw [hr2]; simp [h4]
    subst hr3
    clear HV0 hr2
    go_enter Tryz.func27, Tryz.ntmps27
    go_wp2
    go_ret
    exact ⟨rfl, by repeat (first | with_reducible exact Grew.refl _ | apply Grew.more | apply Grew.alloc | apply Grew.drew | apply Grew.drewN)⟩
  simp only [h3, h4, decide_true, Bool.true_and] at hr2
  subst hr2
  go_enter Tryz.func27, Tryz.ntmps27
  go_wp2_with fail
  refine (HV0.out _).mono ?_
  rintro e w1 ⟨rfl, R1, n1, rfl⟩
  go_wp2
  go_ret
  exact ⟨rfl, by repeat (first | with_reducible exact Grew.refl _ | apply Grew.more | apply Grew.alloc | apply Grew.drew | apply Grew.drewN)⟩
end Go.Proofs.YtmdmbimfdpngaaaGreatDoor

/-! forebayref07: the table in memory; All, Run. -/
namespace Go.Proofs.YtmdmbimfdpngaaaGreatDoor
set_option linter.unusedSimpArgs false
set_option linter.unusedVariables false
open Go.RowKit Ga
set_option maxRecDepth 100000

/-- the document's table at block t -/
def RTabAt (W : World) (t : Nat) (f : FTab) : Prop := ∃ C : Array Value, W.heap[t]? = some (.cells C 51) ∧ C.size = 2048 ∧ ∀ n k : Nat, n < 8 → k < 64 →
  C[n * 256 + k * 4]? = some (.int .i64 (f n k).1.1) ∧ C[n * 256 + k * 4 + 1]? = some (.int .i64 (f n k).1.2) ∧ C[n * 256 + k * 4 + 2]? = some (.int .i64 (f n k).2.1) ∧ C[n * 256 + k * 4 + 3]? = some (.int .i64 (f n k).2.2)
theorem RTabAt.lt {W : World} {t : Nat} {f : FTab} (h : RTabAt W t f) : t < W.heap.size := let ⟨_, h1, _⟩ := h; heap_lt h1
theorem RTabAt.same {W W' : World} {t : Nat} {f : FTab} (h : RTabAt W t f) (hb : W'.heap[t]? = W.heap[t]?) : RTabAt W' t f := let ⟨C, h1, h2⟩ := h; ⟨C, hb.trans h1, h2⟩
theorem RTabAt.grew {W W' : World} {t : Nat} {f : FTab} (h : RTabAt W t f) (g : Grew W W') : RTabAt W' t f := h.same (g.below.block t h.lt)
theorem RTabAt.cells {W : World} {t : Nat} {f : FTab} (h : RTabAt W t f) {n k : Nat} (hn : n < 8) (hk : k < 64) :
    W.cell? ⟨t, n * 256 + k * 4, none⟩ = some (.int .i64 (f n k).1.1) ∧ W.cell? ⟨t, n * 256 + k * 4 + 1, none⟩ = some (.int .i64 (f n k).1.2) ∧ W.cell? ⟨t, n * 256 + k * 4 + 2, none⟩ = some (.int .i64 (f n k).2.1) ∧ W.cell? ⟨t, n * 256 + k * 4 + 3, none⟩ = some (.int .i64 (f n k).2.2) := by
  obtain ⟨C, h1, h2, h3⟩ := h
  obtain ⟨q0, q1, q2, q3⟩ := h3 n k hn hk
  exact ⟨(cell_of h1).trans q0, (cell_of h1).trans q1, (cell_of h1).trans q2, (cell_of h1).trans q3⟩
theorem RTabAt.frozen {W : World} {t o : Nat} {f : FTab} (h : RTabAt W t f) : W.frozen? ⟨t, o, none⟩ = false := let ⟨_, h1, _⟩ := h; frozen_of h1
theorem RTabAt.set {W : World} {t : Nat} {f : FTab} (h : RTabAt W t f) {n k : Nat} (hn : n < 8) (hk : k < 64) (a b c d : Int) :
    RTabAt ((((W.setCell ⟨t, n * 256 + k * 4, none⟩ (.int .i64 a)).setCell ⟨t, n * 256 + k * 4 + 1, none⟩ (.int .i64 b)).setCell ⟨t, n * 256 + k * 4 + 2, none⟩ (.int .i64 c)).setCell ⟨t, n * 256 + k * 4 + 3, none⟩ (.int .i64 d)) t (setF f n k ((a, b), (c, d))) := by
  obtain ⟨C, h1, h2, h3⟩ := h
  refine ⟨_, set_self (set_self (set_self (set_self h1))), by simp [h2], fun n' k' hn' hk' => ?_⟩
  obtain ⟨q0, q1, q2, q3⟩ := h3 n' k' hn' hk'
  unfold setF
  by_cases e : n' = n ∧ k' = k
  · obtain ⟨rfl, rfl⟩ := e
    have hlt : n' * 256 + k' * 4 + 3 < C.size := by rw [h2]; omega
    simp only [and_self, if_true]
    refine ⟨?_, ?_, ?_, ?_⟩ <;> simp [Array.getElem?_setIfInBounds] <;> omega
  · have e' : ¬ ((n' : Int) = n ∧ (k' : Int) = k) := fun q => e ⟨by omega, by omega⟩
    rw [if_neg e']
    have hne : n' * 256 + k' * 4 ≠ n * 256 + k * 4 := fun q => e (by omega)
    refine ⟨?_, ?_, ?_, ?_⟩
    all_goals
      simp only [Array.getElem?_setIfInBounds]
      repeat rw [if_neg (by omega)]
      assumption
theorem RTabAt.made (W : World) (t : Nat) (ht : t = W.heap.size) : RTabAt (W.alloc (.cells (Array.replicate 2048 (.int .i64 0)) 51)) t (fun _ _ => zer) := by
  refine ⟨_, heap_new_at _ _ _ ht, by simp, fun n k hn hk => ?_⟩
  refine ⟨?_, ?_, ?_, ?_⟩ <;> rw [Array.getElem?_replicate, if_pos (by omega)]
theorem run_neq_ce (a b c d : Int) (r : Bool) (h : Tab.nz ⟨0, 0, (a, b), (c, d)⟩ = r) (w : World) : (binOp .neq 48 (.agg #[.int .i64 a, .int .i64 b, .int .i64 c, .int .i64 d]) (.agg #[.int .i64 0, .int .i64 0, .int .i64 0, .int .i64 0])).run Tryz.prog w = .ok (.bool r) w := by
  subst h
  unfold Tab.nz
  simp [go_sem, arr2_eq]
  by_cases h1 : a = 0 <;> by_cases h2 : b = 0 <;> by_cases h3 : c = 0 <;> by_cases h4 : d = 0 <;> simp [h1, h2, h3, h4]
/-- all that the document's table keeps, in memory of the call's own -/
def RAllPost (f : FTab) (w : World) (e : Ending) (w' : World) : Prop := ∃ v, e = .returned v ∧ OwnAt w.heap.size 53 6 encEn w' v (cellsT f 512) ∧ Grew w w'
set_option maxHeartbeats 8000000 in
theorem refAll07_any (W : World) (t : Nat) (f : FTab) (h : RTabAt W t f) : Calls Tryz.prog 31 #[.pointer (some ⟨t, 0, none⟩)] W (RAllPost f W) := by
  have HT := Lib.hid h
  clear h
  go_enter Tryz.func31, Tryz.ntmps31
  go_wp2
  go_loopg [3, 4] 8 (fun gg s3 s4 wr => ∃ n : Nat, n ≤ 8 ∧ 8 - n ≤ gg ∧ s4 = .int .i64 n ∧ Hid (Grew W wr) ∧ Hid (OwnAt W.heap.size 53 6 encEn wr s3 (cellsT f (n * 64))))
  case atStart => exact ⟨0, by omega, by omega, rfl, Lib.hid (by repeat (first | with_reducible exact Grew.refl _ | apply Grew.more | apply Grew.alloc | apply Grew.drew | apply Grew.drewN)), Lib.hid (OwnAt.fresh (t := 53) (l := []) rfl rfl rfl (by simp [maxLen]) encEn_len rfl (Nat.le_refl _) rfl)⟩
  case round =>
    obtain ⟨n, hn, hgg, rfl, HG, HO⟩ := hrel
    by_cases hlt : n < 8
    · have hb : (n : Int) < 8 := by omega
      go_wp2
      go_loopg [3, 5] 64 (fun gg2 s3' s5 wr2 => ∃ k : Nat, k ≤ 64 ∧ 64 - k ≤ gg2 ∧ s5 = .int .i64 k ∧ Hid (Grew W wr2) ∧ Hid (OwnAt W.heap.size 53 6 encEn wr2 s3' (cellsT f (n * 64 + k))))
      case atStart => exact ⟨0, by omega, by omega, rfl, HG, HO⟩
      case round =>
        obtain ⟨k, hk, hgg2, rfl, HG2, HO2⟩ := hrel
        by_cases hlt2 : k < 64
        · have hb2 : (k : Int) < 64 := by omega
          obtain ⟨c0, c1, c2, c3⟩ := (HT.out.grew HG2.out).cells hlt hlt2
          have pt := Pre.mk (HT.out.grew HG2.out).lt
          have HS := Lib.hid (cellsT_succ f (n * 64 + k))
          have HE := Lib.hid (mkEn_at f (n := n) hlt2)
          have hlen := cellsT_len f (n * 64 + k)
          have HNZ := Lib.hid (show Tab.nz (mkEn f (n * 64 + k)) = Tab.nz ⟨0, 0, ((f n k).1.1, (f n k).1.2), ((f n k).2.1, (f n k).2.2)⟩ by rw [mkEn_at f hlt2]; rfl)
          generalize f n k = c at *
          obtain ⟨⟨p0, q0⟩, ⟨p1, q1⟩⟩ := c
          simp only at c0 c1 c2 c3
          cases hz : Tab.nz ⟨0, 0, (p0, q0), (p1, q1)⟩
          · have hq := run_neq_ce p0 q0 p1 q1 false hz
            have HZ := Lib.hid hz
            clear hz
            go_wp2
            go_roundg (64 - (k + 1))
            case measure => omega
            case rel => exact ⟨k + 1, by omega, by omega, by go_num, HG2, Lib.hid (by rw [← Nat.add_assoc, HS.out, HNZ.out, HZ.out]; simpa using HO2.out)⟩
          · have hq := run_neq_ce p0 q0 p1 q1 true hz
            have HZ := Lib.hid hz
            clear hz
            go_wp2_with (at_builtin; go_loud (refine wpList_ownK (w0 := W) rfl (.tmp 24) (.tmp 35) 31 _ _ _ _ [⟨(n : Int), (k : Int), (p0, q0), (p1, q1)⟩] rfl Tryz.underlying31 infoEn rfl (by decide) encEn_len encEn_one rfl (OwnAt.grew HO2.out (by repeat (first | with_reducible exact Grew.refl _ | apply Grew.more | apply Grew.alloc | apply Grew.drew | apply Grew.drewN))) (HG2.out.trans (by repeat (first | with_reducible exact Grew.refl _ | apply Grew.more | apply Grew.alloc | apply Grew.drew | apply Grew.drewN))) rfl (en_at _ _ _ _ rfl (by simp [go_sem])) (by simp; omega) (by decide) (by simp) ?_; intro v5 W5 hA; (have HA := Lib.hid hA); clear hA))
            go_roundg (64 - (k + 1))
            case measure => omega
            case rel => exact ⟨k + 1, by omega, by omega, by go_num, Lib.hid HA.out.1, Lib.hid (by rw [← Nat.add_assoc, HS.out, HNZ.out, HZ.out, if_pos rfl, HE.out]; exact HA.out.2.1)⟩
        · obtain rfl : k = 64 := by omega
          go_wp2
          go_roundg (8 - (n + 1))
          case measure => omega
          case rel => exact ⟨n + 1, by omega, by omega, by go_num, HG2, Lib.hid (by rw [show (n + 1) * 64 = n * 64 + 64 by omega]; exact HO2.out)⟩
    · obtain rfl : n = 8 := by omega
      obtain ⟨ak, ck, rfl⟩ := (OwnAt.rows HO.out encEn_len).len
      go_wp2
      go_ret
      exact ⟨_, rfl, HO.out, HG.out⟩
end Go.Proofs.YtmdmbimfdpngaaaGreatDoor
