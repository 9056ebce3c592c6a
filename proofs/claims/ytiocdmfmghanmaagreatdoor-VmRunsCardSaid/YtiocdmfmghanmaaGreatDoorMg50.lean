import Derived.Test.YtiocdmfmghanmaaGreatDoorMg43
import Derived.Test.YtiocdmfmghanmaaGreatDoorMg44
import Derived.Test.YtiocdmfmghanmaaGreatDoorMg45
import Derived.Test.YtiocdmfmghanmaaGreatDoorMg46
import Derived.Test.YtiocdmfmghanmaaGreatDoorMg47
import Derived.Test.YtiocdmfmghanmaaGreatDoorMg48
import Derived.Test.YtiocdmfmghanmaaGreatDoorMg49
/-! forebayref06.Run. -/
namespace Go.Proofs.YtiocdmfmghanmaaGreatDoor
set_option linter.unusedSimpArgs false
set_option linter.unusedVariables false
open Go.RowKit Ga
set_option maxRecDepth 100000

theorem loop11 (l : List Val) (c : Vm.Cst) (s0 : Vm.St) (w wr : World) (a : Option Addr) (cap b4 b5 b7 n : Nat) (p q : Int) (a0 : Act) (Q : Exit → Act → World → Prop)
    (hv : ValsAt w (.slice a l.length cap) l) (hc : Vm.checkC l = some c) (hin : rightV (p, q) = true) (hs00 : 0 ≤ s0.steps ∧ s0.steps ≤ 900) (ho0 : s0.out.length ≤ 900)
    (h0 : Next11 l c s0 w (.slice a l.length cap) b4 b5 b7 p q n a0 wr)
    (hX : ∀ (a' : Act) (w' : World), End11 l s0 w (.slice a l.length cap) b4 b5 b7 p q a' w' → Q (.exit 0) a' w') :
    Code.wp Tryz.prog (.loop ((Tryz.f11.body.bind firstLoop).getD .skip)) Q a0 wr := by
  refine wp_loop_ghost_k (Next11 l c s0 w (.slice a l.length cap) b4 b5 b7 p q) n h0 ?_
  rintro n1 a1 wr ⟨u, rfl, s, h11, h12, hR, hA, hS, rfl⟩ J K hJ hK
  have hK' : ∀ (a' : Act) (w' : World), (∃ n, n < 60 - s.pc ∧ Next11 l c s0 w (.slice a l.length cap) b4 b5 b7 p q n a' w') → K a' w' := fun a' w' ⟨n', h1, h2⟩ => hK _ _ (Handed.intro n' h1 (hJ _ _ _ h2))
  have hs0 : 0 ≤ s.steps ∧ s.steps ≤ 1000 := by have := hA.s1; have := hA.s2; have := hA.pc; omega
  have hout : s.out.length ≤ 1000 := by have := hA.ot; have := hA.pc; omega
  rcases Nat.lt_or_ge s.pc l.length with hlt | hge
  · have hi : l[s.pc]? = some l[s.pc] := List.getElem?_eq_getElem hlt
    obtain ⟨⟨x, y⟩, hxy⟩ : ∃ xy, xy = l[s.pc] := ⟨_, rfl⟩
    rw [← hxy] at hi
    clear hxy
    obtain ⟨r0, r1, -, -, -, r6⟩ := Vm.right_parts' hc hi
    have hcs : x = 0 ∨ x = 1 ∨ x = 2 ∨ x = 3 ∨ (x = 4 ∧ y = 0) ∨ (x = 4 ∧ y = 1) ∨ (x = 5 ∧ y = 0) ∨ (x = 5 ∧ y = 1) ∨ x = 6 ∨ x = 7 ∨ x = 8 ∨ x = 9 ∨ x = 10 ∨ x = 11 ∨ x = 12 ∨ x = 13 ∨ x = 14 ∨ x = 15 ∨ x = 16 ∨ x = 17 := by omega
    rcases hcs with rfl | rfl | rfl | rfl | ⟨rfl, rfl⟩ | ⟨rfl, rfl⟩ | ⟨rfl, rfl⟩ | ⟨rfl, rfl⟩ | rfl | rfl | rfl | rfl | rfl | rfl | rfl | rfl | rfl | rfl | rfl | rfl
    · exact op11_0 l c s0 s w wr a cap b4 b5 b7 p q y u _ _ K Q hv hc hin hR hA hS rfl rfl h11 h12 hs0 hout hi hK' hX
    · exact op11_1 l c s0 s w wr a cap b4 b5 b7 p q y u _ _ K Q hv hc hin hR hA hS rfl rfl h11 h12 hs0 hout hi hK' hX
    · exact op11_2 l c s0 s w wr a cap b4 b5 b7 p q y u _ _ K Q hv hc hin hR hA hS rfl rfl h11 h12 hs0 hout hi hK' hX
    · exact op11_3 l c s0 s w wr a cap b4 b5 b7 p q y u _ _ K Q hv hc hin hR hA hS rfl rfl h11 h12 hs0 hout hi hK' hX
    · exact op11_40 l c s0 s w wr a cap b4 b5 b7 p q u _ _ K Q hv hc hin hR hA hS rfl rfl h11 h12 hs0 hout hi hK' hX
    · exact op11_41 l c s0 s w wr a cap b4 b5 b7 p q u _ _ K Q hv hc hin hR hA hS rfl rfl h11 h12 hs0 hout hi hK' hX
    · exact op11_50 l c s0 s w wr a cap b4 b5 b7 p q u _ _ K Q hv hc hin hR hA hS rfl rfl h11 h12 hs0 hout hi hK' hX
    · exact op11_51 l c s0 s w wr a cap b4 b5 b7 p q u _ _ K Q hv hc hin hR hA hS rfl rfl h11 h12 hs0 hout hi hK' hX
    · exact op11_6 l c s0 s w wr a cap b4 b5 b7 p q y u _ _ K Q hv hc hin hR hA hS rfl rfl h11 h12 hs0 hout hi hK' hX
    · exact op11_7 l c s0 s w wr a cap b4 b5 b7 p q y u _ _ K Q hv hc hin hR hA hS rfl rfl h11 h12 hs0 hout hi hK' hX
    · exact op11_8 l c s0 s w wr a cap b4 b5 b7 p q y u _ _ K Q hv hc hin hR hA hS rfl rfl h11 h12 hs0 hout hi hK' hX
    · exact op11_9 l c s0 s w wr a cap b4 b5 b7 p q y u _ _ K Q hv hc hin hR hA hS rfl rfl h11 h12 hs0 hout hi hK' hX
    · exact op11_10 l c s0 s w wr a cap b4 b5 b7 p q y u _ _ K Q hv hc hin hR hA hS rfl rfl h11 h12 hs0 hout hi hK' hX
    · exact op11_11 l c s0 s w wr a cap b4 b5 b7 p q y u _ _ K Q hv hc hin hR hA hS rfl rfl h11 h12 hs0 hout hi hK' hX
    · exact op11_12 l c s0 s w wr a cap b4 b5 b7 p q y u _ _ K Q hv hc hin hR hA hS rfl rfl h11 h12 hs0 hout hi hK' hX
    · exact op11_13 l c s0 s w wr a cap b4 b5 b7 p q y u _ _ K Q hv hc hin hR hA hS rfl rfl h11 h12 hs0 hout hi hK' hX
    · exact op11_14 l c s0 s w wr a cap b4 b5 b7 p q y u _ _ K Q hv hc hin hR hA hS rfl rfl h11 h12 hs0 hout hi hK' hX
    · by_cases hz : Vm.top1 s = (0, 0)
      · exact op11_15z l c s0 s w wr a cap b4 b5 b7 p q y u _ _ K Q hv hc hin hR hA hS rfl rfl h11 h12 hs0 hout hi hK' hz hX
      · exact op11_15n l c s0 s w wr a cap b4 b5 b7 p q y u _ _ K Q hv hc hin hR hA hS rfl rfl h11 h12 hs0 hout hi hK' hz hX
    · exact op11_16 l c s0 s w wr a cap b4 b5 b7 p q y u _ _ K Q hv hc hin hR hA hS rfl rfl h11 h12 hs0 hout hi hK' hX
    · by_cases hz : (Vm.top1 (Vm.pop1 s)).1 < (Vm.top1 s).1
      · exact op11_17y l c s0 s w wr a cap b4 b5 b7 p q y u _ _ K Q hv hc hin hR hA hS rfl rfl h11 h12 hs0 hout hi hK' hz hX
      · exact op11_17n l c s0 s w wr a cap b4 b5 b7 p q y u _ _ K Q hv hc hin hR hA hS rfl rfl h11 h12 hs0 hout hi hK' hz hX
  · exact op11_end l c s0 s w wr a cap b4 b5 b7 p q u _ _ K Q hv hc hin hR hA hS rfl rfl h11 h12 hs0 hout hge hK' hX
end Go.Proofs.YtiocdmfmghanmaaGreatDoor

/-! forebayref06.Run, whole. -/
namespace Go.Proofs.YtiocdmfmghanmaaGreatDoor
set_option linter.unusedSimpArgs false
set_option linter.unusedVariables false
open Go.RowKit Ga
set_option maxRecDepth 100000

theorem Next11.start {l : List Val} {c : Vm.Cst} {s0 s : Vm.St} {w w' : World} {v : Value} {b4 b5 b7 : Nat} {p q : Int} {a' : Act} (h : a' = frame11 v b4 b5 b7 (fun i => a'.tmps.getD i undef)) (hst : a'.tmps.getD 11 undef = .int .i64 s.steps) (hpc : a'.tmps.getD 12 undef = .int .i64 s.pc)
    (hR : RunAt w b4 b5 b7 p q w' (a'.tmps.getD 9 undef) (a'.tmps.getD 10 undef) s) (hA : Vm.At l c (p, q) s0 s) (hS : Vm.AllRight s) : Next11 l c s0 w v b4 b5 b7 p q (60 - s.pc) a' w' :=
  ⟨_, h, s, hst, hpc, hR, hA, hS, rfl⟩

theorem RunAt.start (w : World) (p q x0 y0 x1 y1 : Int) : RunAt w w.heap.size (w.heap.size + 1) (w.heap.size + 1 + 1) p q
    (((((w.alloc (.cells #[.int .i64 p, .int .i64 q] 24)).alloc (.cells #[.int .i64 x0, .int .i64 y0, .int .i64 x1, .int .i64 y1] 25)).alloc (.cells #[.int .i64 0, .int .i64 0, .int .i64 0, .int .i64 0] 25)).alloc (.cells #[] 24)).alloc (.cells #[] 24))
    (.slice (some ⟨w.heap.size + 1 + 1 + 1, 0, none⟩) 0 0) (.slice (some ⟨w.heap.size + 1 + 1 + 1 + 1, 0, none⟩) 0 0) (Vm.stOf ⟨[], (x0, y0), (x1, y1), 0⟩) := by
  refine ⟨by repeat (first | with_reducible exact Grew.refl _ | apply Grew.more | apply Grew.alloc | apply Grew.drew | apply Grew.drewN), Nat.le_refl _, by omega, by omega, by omega, ?_, ?_, ?_, ?_, ?_, fun b h e => ?_, fun e => ?_, fun e => ?_⟩
  · exact heap_alloc' (heap_alloc' (heap_alloc' (heap_alloc' (heap_new_at w _ _ rfl) _) _) _) _
  · exact heap_alloc' (heap_alloc' (heap_alloc' (heap_new_at _ _ _ (by simp [World.size_alloc])) _) _) _
  · exact heap_alloc' (heap_alloc' (heap_new_at _ _ _ (by simp [World.size_alloc])) _) _
  · exact OwnAt.grew (OwnAt.fresh (l := ([] : List Val)) rfl rfl rfl (Nat.zero_le _) encI_len (by simp [World.size_alloc]) (by omega) rfl) ((Grew.refl _).alloc _)
  · exact OwnAt.fresh (l := ([] : List Val)) rfl rfl rfl (Nat.zero_le _) encI_len (by simp [World.size_alloc]) (by omega) rfl
  · have h1 : w.heap.size + 1 + 1 + 1 = b := Option.some.inj h
    have h2 : w.heap.size + 1 + 1 + 1 + 1 = b := Option.some.inj e
    omega
  · have h1 : w.heap.size + 1 + 1 + 1 = w.heap.size := Option.some.inj e
    omega
  · have h1 : w.heap.size + 1 + 1 + 1 + 1 = w.heap.size := Option.some.inj e
    omega

set_option maxHeartbeats 8000000 in
theorem refRun_any (v : Value) (l : List Val) (p q x0 y0 x1 y1 : Int) (w : World) (hv : ValsAt w v l) (hz : Vm.codeOf l (x0, y0) (x1, y1) [(p, q)] = 0) :
    Calls Tryz.prog 11 #[v, .agg #[.int .i64 p, .int .i64 q], .agg #[.int .i64 x0, .int .i64 y0, .int .i64 x1, .int .i64 y1]] w (fun e w' => Grew w w' ∧ ∃ vo, e = .returned (.tuple #[vo, .agg #[.int .i64 (Vm.each l ⟨[], (x0, y0), (x1, y1), 0⟩ [(p, q)]).c0.1, .int .i64 (Vm.each l ⟨[], (x0, y0), (x1, y1), 0⟩ [(p, q)]).c0.2, .int .i64 (Vm.each l ⟨[], (x0, y0), (x1, y1), 0⟩ [(p, q)]).c1.1, .int .i64 (Vm.each l ⟨[], (x0, y0), (x1, y1), 0⟩ [(p, q)]).c1.2], .int .i64 (Vm.each l ⟨[], (x0, y0), (x1, y1), 0⟩ [(p, q)]).steps]) ∧ OwnAt w.heap.size 24 2 encI w' vo (Vm.each l ⟨[], (x0, y0), (x1, y1), 0⟩ [(p, q)]).out) := by
  obtain ⟨a, cap, rfl, hm, -⟩ := hv.open2
  obtain ⟨hs, hr, hi⟩ := Vm.codeOf_zero.1 hz
  simp only [List.all_cons, List.all_nil, Bool.and_true, Bool.and_eq_true] at hr hi
  obtain ⟨c, hc⟩ : ∃ c, Vm.checkC l = some c := Option.isSome_iff_exists.1 hs
  have hat := at_start hc (p, q) ⟨[], (x0, y0), (x1, y1), 0⟩
  have hall : Vm.AllRight (Vm.stOf ⟨[], (x0, y0), (x1, y1), 0⟩) := ⟨hr.1, hr.2, fun u hu => by cases hu⟩
  have hdn : Vm.resOf (Vm.done l (p, q) (Vm.stOf ⟨[], (x0, y0), (x1, y1), 0⟩)) = Vm.each l ⟨[], (x0, y0), (x1, y1), 0⟩ [(p, q)] := rfl
  generalize Vm.each l ⟨[], (x0, y0), (x1, y1), 0⟩ [(p, q)] = E at *
  have HV := Lib.hid hv
  have HC := Lib.hid hc
  have HAT := Lib.hid hat
  have HALL := Lib.hid hall
  have HI := Lib.hid hi
  have HDN := Lib.hid hdn
  clear hv hc hat hall hi hr hs hz hdn
  go_enter Tryz.func11, Tryz.ntmps11
  go_wp2
  refine loop11 l c (Vm.stOf ⟨[], (x0, y0), (x1, y1), 0⟩) w _ a cap w.heap.size (w.heap.size + 1) (w.heap.size + 1 + 1) 60 p q _ _ HV.out HC.out HI.out ⟨Int.le_refl 0, (by decide : (0 : Int) ≤ 900)⟩ (Nat.zero_le 900) (Next11.start (s := Vm.stOf ⟨[], (x0, y0), (x1, y1), 0⟩) rfl rfl rfl ?_ HAT.out HALL.out) ?_
  · exact RunAt.start w p q x0 y0 x1 y1
  · rintro a' w' ⟨u, s, rfl, h11, ⟨vs, hR⟩, ho, h0, h1, hst⟩
    unfold frame11
    generalize u 9 = vo at *
    rw [h11]
    have k50 := cell_of (o := 0) hR.c5
    have k51 := cell_of (o := 1) hR.c5
    have k52 := cell_of (o := 2) hR.c5
    have k53 := cell_of (o := 3) hR.c5
    simp at k50 k51 k52 k53
    have k70 := cell_of (o := 0) hR.c7
    have k71 := cell_of (o := 1) hR.c7
    have k72 := cell_of (o := 2) hR.c7
    have k73 := cell_of (o := 3) hR.c7
    simp at k70 k71 k72 k73
    have f70 := frozen_of (o := 0) hR.c7
    have f71 := frozen_of (o := 1) hR.c7
    have f72 := frozen_of (o := 2) hR.c7
    have f73 := frozen_of (o := 3) hR.c7
    have p5 := Pre.mk (heap_lt hR.c5)
    have p7 := Pre.mk (heap_lt hR.c7)
    have h57 := hR.n57
    have HR := Lib.hid hR
    have HO := Lib.hid ho
    have H0 := Lib.hid h0
    have H1 := Lib.hid h1
    have HST := Lib.hid hst
    clear hR ho h0 h1 hst h11
    go_wp2
    go_region
    all_goals
      go_wp2
      refine bodyPost_ret (v := .tuple #[vo, .agg #[.int .i64 s.c0.1, .int .i64 s.c0.2, .int .i64 s.c1.1, .int .i64 s.c1.2], .int .i64 s.steps]) (by simp [results, Tryz.results11, go_sem, k70, k71, k72, k73]) rfl ?_
      have h7 := HR.out.h7
      refine ⟨((((HR.out.g.set h7 _).set h7 _).set h7 _).set h7 _).trans (by repeat (first | with_reducible exact Grew.refl _ | apply Grew.more | apply Grew.alloc | apply Grew.drew | apply Grew.drewN)), vo, ?_, ?_⟩
      · rw [← HDN.out]
        simp only [Vm.resOf]
        rw [← H0.out, ← H1.out, ← HST.out]
      · rw [← HDN.out]
        show OwnAt _ _ _ _ _ vo (Vm.done l (p, q) _).out
        rw [← HO.out]
        refine HR.out.o.same fun r hr => ?_
        have hn : w.heap.size + 1 + 1 ≠ r := fun e => HR.out.o.other HR.out.c7 (by decide) (e ▸ hr)
        exact (set_other hn).trans ((set_other hn).trans ((set_other hn).trans (set_other hn)))
end Go.Proofs.YtiocdmfmghanmaaGreatDoor
