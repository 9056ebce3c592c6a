import Derived.Test.YtmdmbimfdpngaaaGreatDoorMp23
import Derived.Test.YtmdmbimfdpngaaaGreatDoorMp4
import Derived.Deep.RegionLaw
/-! vm: two and top. -/
namespace Go.Proofs.YtmdmbimfdpngaaaGreatDoor
set_option linter.unusedSimpArgs false
set_option linter.unusedVariables false
open Go.RowKit Ga
set_option maxRecDepth 100000

/-- What an operation leaves. -/
def Did (w0 : World) (B : Nat) (vp : Value) (inp : Val) (W : World) (s' : Vm.St) (e : Ending) (W' : World) : Prop :=
  e = .returned (.tuple #[]) ∧ Grew w0 W' ∧ Mach w0.heap.size B vp inp W' s' ∧ Kept B W W'
theorem Moved.kept {w0 W W' : World} {B : Nat} {vp : Value} {inp : Val} {vo vs vs' : Value} {s s' : Vm.St} (h : Moved w0 B vp inp W vo vs s' W' vs') (hm : MachAt w0.heap.size B vp inp W vo vs s) : Kept B W W' := h.rest.kept hm
theorem vals2 (W : World) (x y p q : Int) (t : TypeId) (b : Nat) (hb : b = W.heap.size) : ValsAt (W.alloc (.cells #[.int .i64 x, .int .i64 y, .int .i64 p, .int .i64 q] t)) (.slice (some ⟨b, 0, none⟩) 2 2) [(x, y), (p, q)] := by
  refine RowsAt.fresh (l := [(x, y), (p, q)]) (c := [.int .i64 x, .int .i64 y, .int .i64 p, .int .i64 q]) rfl (by simp [maxLen]) (fun _ => rfl) hb ?_
  simp

set_option maxHeartbeats 8000000 in
theorem two_any (w0 W : World) (B : Nat) (vp : Value) (inp : Val) (s : Vm.St) (op : Int) (h : Mach w0.heap.size B vp inp W s) (hg : Grew w0 W) (hl : s.stack.length ≤ 8) (h2 : 2 ≤ s.stack.length) (hop : op = 6 ∨ op = 7 ∨ op = 8 ∨ op = 17) :
    Calls Tryz.prog 171 #[.pointer (some ⟨B, 0, none⟩), .int .i64 op] W (Did w0 B vp inp W (Vm.push1 (Vm.pop1 (Vm.pop1 s)) (Vm.two op (Vm.top1 (Vm.pop1 s)) (Vm.top1 s)))) := by
  obtain ⟨vo, vs, h⟩ := h
  have q1 := Vm.pop1_len s
  have q2 := Vm.pop1_len (Vm.pop1 s)
  obtain ⟨x, y, e1⟩ : ∃ x y, Vm.top1 s = (x, y) := ⟨_, _, rfl⟩
  obtain ⟨p, q, e2⟩ : ∃ p q, Vm.top1 (Vm.pop1 s) = (p, q) := ⟨_, _, rfl⟩
  have E1 := Lib.hid e1
  have E2 := Lib.hid e2
  have HM := Lib.hid h
  have HG := Lib.hid hg
  have L1 : 0 < s.stack.length := by omega
  have HL1 : s.stack.length ≤ 1000 := by omega
  have L2 : 0 < (Vm.pop1 s).stack.length := by omega
  have HL2 : (Vm.pop1 s).stack.length ≤ 1000 := by omega
  have HLEN : (Vm.pop1 (Vm.pop1 s)).stack.length ≤ 1000 := by omega
  rw [e1, e2]
  clear h hg e1 e2
  rcases hop with rfl | rfl | rfl | rfl
  · have hv : Vm.two 6 (p, q) (x, y) = addV (addV (0, 0) (p, q)) (x, y) := rfl
    rw [hv]
    clear hv
    go_enter Tryz.func171, Tryz.ntmps171
    go_wp2_with (first
      | (go_at_call 169; refine (pop_any w0 _ B vp inp (Vm.pop1 s) vo vs1 (HM1.out.at_.grew (by repeat (first | with_reducible exact Grew.refl _ | apply Grew.more | apply Grew.alloc | apply Grew.drew | apply Grew.drewN))) (HM1.out.grew.trans (by repeat (first | with_reducible exact Grew.refl _ | apply Grew.more | apply Grew.alloc | apply Grew.drew | apply Grew.drewN))) L2 HL2).mono ?_; rintro e w2 ⟨rfl, vs2, hm2⟩; rw [E2.out]; (have k4 := (hm2.rest.2 w1.heap.size (by simp [go_sem]) (by have := HM1.out.at_.ltB; omega) (fun e => by have := HM1.out.at_.ltS _ e; omega)).trans (heap_new_at _ _ _ rfl)); (have k40 := cell_of (o := 0) k4); (have k41 := cell_of (o := 1) k4); (have p4 := Pre.mk (heap_lt k4)); simp at k40 k41; (have HM2 := Lib.hid hm2); clear hm2 k4)
      | (go_at_call 169; refine (pop_any w0 _ B vp inp s vo vs (HM.out.grew (by repeat (first | with_reducible exact Grew.refl _ | apply Grew.more | apply Grew.alloc | apply Grew.drew | apply Grew.drewN))) (HG.out.trans (by repeat (first | with_reducible exact Grew.refl _ | apply Grew.more | apply Grew.alloc | apply Grew.drew | apply Grew.drewN))) L1 HL1).mono ?_; rintro e w1 ⟨rfl, vs1, hm1⟩; rw [E1.out]; (have HM1 := Lib.hid hm1); clear hm1)
      | (go_at_call 221; refine (add_any _ [(p, q), (x, y)] _ (vals2 _ _ _ _ _ _ _ (by simp [go_sem]))).mono ?_; rintro e w3 ⟨rfl, R3, n3, rfl⟩)
      | (go_at_call 168; refine (push_any w0 _ B vp inp (Vm.pop1 (Vm.pop1 s)) _ _ _ _ (HM2.out.at_.grew (by repeat (first | with_reducible exact Grew.refl _ | apply Grew.more | apply Grew.alloc | apply Grew.drew | apply Grew.drewN))) (HM2.out.grew.trans (by repeat (first | with_reducible exact Grew.refl _ | apply Grew.more | apply Grew.alloc | apply Grew.drew | apply Grew.drewN))) HLEN).mono ?_; rintro e w4 ⟨rfl, vs4, hm4⟩; (have HM4 := Lib.hid hm4); clear hm4)
      )
    go_end0
    exact ⟨rfl, HM4.out.grew, ⟨_, _, HM4.out.at_⟩, ((HM1.out.kept HM.out).trans (Kept.grew B (by repeat (first | with_reducible exact Grew.refl _ | apply Grew.more | apply Grew.alloc | apply Grew.drew | apply Grew.drewN)))).trans (((HM2.out.kept (HM1.out.at_.grew (by repeat (first | with_reducible exact Grew.refl _ | apply Grew.more | apply Grew.alloc | apply Grew.drew | apply Grew.drewN)))).trans (Kept.grew B (by repeat (first | with_reducible exact Grew.refl _ | apply Grew.more | apply Grew.alloc | apply Grew.drew | apply Grew.drewN)))).trans (HM4.out.kept (HM2.out.at_.grew (by repeat (first | with_reducible exact Grew.refl _ | apply Grew.more | apply Grew.alloc | apply Grew.drew | apply Grew.drewN)))))⟩
  · have hv : Vm.two 7 (p, q) (x, y) = subV (p, q) (x, y) := rfl
    rw [hv]
    clear hv
    go_enter Tryz.func171, Tryz.ntmps171
    go_wp2_with (first
      | (go_at_call 169; refine (pop_any w0 _ B vp inp (Vm.pop1 s) vo vs1 (HM1.out.at_.grew (by repeat (first | with_reducible exact Grew.refl _ | apply Grew.more | apply Grew.alloc | apply Grew.drew | apply Grew.drewN))) (HM1.out.grew.trans (by repeat (first | with_reducible exact Grew.refl _ | apply Grew.more | apply Grew.alloc | apply Grew.drew | apply Grew.drewN))) L2 HL2).mono ?_; rintro e w2 ⟨rfl, vs2, hm2⟩; rw [E2.out]; (have k4 := (hm2.rest.2 w1.heap.size (by simp [go_sem]) (by have := HM1.out.at_.ltB; omega) (fun e => by have := HM1.out.at_.ltS _ e; omega)).trans (heap_new_at _ _ _ rfl)); (have k40 := cell_of (o := 0) k4); (have k41 := cell_of (o := 1) k4); (have p4 := Pre.mk (heap_lt k4)); simp at k40 k41; (have HM2 := Lib.hid hm2); clear hm2 k4)
      | (go_at_call 169; refine (pop_any w0 _ B vp inp s vo vs (HM.out.grew (by repeat (first | with_reducible exact Grew.refl _ | apply Grew.more | apply Grew.alloc | apply Grew.drew | apply Grew.drewN))) (HG.out.trans (by repeat (first | with_reducible exact Grew.refl _ | apply Grew.more | apply Grew.alloc | apply Grew.drew | apply Grew.drewN))) L1 HL1).mono ?_; rintro e w1 ⟨rfl, vs1, hm1⟩; rw [E1.out]; (have HM1 := Lib.hid hm1); clear hm1)
      | (go_at_call 222; refine (sub_any (p, q) (x, y) _).mono ?_; rintro e w3 ⟨rfl, R3, n3, rfl⟩)
      | (go_at_call 168; refine (push_any w0 _ B vp inp (Vm.pop1 (Vm.pop1 s)) _ _ _ _ (HM2.out.at_.grew (by repeat (first | with_reducible exact Grew.refl _ | apply Grew.more | apply Grew.alloc | apply Grew.drew | apply Grew.drewN))) (HM2.out.grew.trans (by repeat (first | with_reducible exact Grew.refl _ | apply Grew.more | apply Grew.alloc | apply Grew.drew | apply Grew.drewN))) HLEN).mono ?_; rintro e w4 ⟨rfl, vs4, hm4⟩; (have HM4 := Lib.hid hm4); clear hm4)
      )
    go_end0
    exact ⟨rfl, HM4.out.grew, ⟨_, _, HM4.out.at_⟩, ((HM1.out.kept HM.out).trans (Kept.grew B (by repeat (first | with_reducible exact Grew.refl _ | apply Grew.more | apply Grew.alloc | apply Grew.drew | apply Grew.drewN)))).trans (((HM2.out.kept (HM1.out.at_.grew (by repeat (first | with_reducible exact Grew.refl _ | apply Grew.more | apply Grew.alloc | apply Grew.drew | apply Grew.drewN)))).trans (Kept.grew B (by repeat (first | with_reducible exact Grew.refl _ | apply Grew.more | apply Grew.alloc | apply Grew.drew | apply Grew.drewN)))).trans (HM4.out.kept (HM2.out.at_.grew (by repeat (first | with_reducible exact Grew.refl _ | apply Grew.more | apply Grew.alloc | apply Grew.drew | apply Grew.drewN)))))⟩
  · have hv : Vm.two 8 (p, q) (x, y) = mulV (mulV (1, 0) (p, q)) (x, y) := rfl
    rw [hv]
    clear hv
    go_enter Tryz.func171, Tryz.ntmps171
    go_wp2_with (first
      | (go_at_call 169; refine (pop_any w0 _ B vp inp (Vm.pop1 s) vo vs1 (HM1.out.at_.grew (by repeat (first | with_reducible exact Grew.refl _ | apply Grew.more | apply Grew.alloc | apply Grew.drew | apply Grew.drewN))) (HM1.out.grew.trans (by repeat (first | with_reducible exact Grew.refl _ | apply Grew.more | apply Grew.alloc | apply Grew.drew | apply Grew.drewN))) L2 HL2).mono ?_; rintro e w2 ⟨rfl, vs2, hm2⟩; rw [E2.out]; (have k4 := (hm2.rest.2 w1.heap.size (by simp [go_sem]) (by have := HM1.out.at_.ltB; omega) (fun e => by have := HM1.out.at_.ltS _ e; omega)).trans (heap_new_at _ _ _ rfl)); (have k40 := cell_of (o := 0) k4); (have k41 := cell_of (o := 1) k4); (have p4 := Pre.mk (heap_lt k4)); simp at k40 k41; (have HM2 := Lib.hid hm2); clear hm2 k4)
      | (go_at_call 169; refine (pop_any w0 _ B vp inp s vo vs (HM.out.grew (by repeat (first | with_reducible exact Grew.refl _ | apply Grew.more | apply Grew.alloc | apply Grew.drew | apply Grew.drewN))) (HG.out.trans (by repeat (first | with_reducible exact Grew.refl _ | apply Grew.more | apply Grew.alloc | apply Grew.drew | apply Grew.drewN))) L1 HL1).mono ?_; rintro e w1 ⟨rfl, vs1, hm1⟩; rw [E1.out]; (have HM1 := Lib.hid hm1); clear hm1)
      | (go_at_call 223; refine (mul_any _ [(p, q), (x, y)] _ (vals2 _ _ _ _ _ _ _ (by simp [go_sem]))).mono ?_; rintro e w3 ⟨rfl, R3, n3, rfl⟩)
      | (go_at_call 168; refine (push_any w0 _ B vp inp (Vm.pop1 (Vm.pop1 s)) _ _ _ _ (HM2.out.at_.grew (by repeat (first | with_reducible exact Grew.refl _ | apply Grew.more | apply Grew.alloc | apply Grew.drew | apply Grew.drewN))) (HM2.out.grew.trans (by repeat (first | with_reducible exact Grew.refl _ | apply Grew.more | apply Grew.alloc | apply Grew.drew | apply Grew.drewN))) HLEN).mono ?_; rintro e w4 ⟨rfl, vs4, hm4⟩; (have HM4 := Lib.hid hm4); clear hm4)
      )
    go_end0
    exact ⟨rfl, HM4.out.grew, ⟨_, _, HM4.out.at_⟩, ((HM1.out.kept HM.out).trans (Kept.grew B (by repeat (first | with_reducible exact Grew.refl _ | apply Grew.more | apply Grew.alloc | apply Grew.drew | apply Grew.drewN)))).trans (((HM2.out.kept (HM1.out.at_.grew (by repeat (first | with_reducible exact Grew.refl _ | apply Grew.more | apply Grew.alloc | apply Grew.drew | apply Grew.drewN)))).trans (Kept.grew B (by repeat (first | with_reducible exact Grew.refl _ | apply Grew.more | apply Grew.alloc | apply Grew.drew | apply Grew.drewN)))).trans (HM4.out.kept (HM2.out.at_.grew (by repeat (first | with_reducible exact Grew.refl _ | apply Grew.more | apply Grew.alloc | apply Grew.drew | apply Grew.drewN)))))⟩
  · have hv : Vm.two 17 (p, q) (x, y) = (if lessV (p, q) (x, y) then 1 else 0, 0) := rfl
    rw [hv]
    clear hv
    cases hls : lessV (p, q) (x, y)
    all_goals
      have HLS := Lib.hid hls
      clear hls
      go_enter Tryz.func171, Tryz.ntmps171
      go_wp2_with (first
        | (go_at_call 169; refine (pop_any w0 _ B vp inp (Vm.pop1 s) vo vs1 (HM1.out.at_.grew (by repeat (first | with_reducible exact Grew.refl _ | apply Grew.more | apply Grew.alloc | apply Grew.drew | apply Grew.drewN))) (HM1.out.grew.trans (by repeat (first | with_reducible exact Grew.refl _ | apply Grew.more | apply Grew.alloc | apply Grew.drew | apply Grew.drewN))) L2 HL2).mono ?_; rintro e w2 ⟨rfl, vs2, hm2⟩; rw [E2.out]; (have k4 := (hm2.rest.2 w1.heap.size (by simp [go_sem]) (by have := HM1.out.at_.ltB; omega) (fun e => by have := HM1.out.at_.ltS _ e; omega)).trans (heap_new_at _ _ _ rfl)); (have k40 := cell_of (o := 0) k4); (have k41 := cell_of (o := 1) k4); (have p4 := Pre.mk (heap_lt k4)); simp at k40 k41; (have HM2 := Lib.hid hm2); clear hm2 k4)
        | (go_at_call 169; refine (pop_any w0 _ B vp inp s vo vs (HM.out.grew (by repeat (first | with_reducible exact Grew.refl _ | apply Grew.more | apply Grew.alloc | apply Grew.drew | apply Grew.drewN))) (HG.out.trans (by repeat (first | with_reducible exact Grew.refl _ | apply Grew.more | apply Grew.alloc | apply Grew.drew | apply Grew.drewN))) L1 HL1).mono ?_; rintro e w1 ⟨rfl, vs1, hm1⟩; rw [E1.out]; (have HM1 := Lib.hid hm1); clear hm1)
        | (go_at_call 224; refine (less_any (p, q) (x, y) _).mono ?_; rintro e w3 ⟨rfl, R3, n3, rfl⟩; rw [HLS.out])
        | (go_at_call 168; refine (push_any w0 _ B vp inp (Vm.pop1 (Vm.pop1 s)) _ _ _ _ (HM2.out.at_.grew (by repeat (first | with_reducible exact Grew.refl _ | apply Grew.more | apply Grew.alloc | apply Grew.drew | apply Grew.drewN))) (HM2.out.grew.trans (by repeat (first | with_reducible exact Grew.refl _ | apply Grew.more | apply Grew.alloc | apply Grew.drew | apply Grew.drewN))) HLEN).mono ?_; rintro e w4 ⟨rfl, vs4, hm4⟩; (have HM4 := Lib.hid hm4); clear hm4)
        )
      go_end0
      exact ⟨rfl, HM4.out.grew, ⟨_, _, HM4.out.at_⟩, ((HM1.out.kept HM.out).trans (Kept.grew B (by repeat (first | with_reducible exact Grew.refl _ | apply Grew.more | apply Grew.alloc | apply Grew.drew | apply Grew.drewN)))).trans (((HM2.out.kept (HM1.out.at_.grew (by repeat (first | with_reducible exact Grew.refl _ | apply Grew.more | apply Grew.alloc | apply Grew.drew | apply Grew.drewN)))).trans (Kept.grew B (by repeat (first | with_reducible exact Grew.refl _ | apply Grew.more | apply Grew.alloc | apply Grew.drew | apply Grew.drewN)))).trans (HM4.out.kept (HM2.out.at_.grew (by repeat (first | with_reducible exact Grew.refl _ | apply Grew.more | apply Grew.alloc | apply Grew.drew | apply Grew.drewN)))))⟩

theorem MachAt.emitted {w0 W W1 W9 : World} {B : Nat} {vp vo vs v9 : Value} {inp : Val} {s : Vm.St} {v : Val} (h : MachAt w0.heap.size B vp inp W vo vs s) (g : Grew W W1) (hA : Appended w0 47 2 encI W1 vo (s.out ++ [v]) v9 W9) :
    W9.heap[B]? = some (.cells #[vo, .int .i64 s.c0.1, .int .i64 s.c0.2, .int .i64 s.c1.1, .int .i64 s.c1.2, .int .i64 s.steps, vp, .int .i64 inp.1, .int .i64 inp.2, .int .i64 s.pc, vs] 194) ∧ Grew w0 (W9.setCell ⟨B, 0, none⟩ v9) ∧ Mach w0.heap.size B vp inp (W9.setCell ⟨B, 0, none⟩ v9) (Vm.emit1 s v) ∧ Kept B W (W9.setCell ⟨B, 0, none⟩ v9) := by
  obtain ⟨h1, h2, h3, h4, h5⟩ := hA
  have hB1 := grew_heap g h.cB
  have hB9 : W9.heap[B]? = some (.cells #[vo, .int .i64 s.c0.1, .int .i64 s.c0.2, .int .i64 s.c1.1, .int .i64 s.c1.2, .int .i64 s.steps, vp, .int .i64 inp.1, .int .i64 inp.2, .int .i64 s.pc, vs] 194) :=
    (h4 B (heap_lt hB1) (fun e => h.neO B e rfl)).trans hB1
  refine ⟨hB9, h1.set h.hB _, ⟨v9, vs, h.hB, by rw [set_self hB9]; rfl, ?_, ?_, fun q hq e => ?_⟩, fun q c t hq ht hB => ?_⟩
  · refine h2.same fun q hq => ?_
    rw [set_other]
    rintro rfl
    exact h2.other hB9 (by decide) hq
  · refine (h.hs.grew g).same fun q hq => ?_
    rw [set_other (h.neS q hq)]
    obtain ⟨_, c, hc⟩ := (h.hs.grew g).block hq
    exact h4 q (heap_lt hc) fun e => h.ne q e hq
  · rcases h5 q hq with h6 | h6
    · exact h.ne q h6 e
    · obtain ⟨_, c, hc⟩ := (h.hs.grew g).block e
      have := heap_lt hc
      omega
  · have hq1 := grew_heap g hq
    rw [set_other (fun e => hB e.symm), h4 q (heap_lt hq1) ((h.ho.grew g).other hq1 ht)]
    exact hq1

set_option maxHeartbeats 8000000 in
theorem top9_any (w0 W : World) (B : Nat) (vp : Value) (inp : Val) (s : Vm.St) (h : Mach w0.heap.size B vp inp W s) (hg : Grew w0 W) (hl : s.stack.length ≤ 8) (h2 : 1 ≤ s.stack.length) :
    Calls Tryz.prog 172 #[.pointer (some ⟨B, 0, none⟩), .int .i64 9] W (Did w0 B vp inp W (Vm.push1 (Vm.pop1 s) (conjV (Vm.top1 s)))) := by
  obtain ⟨vo, vs, h⟩ := h
  have q1 := Vm.pop1_len s
  have q2 := Vm.pop1_len (Vm.pop1 s)
  obtain ⟨x, y, e1⟩ : ∃ x y, Vm.top1 s = (x, y) := ⟨_, _, rfl⟩
  obtain ⟨p, q, e2⟩ : ∃ p q, Vm.top1 (Vm.pop1 s) = (p, q) := ⟨_, _, rfl⟩
  have E1 := Lib.hid e1
  have E2 := Lib.hid e2
  have HM := Lib.hid h
  have HG := Lib.hid hg
  have L1 : 0 < s.stack.length := by omega
  have HL1 : s.stack.length ≤ 1000 := by omega
  have HL0 : (Vm.pop1 s).stack.length ≤ 1000 := by omega
  rw [e1]
  clear h hg e1 e2
  go_enter Tryz.func172, Tryz.ntmps172
  go_wp2_with (first
    | (go_at_call 169; refine (pop_any w0 _ B vp inp s vo vs (HM.out.grew (by repeat (first | with_reducible exact Grew.refl _ | apply Grew.more | apply Grew.alloc | apply Grew.drew | apply Grew.drewN))) (HG.out.trans (by repeat (first | with_reducible exact Grew.refl _ | apply Grew.more | apply Grew.alloc | apply Grew.drew | apply Grew.drewN))) L1 HL1).mono ?_; rintro e w1 ⟨rfl, vs1, hm1⟩; rw [E1.out]; (have HM1 := Lib.hid hm1); clear hm1)
    | (go_at_call 225; refine (conj_any (x, y) _).mono ?_; rintro e w3 ⟨rfl, R3, n3, rfl⟩)
    | (go_at_call 168; refine (push_any w0 _ B vp inp (Vm.pop1 s) _ _ _ _ (HM1.out.at_.grew (by repeat (first | with_reducible exact Grew.refl _ | apply Grew.more | apply Grew.alloc | apply Grew.drew | apply Grew.drewN))) (HM1.out.grew.trans (by repeat (first | with_reducible exact Grew.refl _ | apply Grew.more | apply Grew.alloc | apply Grew.drew | apply Grew.drewN))) HL0).mono ?_; rintro e w4 ⟨rfl, vs4, hm4⟩; (have HM4 := Lib.hid hm4); clear hm4)
    )
  go_end0
  exact ⟨rfl, HM4.out.grew, ⟨_, _, HM4.out.at_⟩, (HM1.out.kept HM.out).trans ((Kept.grew B (by repeat (first | with_reducible exact Grew.refl _ | apply Grew.more | apply Grew.alloc | apply Grew.drew | apply Grew.drewN))).trans (HM4.out.kept (HM1.out.at_.grew (by repeat (first | with_reducible exact Grew.refl _ | apply Grew.more | apply Grew.alloc | apply Grew.drew | apply Grew.drewN)))))⟩

set_option maxHeartbeats 8000000 in
theorem top10_any (w0 W : World) (B : Nat) (vp : Value) (inp : Val) (s : Vm.St) (h : Mach w0.heap.size B vp inp W s) (hg : Grew w0 W) (hl : s.stack.length ≤ 8) (h2 : 1 ≤ s.stack.length) :
    Calls Tryz.prog 172 #[.pointer (some ⟨B, 0, none⟩), .int .i64 10] W (Did w0 B vp inp W (Vm.push1 (Vm.pop1 s) (turnV (Vm.top1 s)))) := by
  obtain ⟨vo, vs, h⟩ := h
  have q1 := Vm.pop1_len s
  have q2 := Vm.pop1_len (Vm.pop1 s)
  obtain ⟨x, y, e1⟩ : ∃ x y, Vm.top1 s = (x, y) := ⟨_, _, rfl⟩
  obtain ⟨p, q, e2⟩ : ∃ p q, Vm.top1 (Vm.pop1 s) = (p, q) := ⟨_, _, rfl⟩
  have E1 := Lib.hid e1
  have E2 := Lib.hid e2
  have HM := Lib.hid h
  have HG := Lib.hid hg
  have L1 : 0 < s.stack.length := by omega
  have HL1 : s.stack.length ≤ 1000 := by omega
  have HL0 : (Vm.pop1 s).stack.length ≤ 1000 := by omega
  rw [e1]
  clear h hg e1 e2
  go_enter Tryz.func172, Tryz.ntmps172
  go_wp2_with (first
    | (go_at_call 169; refine (pop_any w0 _ B vp inp s vo vs (HM.out.grew (by repeat (first | with_reducible exact Grew.refl _ | apply Grew.more | apply Grew.alloc | apply Grew.drew | apply Grew.drewN))) (HG.out.trans (by repeat (first | with_reducible exact Grew.refl _ | apply Grew.more | apply Grew.alloc | apply Grew.drew | apply Grew.drewN))) L1 HL1).mono ?_; rintro e w1 ⟨rfl, vs1, hm1⟩; rw [E1.out]; (have HM1 := Lib.hid hm1); clear hm1)
    | (go_at_call 226; refine (turn_any (x, y) _).mono ?_; rintro e w3 ⟨rfl, R3, n3, rfl⟩)
    | (go_at_call 168; refine (push_any w0 _ B vp inp (Vm.pop1 s) _ _ _ _ (HM1.out.at_.grew (by repeat (first | with_reducible exact Grew.refl _ | apply Grew.more | apply Grew.alloc | apply Grew.drew | apply Grew.drewN))) (HM1.out.grew.trans (by repeat (first | with_reducible exact Grew.refl _ | apply Grew.more | apply Grew.alloc | apply Grew.drew | apply Grew.drewN))) HL0).mono ?_; rintro e w4 ⟨rfl, vs4, hm4⟩; (have HM4 := Lib.hid hm4); clear hm4)
    )
  go_end0
  exact ⟨rfl, HM4.out.grew, ⟨_, _, HM4.out.at_⟩, (HM1.out.kept HM.out).trans ((Kept.grew B (by repeat (first | with_reducible exact Grew.refl _ | apply Grew.more | apply Grew.alloc | apply Grew.drew | apply Grew.drewN))).trans (HM4.out.kept (HM1.out.at_.grew (by repeat (first | with_reducible exact Grew.refl _ | apply Grew.more | apply Grew.alloc | apply Grew.drew | apply Grew.drewN)))))⟩

set_option maxHeartbeats 8000000 in
theorem top11_any (w0 W : World) (B : Nat) (vp : Value) (inp : Val) (s : Vm.St) (h : Mach w0.heap.size B vp inp W s) (hg : Grew w0 W) (hl : s.stack.length ≤ 8) (h2 : 1 ≤ s.stack.length) :
    Calls Tryz.prog 172 #[.pointer (some ⟨B, 0, none⟩), .int .i64 11] W (Did w0 B vp inp W (Vm.push1 (Vm.push1 (Vm.pop1 s) (Vm.top1 s)) (Vm.top1 s))) := by
  obtain ⟨vo, vs, h⟩ := h
  have q1 := Vm.pop1_len s
  have q2 := Vm.pop1_len (Vm.pop1 s)
  obtain ⟨x, y, e1⟩ : ∃ x y, Vm.top1 s = (x, y) := ⟨_, _, rfl⟩
  obtain ⟨p, q, e2⟩ : ∃ p q, Vm.top1 (Vm.pop1 s) = (p, q) := ⟨_, _, rfl⟩
  have E1 := Lib.hid e1
  have E2 := Lib.hid e2
  have HM := Lib.hid h
  have HG := Lib.hid hg
  have L1 : 0 < s.stack.length := by omega
  have HL1 : s.stack.length ≤ 1000 := by omega
  have HL0 : (Vm.pop1 s).stack.length ≤ 1000 := by omega
  have q3 := Vm.push1_len (Vm.pop1 s) (x, y)
  have HL3 : (Vm.push1 (Vm.pop1 s) (x, y)).stack.length ≤ 1000 := by omega
  rw [e1]
  clear h hg e1 e2
  go_enter Tryz.func172, Tryz.ntmps172
  go_wp2_with (first
    | (go_at_call 169; refine (pop_any w0 _ B vp inp s vo vs (HM.out.grew (by repeat (first | with_reducible exact Grew.refl _ | apply Grew.more | apply Grew.alloc | apply Grew.drew | apply Grew.drewN))) (HG.out.trans (by repeat (first | with_reducible exact Grew.refl _ | apply Grew.more | apply Grew.alloc | apply Grew.drew | apply Grew.drewN))) L1 HL1).mono ?_; rintro e w1 ⟨rfl, vs1, hm1⟩; rw [E1.out]; (have HM1 := Lib.hid hm1); clear hm1)
    | (go_at_call 168; refine (push_any w0 _ B vp inp (Vm.push1 (Vm.pop1 s) (x, y)) _ _ _ _ (HM4.out.at_.grew (by repeat (first | with_reducible exact Grew.refl _ | apply Grew.more | apply Grew.alloc | apply Grew.drew | apply Grew.drewN))) (HM4.out.grew.trans (by repeat (first | with_reducible exact Grew.refl _ | apply Grew.more | apply Grew.alloc | apply Grew.drew | apply Grew.drewN))) HL3).mono ?_; rintro e w5 ⟨rfl, vs5, hm5⟩; (have HM5 := Lib.hid hm5); clear hm5)
    | (go_at_call 168; refine (push_any w0 _ B vp inp (Vm.pop1 s) _ _ _ _ (HM1.out.at_.grew (by repeat (first | with_reducible exact Grew.refl _ | apply Grew.more | apply Grew.alloc | apply Grew.drew | apply Grew.drewN))) (HM1.out.grew.trans (by repeat (first | with_reducible exact Grew.refl _ | apply Grew.more | apply Grew.alloc | apply Grew.drew | apply Grew.drewN))) HL0).mono ?_; rintro e w4 ⟨rfl, vs4, hm4⟩; (have k4 := (hm4.rest.2 w1.heap.size (by simp [go_sem]) (by have := HM1.out.at_.ltB; omega) (fun e => by have := HM1.out.at_.ltS _ e; omega)).trans (heap_new_at _ _ _ rfl)); (have k40 := cell_of (o := 0) k4); (have k41 := cell_of (o := 1) k4); (have p4 := Pre.mk (heap_lt k4)); simp at k40 k41; clear k4; (have HM4 := Lib.hid hm4); clear hm4)
    )
  go_end0
  exact ⟨rfl, HM5.out.grew, ⟨_, _, HM5.out.at_⟩, (HM1.out.kept HM.out).trans (((Kept.grew B (by repeat (first | with_reducible exact Grew.refl _ | apply Grew.more | apply Grew.alloc | apply Grew.drew | apply Grew.drewN))).trans (HM4.out.kept (HM1.out.at_.grew (by repeat (first | with_reducible exact Grew.refl _ | apply Grew.more | apply Grew.alloc | apply Grew.drew | apply Grew.drewN))))).trans ((Kept.grew B (by repeat (first | with_reducible exact Grew.refl _ | apply Grew.more | apply Grew.alloc | apply Grew.drew | apply Grew.drewN))).trans (HM5.out.kept (HM4.out.at_.grew (by repeat (first | with_reducible exact Grew.refl _ | apply Grew.more | apply Grew.alloc | apply Grew.drew | apply Grew.drewN))))))⟩

set_option maxHeartbeats 8000000 in
theorem top12_any (w0 W : World) (B : Nat) (vp : Value) (inp : Val) (s : Vm.St) (h : Mach w0.heap.size B vp inp W s) (hg : Grew w0 W) (hl : s.stack.length ≤ 8) (h2 : 2 ≤ s.stack.length) :
    Calls Tryz.prog 172 #[.pointer (some ⟨B, 0, none⟩), .int .i64 12] W (Did w0 B vp inp W (Vm.push1 (Vm.push1 (Vm.pop1 (Vm.pop1 s)) (Vm.top1 s)) (Vm.top1 (Vm.pop1 s)))) := by
  obtain ⟨vo, vs, h⟩ := h
  have q1 := Vm.pop1_len s
  have q2 := Vm.pop1_len (Vm.pop1 s)
  obtain ⟨x, y, e1⟩ : ∃ x y, Vm.top1 s = (x, y) := ⟨_, _, rfl⟩
  obtain ⟨p, q, e2⟩ : ∃ p q, Vm.top1 (Vm.pop1 s) = (p, q) := ⟨_, _, rfl⟩
  have E1 := Lib.hid e1
  have E2 := Lib.hid e2
  have HM := Lib.hid h
  have HG := Lib.hid hg
  have L1 : 0 < s.stack.length := by omega
  have HL1 : s.stack.length ≤ 1000 := by omega
  have L2 : 0 < (Vm.pop1 s).stack.length := by omega
  have HL2 : (Vm.pop1 s).stack.length ≤ 1000 := by omega
  have HLEN : (Vm.pop1 (Vm.pop1 s)).stack.length ≤ 1000 := by omega
  have q3 := Vm.push1_len (Vm.pop1 (Vm.pop1 s)) (x, y)
  have HL3 : (Vm.push1 (Vm.pop1 (Vm.pop1 s)) (x, y)).stack.length ≤ 1000 := by omega
  rw [e1, e2]
  clear h hg e1 e2
  go_enter Tryz.func172, Tryz.ntmps172
  go_wp2_with (first
    | (go_at_call 169; refine (pop_any w0 _ B vp inp (Vm.pop1 s) vo vs1 (HM1.out.at_.grew (by repeat (first | with_reducible exact Grew.refl _ | apply Grew.more | apply Grew.alloc | apply Grew.drew | apply Grew.drewN))) (HM1.out.grew.trans (by repeat (first | with_reducible exact Grew.refl _ | apply Grew.more | apply Grew.alloc | apply Grew.drew | apply Grew.drewN))) L2 HL2).mono ?_; rintro e w2 ⟨rfl, vs2, hm2⟩; rw [E2.out]; (have k4 := (hm2.rest.2 w1.heap.size (by simp [go_sem]) (by have := HM1.out.at_.ltB; omega) (fun e => by have := HM1.out.at_.ltS _ e; omega)).trans (heap_new_at _ _ _ rfl)); (have k40 := cell_of (o := 0) k4); (have k41 := cell_of (o := 1) k4); (have p4 := Pre.mk (heap_lt k4)); simp at k40 k41; (have HM2 := Lib.hid hm2); clear hm2 k4)
    | (go_at_call 169; refine (pop_any w0 _ B vp inp s vo vs (HM.out.grew (by repeat (first | with_reducible exact Grew.refl _ | apply Grew.more | apply Grew.alloc | apply Grew.drew | apply Grew.drewN))) (HG.out.trans (by repeat (first | with_reducible exact Grew.refl _ | apply Grew.more | apply Grew.alloc | apply Grew.drew | apply Grew.drewN))) L1 HL1).mono ?_; rintro e w1 ⟨rfl, vs1, hm1⟩; rw [E1.out]; (have HM1 := Lib.hid hm1); clear hm1)
    | (go_at_call 168; refine (push_any w0 _ B vp inp (Vm.push1 (Vm.pop1 (Vm.pop1 s)) (x, y)) _ _ _ _ (HM4.out.at_.grew (by repeat (first | with_reducible exact Grew.refl _ | apply Grew.more | apply Grew.alloc | apply Grew.drew | apply Grew.drewN))) (HM4.out.grew.trans (by repeat (first | with_reducible exact Grew.refl _ | apply Grew.more | apply Grew.alloc | apply Grew.drew | apply Grew.drewN))) HL3).mono ?_; rintro e w5 ⟨rfl, vs5, hm5⟩; (have HM5 := Lib.hid hm5); clear hm5)
    | (go_at_call 168; refine (push_any w0 _ B vp inp (Vm.pop1 (Vm.pop1 s)) _ _ _ _ (HM2.out.at_.grew (by repeat (first | with_reducible exact Grew.refl _ | apply Grew.more | apply Grew.alloc | apply Grew.drew | apply Grew.drewN))) (HM2.out.grew.trans (by repeat (first | with_reducible exact Grew.refl _ | apply Grew.more | apply Grew.alloc | apply Grew.drew | apply Grew.drewN))) HLEN).mono ?_; rintro e w4 ⟨rfl, vs4, hm4⟩; (have k5 := (hm4.rest.2 w2.heap.size (by simp [go_sem]) (by have := HM2.out.at_.ltB; omega) (fun e => by have := HM2.out.at_.ltS _ e; omega)).trans (heap_new_at _ _ _ rfl)); (have k50 := cell_of (o := 0) k5); (have k51 := cell_of (o := 1) k5); (have p5 := Pre.mk (heap_lt k5)); simp at k50 k51; clear k5; (have HM4 := Lib.hid hm4); clear hm4)
    )
  go_end0
  exact ⟨rfl, HM5.out.grew, ⟨_, _, HM5.out.at_⟩, ((HM1.out.kept HM.out).trans (Kept.grew B (by repeat (first | with_reducible exact Grew.refl _ | apply Grew.more | apply Grew.alloc | apply Grew.drew | apply Grew.drewN)))).trans (((HM2.out.kept (HM1.out.at_.grew (by repeat (first | with_reducible exact Grew.refl _ | apply Grew.more | apply Grew.alloc | apply Grew.drew | apply Grew.drewN)))).trans (Kept.grew B (by repeat (first | with_reducible exact Grew.refl _ | apply Grew.more | apply Grew.alloc | apply Grew.drew | apply Grew.drewN)))).trans (((HM4.out.kept (HM2.out.at_.grew (by repeat (first | with_reducible exact Grew.refl _ | apply Grew.more | apply Grew.alloc | apply Grew.drew | apply Grew.drewN)))).trans (Kept.grew B (by repeat (first | with_reducible exact Grew.refl _ | apply Grew.more | apply Grew.alloc | apply Grew.drew | apply Grew.drewN)))).trans (HM5.out.kept (HM4.out.at_.grew (by repeat (first | with_reducible exact Grew.refl _ | apply Grew.more | apply Grew.alloc | apply Grew.drew | apply Grew.drewN))))))⟩

set_option maxHeartbeats 8000000 in
theorem top13_any (w0 W : World) (B : Nat) (vp : Value) (inp : Val) (s : Vm.St) (h : Mach w0.heap.size B vp inp W s) (hg : Grew w0 W) (hl : s.stack.length ≤ 8) (h2 : 1 ≤ s.stack.length) :
    Calls Tryz.prog 172 #[.pointer (some ⟨B, 0, none⟩), .int .i64 13] W (Did w0 B vp inp W (Vm.pop1 s)) := by
  obtain ⟨vo, vs, h⟩ := h
  have q1 := Vm.pop1_len s
  have q2 := Vm.pop1_len (Vm.pop1 s)
  obtain ⟨x, y, e1⟩ : ∃ x y, Vm.top1 s = (x, y) := ⟨_, _, rfl⟩
  obtain ⟨p, q, e2⟩ : ∃ p q, Vm.top1 (Vm.pop1 s) = (p, q) := ⟨_, _, rfl⟩
  have E1 := Lib.hid e1
  have E2 := Lib.hid e2
  have HM := Lib.hid h
  have HG := Lib.hid hg
  have L1 : 0 < s.stack.length := by omega
  have HL1 : s.stack.length ≤ 1000 := by omega
  have HL0 : (Vm.pop1 s).stack.length ≤ 1000 := by omega
  skip
  clear h hg e1 e2
  go_enter Tryz.func172, Tryz.ntmps172
  go_wp2_with (first
    | (go_at_call 169; refine (pop_any w0 _ B vp inp s vo vs (HM.out.grew (by repeat (first | with_reducible exact Grew.refl _ | apply Grew.more | apply Grew.alloc | apply Grew.drew | apply Grew.drewN))) (HG.out.trans (by repeat (first | with_reducible exact Grew.refl _ | apply Grew.more | apply Grew.alloc | apply Grew.drew | apply Grew.drewN))) L1 HL1).mono ?_; rintro e w1 ⟨rfl, vs1, hm1⟩; rw [E1.out]; (have HM1 := Lib.hid hm1); clear hm1)
    )
  go_end0
  exact ⟨rfl, HM1.out.grew.trans (by repeat (first | with_reducible exact Grew.refl _ | apply Grew.more | apply Grew.alloc | apply Grew.drew | apply Grew.drewN)), ⟨_, _, HM1.out.at_.grew (by repeat (first | with_reducible exact Grew.refl _ | apply Grew.more | apply Grew.alloc | apply Grew.drew | apply Grew.drewN))⟩, (HM1.out.kept HM.out).trans (Kept.grew B (by repeat (first | with_reducible exact Grew.refl _ | apply Grew.more | apply Grew.alloc | apply Grew.drew | apply Grew.drewN)))⟩

set_option maxHeartbeats 8000000 in
theorem top14_any (w0 W : World) (B : Nat) (vp : Value) (inp : Val) (s : Vm.St) (h : Mach w0.heap.size B vp inp W s) (hg : Grew w0 W) (hl : s.stack.length ≤ 8) (h2 : 1 ≤ s.stack.length) (ho : s.out.length ≤ 100000) :
    Calls Tryz.prog 172 #[.pointer (some ⟨B, 0, none⟩), .int .i64 14] W (Did w0 B vp inp W (Vm.emit1 (Vm.pop1 s) (Vm.top1 s))) := by
  obtain ⟨vo, vs, h⟩ := h
  have q1 := Vm.pop1_len s
  have q2 := Vm.pop1_len (Vm.pop1 s)
  obtain ⟨x, y, e1⟩ : ∃ x y, Vm.top1 s = (x, y) := ⟨_, _, rfl⟩
  obtain ⟨p, q, e2⟩ : ∃ p q, Vm.top1 (Vm.pop1 s) = (p, q) := ⟨_, _, rfl⟩
  have E1 := Lib.hid e1
  have E2 := Lib.hid e2
  have HM := Lib.hid h
  have HG := Lib.hid hg
  have L1 : 0 < s.stack.length := by omega
  have HL1 : s.stack.length ≤ 1000 := by omega
  have HL0 : (Vm.pop1 s).stack.length ≤ 1000 := by omega
  have HO : s.out.length ≤ 100000 := ho
  rw [e1]
  clear h hg e1 e2
  go_enter Tryz.func172, Tryz.ntmps172
  go_wp2_with (go_at_call 169; refine (pop_any w0 _ B vp inp s vo vs (HM.out.grew (by repeat (first | with_reducible exact Grew.refl _ | apply Grew.more | apply Grew.alloc | apply Grew.drew | apply Grew.drewN))) (HG.out.trans (by repeat (first | with_reducible exact Grew.refl _ | apply Grew.more | apply Grew.alloc | apply Grew.drew | apply Grew.drewN))) L1 HL1).mono ?_; rintro e w1 ⟨rfl, vs1, hm1⟩; rw [E1.out]; (have hc1 := cell_of (o := 0) hm1.at_.cB); simp at hc1; (have hp1 := Pre.mk (heap_lt hm1.at_.cB)); (have HM1 := Lib.hid hm1); clear hm1)
  go_region_law (refine step_ownK (w0 := w0) rfl (.tmp 46) (.tmp 48) 108 _ _ _ _ [(x, y)] rfl Tryz.underlying108 infoVal rfl (by decide) encI_len encI_one rfl (HM1.out.at_.ho.grew (by repeat (first | with_reducible exact Grew.refl _ | apply Grew.more | apply Grew.alloc | apply Grew.drew | apply Grew.drewN))) (HM1.out.grew.trans (by repeat (first | with_reducible exact Grew.refl _ | apply Grew.more | apply Grew.alloc | apply Grew.drew | apply Grew.drewN))) rfl (encI_new _ _ _ _ rfl (by simp [go_sem])) (by have : (Vm.pop1 s).out.length = s.out.length := rfl; simp; omega) (by decide) Nat.one_pos ?_; intro v9 W9 hA9; obtain ⟨hB9, hg9, hm9, hk9⟩ := HM1.out.at_.emitted (by repeat (first | with_reducible exact Grew.refl _ | apply Grew.more | apply Grew.alloc | apply Grew.drew | apply Grew.drewN)) hA9; obtain ⟨b9, c9, rfl⟩ := own_one hA9.2.1; (have hc9 := cell_of (o := 0) hB9); (have hf9 := frozen_of (o := 0) hB9); simp at hc9; (have HG9 := Lib.hid hg9); (have HM9 := Lib.hid hm9); (have HK9 := Lib.hid hk9); clear hA9 hg9 hm9 hk9 hB9)
  all_goals
    go_wp2
    go_end0
    exact ⟨rfl, HG9.out, HM9.out, (HM1.out.kept HM.out).trans HK9.out⟩

end Go.Proofs.YtmdmbimfdpngaaaGreatDoor
