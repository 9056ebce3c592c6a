import Derived.Test.YtiocdmfmghanmaaGreatDoorMg40
import Derived.Test.YtiocdmfmghanmaaGreatDoorMg32
import Derived.Test.YtiocdmfmghanmaaGreatDoorMg33
/-! forebayref05.Check. -/
namespace Go.Proofs.YtiocdmfmghanmaaGreatDoor
set_option linter.unusedSimpArgs false
set_option linter.unusedVariables false
open Go.RowKit Ga
set_option maxRecDepth 100000
set_option maxHeartbeats 8000000 in
theorem refCheck_any (v : Value) (l : List Val) (w : World) (hv : ValsAt w v l) : Calls Tryz.prog 9 #[v] w (RefCheck l w) := by
  obtain ⟨a, cap, rfl, hm, -⟩ := hv.open2
  have HV := Lib.hid hv
  clear hv
  cases hf : Co.fitsI l
  · have hs : Vm.safe l = false := by unfold Vm.safe Vm.checkC; rw [hf]; rfl
    have HS := Lib.hid hs
    have HF := Lib.hid hf
    clear hs hf
    go_enter Tryz.func9, Tryz.ntmps9
    go_wp2_with (go_at_call 20; refine (refFits_any _ l _ (HV.out.grew (by repeat (first | with_reducible exact Grew.refl _ | apply Grew.more | apply Grew.alloc | apply Grew.drew | apply Grew.drewN)))).mono ?_; rintro e w1 ⟨rfl, R5, n5, rfl⟩; rw [HF.out])
    refine bodyPost_ret (v := .agg #[.slice none 0 0, .int .i64 0, .int .i64 0, .bool false, .bool false, .bool false]) (by simp [results, Tryz.results9, go_sem]) rfl (RefCheck.mk HS.out (by repeat (first | with_reducible exact Grew.refl _ | apply Grew.more | apply Grew.alloc | apply Grew.drew | apply Grew.drewN)))
  · have HF := Lib.hid hf
    have hmm := @run_makeMap Tryz.prog
    go_enter Tryz.func9, Tryz.ntmps9
    clear hf
    go_wp2_with (go_at_call 20; refine (refFits_any _ l _ (HV.out.grew (by repeat (first | with_reducible exact Grew.refl _ | apply Grew.more | apply Grew.alloc | apply Grew.drew | apply Grew.drewN)))).mono ?_; rintro e w1 ⟨rfl, R5, n5, rfl⟩; rw [HF.out])
    obtain ⟨b3, hb3⟩ : ∃ b3, b3 = w.heap.size + 1 + R5.size := ⟨_, rfl⟩
    have h24 := (Co.fits_parts HF.out).1
    rw [← hb3]
    have HB3 := Lib.hid hb3
    clear hb3
    go_loopw [6] (fun i wr => ∃ (j : Nat) (vd : Value), j ≤ l.length ∧ i = .int .i64 j ∧ GoneAt w w.heap.size b3 (b3 + 1) 0 wr vd (.slice (some ⟨b3 + 1 + 1, 0, none⟩) 1 1) (List.replicate j (-1)) 0 0 false false [(0, 0, 0)] []) (fun i _ => l.length - (intOf i).toNat)
    case atStart =>
      have hb3 := HB3.out
      refine ⟨0, .slice none 0 0, Nat.zero_le _, rfl, by repeat (first | with_reducible exact Grew.refl _ | apply Grew.more | apply Grew.alloc | apply Grew.drew | apply Grew.drewN), by omega, Nat.le_refl _, by omega, by omega, ?_, ?_, OwnAt.nil _, ?_, ?_⟩
      · exact heap_alloc' (heap_alloc' (heap_alloc' (grew_heap (by repeat (first | with_reducible exact Grew.refl _ | apply Grew.more | apply Grew.alloc | apply Grew.drew | apply Grew.drewN)) (heap_new_at w _ _ rfl)) _) _) _
      · exact heap_alloc' (heap_alloc' (heap_new_at _ _ _ (by simp [World.size_alloc, World.more_size]; omega)) _) _
      · exact OwnAt.fresh (l := [((0, 0, 0) : Pl)]) rfl rfl rfl (by simp [maxLen]) encP_len (by simp [World.size_alloc, World.more_size]; omega) (by omega) rfl
      · have hs := SetAt.made (((w.alloc (.cells #[.slice none 0 0, .int .i64 0, .int .i64 0, .bool false, .bool false, .bool false] 36)).more R5 n5).alloc (.cells #[.slice none 0 0, .int .i64 0, .int .i64 0, .bool false, .bool false, .bool true] 36))
        rw [show (((w.alloc (.cells #[.slice none 0 0, .int .i64 0, .int .i64 0, .bool false, .bool false, .bool false] 36)).more R5 n5).alloc (.cells #[.slice none 0 0, .int .i64 0, .int .i64 0, .bool false, .bool false, .bool true] 36)).heap.size = b3 + 1 by simp [World.size_alloc, World.more_size]; omega] at hs
        exact hs.same (((Grew.refl _).alloc _).below.block _ hs.lt)
    case round =>
      obtain ⟨j, vd, hj, rfl, hga⟩ := hrel
      have hc3 := fun o => cell_of (o := o) hga.c3
      have hc30 := hc3 0
      simp at hc30
      have hp3 := Pre.mk (heap_lt hga.c3)
      clear hc3
      by_cases hlt : j < l.length
      · have hpd : ∃ a n c, vd = .slice a n c := by
          obtain ⟨a, c, h, _⟩ := hga.d.rows encD_len
          exact ⟨a, _, c, h⟩
        obtain ⟨ad, nd, cd, rfl⟩ := hpd
        have HGA := Lib.hid hga
        clear hga
        go_wp2_with (at_builtin; refine wpList_ownK (w0 := w) (v := Value.slice ad nd cd) rfl (.tmp 28) (.tmp 29) 33 _ _ _ _ [(-1 : Int)] rfl Tryz.underlying33 infoInt rfl (by decide) encD_len encD_one rfl (HGA.out.d.grew (by repeat (first | with_reducible exact Grew.refl _ | apply Grew.more | apply Grew.alloc | apply Grew.drew | apply Grew.drewN))) (HGA.out.g.trans (by repeat (first | with_reducible exact Grew.refl _ | apply Grew.more | apply Grew.alloc | apply Grew.drew | apply Grew.drewN))) rfl (enc_newU _ _ _ _ _ (by simp [go_sem]) rfl) (by simp; omega) (by decide) (by decide) ?_; intro v9 W9 hA; rw [rep_push] at hA; obtain ⟨a9, c9, rfl⟩ := own_slice' hA.2.1; rw [List.length_replicate] at hA ⊢; (have hf9 := frozen_of (o := 0) (HGA.out.at3 (by repeat (first | with_reducible exact Grew.refl _ | apply Grew.more | apply Grew.alloc | apply Grew.drew | apply Grew.drewN)) hA)); (have hq9 := cell_of (o := 0) (HGA.out.at3 (by repeat (first | with_reducible exact Grew.refl _ | apply Grew.more | apply Grew.alloc | apply Grew.drew | apply Grew.drewN)) hA)); (have hp9 := Pre.mk (heap_lt (HGA.out.at3 (by repeat (first | with_reducible exact Grew.refl _ | apply Grew.more | apply Grew.alloc | apply Grew.drew | apply Grew.drewN)) hA))); simp at hq9; (have HA := Lib.hid hA); clear hA)
        go_roundw
        case rel => exact ⟨j + 1, _, by omega, by go_num, HGA.out.pushD ((Grew.refl wr).alloc _) HA.out⟩
        case measure => first | (simp [intOf]; done) | (simp [intOf]; omega)
      · obtain rfl : j = l.length := by omega
        have HGA := Lib.hid hga
        clear hga hc30 hp3 hmm
        go_wp2
        refine loop9 l w _ a cap b3 _ _ _ ?_ HV.out HF.out (Going.frame rfl ⟨_, _, 0, 0, false, false, [(0, 0, 0)], [], HGA.out, Vm.Gone.start l, rfl⟩)
        · rintro a' w' ⟨u, vd, vt, dep, mx, em, u0, u1, M, rfl, hga, hsf⟩
          unfold frame9
          have HSF := Lib.hid hsf
          have hc := fun o => cell_of (o := o) hga.c3
          have hc0 := hc 0
          have hc1 := hc 1
          have hc2 := hc 2
          have hc3 := hc 3
          have hc4 := hc 4
          have hc5 := hc 5
          simp at hc0 hc1 hc2 hc3 hc4 hc5
          have hp3 := Pre.mk (heap_lt hga.c3)
          have hd := fun o => cell_of (o := o) hga.c2
          have hd0 := hd 0
          have hd1 := hd 1
          have hd2 := hd 2
          have hd3 := hd 3
          have hd4 := hd 4
          have hd5 := hd 5
          simp at hd0 hd1 hd2 hd3 hd4 hd5
          have hf := fun o => frozen_of (o := o) hga.c2
          have hf0 := hf 0
          have hf1 := hf 1
          have hf2 := hf 2
          have hf3 := hf 3
          have hf4 := hf 4
          have hf5 := hf 5
          have hp2 := Pre.mk (heap_lt hga.c2)
          obtain ⟨ad, cd, rfl⟩ := own_slice' hga.d
          obtain ⟨at', ct, rfl⟩ := own_slice' hga.t
          have HGA := Lib.hid hga
          clear hc hd hf hga hsf
          go_wp2
          refine bodyPost_ret (v := .agg #[.slice ad dep.length cd, .int .i64 mx, .int .i64 em, .bool u0, .bool u1, .bool true]) (by simp [results, Tryz.results9, go_sem, hd0, hd1, hd2, hd3, hd4, hd5]) rfl (RefCheck.mk HSF.out ?_)
          exact (((((HGA.out.g.set (Nat.le_refl _) _).set (Nat.le_refl _) _).set (Nat.le_refl _) _).set (Nat.le_refl _) _).set (Nat.le_refl _) _).set (Nat.le_refl _) _
end Go.Proofs.YtiocdmfmghanmaaGreatDoor

/-! What lies in memory while the document's machine runs. -/
namespace Go.Proofs.YtiocdmfmghanmaaGreatDoor
set_option linter.unusedSimpArgs false
set_option linter.unusedVariables false
open Go.RowKit Ga
set_option maxRecDepth 100000

theorem flatI : ∀ (l : List Val), (l.flatMap encI).length = l.length * 2
  | [] => rfl
  | d :: l => by rw [List.flatMap_cons, List.length_append, flatI l, List.length_cons]; show 2 + _ = _; omega
/-- the machine's memory: out, stack (their own blocks are two), the box of the input, of the cells, of the result -/
structure RunAt (w : World) (b4 b5 b7 : Nat) (p q : Int) (wr : World) (vo vs : Value) (s : Vm.St) : Prop where
  g : Grew w wr
  h4 : w.heap.size ≤ b4
  h5 : w.heap.size ≤ b5
  h7 : w.heap.size ≤ b7
  n57 : b5 ≠ b7
  c4 : wr.heap[b4]? = some (.cells #[.int .i64 p, .int .i64 q] 24)
  c5 : wr.heap[b5]? = some (.cells #[.int .i64 s.c0.1, .int .i64 s.c0.2, .int .i64 s.c1.1, .int .i64 s.c1.2] 25)
  c7 : wr.heap[b7]? = some (.cells #[.int .i64 0, .int .i64 0, .int .i64 0, .int .i64 0] 25)
  o : OwnAt w.heap.size 24 2 encI wr vo s.out
  k : OwnAt w.heap.size 24 2 encI wr vs s.stack
  d : ∀ b, vo.ownBlock = some b → vs.ownBlock ≠ some b
  o4 : vo.ownBlock ≠ some b4
  k4 : vs.ownBlock ≠ some b4
section
variable {w wr W W' : World} {b4 b5 b7 : Nat} {p q : Int} {vo vs v' : Value} {s : Vm.St}
theorem RunAt.grew (h : RunAt w b4 b5 b7 p q wr vo vs s) (g : Grew wr W) : RunAt w b4 b5 b7 p q W vo vs s :=
  { h with g := h.g.trans g, c4 := grew_heap g h.c4, c5 := grew_heap g h.c5, c7 := grew_heap g h.c7, o := h.o.grew g, k := h.k.grew g }
theorem RunAt.pushS (h : RunAt w b4 b5 b7 p q wr vo vs s) (g : Grew wr W) {l' : List Val} (hA : Appended w 24 2 encI W vs l' v' W') : RunAt w b4 b5 b7 p q W' vo v' { s with stack := l' } := by
  have h' := h.grew g
  obtain ⟨a1, a2, a3, a4, a5⟩ := hA
  have hne : ∀ {b : Nat} {c : Array Value}, W.heap[b]? = some (.cells c 25) → W'.heap[b]? = W.heap[b]? := fun {b c} hb => a4 b (heap_lt hb) (h'.k.other hb (by decide))
  have ho : ∀ b, vo.ownBlock = some b → W'.heap[b]? = W.heap[b]? := fun b hb => by
    obtain ⟨_, c, hc⟩ := h'.o.block hb
    exact a4 b (heap_lt hc) (h'.d b hb)
  refine ⟨a1, h.h4, h.h5, h.h7, h.n57, (a4 b4 (heap_lt h'.c4) h'.k4).trans h'.c4, (hne h'.c5).trans h'.c5, (hne h'.c7).trans h'.c7, h'.o.same ho, a2, fun b hb e => ?_, h.o4, fun e => ?_⟩
  · rcases a5 b e with e1 | e1
    · exact h'.d b hb e1
    · obtain ⟨_, c, hc⟩ := h'.o.block hb
      have := heap_lt hc
      omega
  · rcases a5 b4 e with e1 | e1
    · exact h'.k4 e1
    · have := heap_lt h'.c4
      omega
theorem RunAt.pushO (h : RunAt w b4 b5 b7 p q wr vo vs s) (g : Grew wr W) {l' : List Val} (hA : Appended w 24 2 encI W vo l' v' W') : RunAt w b4 b5 b7 p q W' v' vs { s with out := l' } := by
  have h' := h.grew g
  obtain ⟨a1, a2, a3, a4, a5⟩ := hA
  have hne : ∀ {b : Nat} {c : Array Value}, W.heap[b]? = some (.cells c 25) → W'.heap[b]? = W.heap[b]? := fun {b c} hb => a4 b (heap_lt hb) (h'.o.other hb (by decide))
  have ho : ∀ b, vs.ownBlock = some b → W'.heap[b]? = W.heap[b]? := fun b hb => by
    obtain ⟨_, c, hc⟩ := h'.k.block hb
    exact a4 b (heap_lt hc) fun e => h'.d b e hb
  refine ⟨a1, h.h4, h.h5, h.h7, h.n57, (a4 b4 (heap_lt h'.c4) h'.o4).trans h'.c4, (hne h'.c5).trans h'.c5, (hne h'.c7).trans h'.c7, a2, h'.k.same ho, fun b hb e => ?_, fun e => ?_, h.k4⟩
  · rcases a5 b hb with e1 | e1
    · exact h'.d b e1 e
    · obtain ⟨_, c, hc⟩ := h'.k.block e
      have := heap_lt hc
      omega
  · rcases a5 b4 e with e1 | e1
    · exact h'.o4 e1
    · have := heap_lt h'.c4
      omega
/-- the cells are written -/
theorem RunAt.cell0 (h : RunAt w b4 b5 b7 p q wr vo vs s) (x y : Int) : RunAt w b4 b5 b7 p q ((wr.setCell ⟨b5, 0, none⟩ (.int .i64 x)).setCell ⟨b5, 1, none⟩ (.int .i64 y)) vo vs { s with c0 := (x, y) } where
  g := (h.g.set h.h5 _).set h.h5 _
  h4 := h.h4
  h5 := h.h5
  h7 := h.h7
  n57 := h.n57
  c4 := by
    have : b5 ≠ b4 := by rintro rfl; have := h.c4.symm.trans h.c5; simp at this
    rw [set_other this, set_other this]; exact h.c4
  c5 := by rw [set_self (set_self h.c5)]; rfl
  c7 := by rw [set_other h.n57, set_other h.n57]; exact h.c7
  o := h.o.same fun b hb => by
    have : b5 ≠ b := fun e => h.o.other h.c5 (by decide) (e ▸ hb)
    rw [set_other this, set_other this]
  k := h.k.same fun b hb => by
    have : b5 ≠ b := fun e => h.k.other h.c5 (by decide) (e ▸ hb)
    rw [set_other this, set_other this]
  d := h.d
  o4 := h.o4
  k4 := h.k4
theorem RunAt.cell1 (h : RunAt w b4 b5 b7 p q wr vo vs s) (x y : Int) : RunAt w b4 b5 b7 p q ((wr.setCell ⟨b5, 2, none⟩ (.int .i64 x)).setCell ⟨b5, 3, none⟩ (.int .i64 y)) vo vs { s with c1 := (x, y) } where
  g := (h.g.set h.h5 _).set h.h5 _
  h4 := h.h4
  h5 := h.h5
  h7 := h.h7
  n57 := h.n57
  c4 := by
    have : b5 ≠ b4 := by rintro rfl; have := h.c4.symm.trans h.c5; simp at this
    rw [set_other this, set_other this]; exact h.c4
  c5 := by rw [set_self (set_self h.c5)]; rfl
  c7 := by rw [set_other h.n57, set_other h.n57]; exact h.c7
  o := h.o.same fun b hb => by
    have : b5 ≠ b := fun e => h.o.other h.c5 (by decide) (e ▸ hb)
    rw [set_other this, set_other this]
  k := h.k.same fun b hb => by
    have : b5 ≠ b := fun e => h.k.other h.c5 (by decide) (e ▸ hb)
    rw [set_other this, set_other this]
  d := h.d
  o4 := h.o4
  k4 := h.k4
/-- the stack is cut -/
theorem RunAt.cutS {b n cap m : Nat} (h : RunAt w b4 b5 b7 p q wr vo (.slice (some ⟨b, 0, none⟩) n cap) s) (hm : m ≤ s.stack.length) : RunAt w b4 b5 b7 p q wr vo (.slice (some ⟨b, 0, none⟩) m cap) { s with stack := s.stack.take m } :=
  { h with k := h.k.cut encI_len hm }
end
/-- a value of a slice of the call's own is written in place -/
theorem OwnAt.setI {base : Nat} {e : TypeId} {w : World} {b n cap j : Nat} {l : List Val} (h : OwnAt base e 2 encI w (.slice (some ⟨b, 0, none⟩) n cap) l) (hj : j < l.length) (x y : Int) :
    OwnAt base e 2 encI ((w.setCell ⟨b, j * 2, none⟩ (.int .i64 x)).setCell ⟨b, j * 2 + 1, none⟩ (.int .i64 y)) (.slice (some ⟨b, 0, none⟩) n cap) (l.set j (x, y)) := by
  obtain ⟨h1, h2⟩ := h
  refine ⟨by rw [flat_length encI_len, List.length_set], ?_⟩
  rcases h2 with ⟨h, _⟩ | ⟨g, cap', cur, hv, hb, hh, hc, hm, hs, ht⟩
  · cases h
  · cases hv
    refine .inr ⟨b, cap, (cur.setIfInBounds (j * 2) (.int .i64 x)).setIfInBounds (j * 2 + 1) (.int .i64 y), by rw [List.length_set], hb, set_self (set_self hh), by rw [List.length_set]; exact hc, hm, by rw [Array.size_setIfInBounds, Array.size_setIfInBounds]; exact hs, ?_⟩
    rw [List.length_set, Array.toList_setIfInBounds, Array.toList_setIfInBounds, List.take_set, List.take_set, ht]
    clear hh hs ht h1 hc hm
    induction l generalizing j with
    | nil => cases hj
    | cons a l ih =>
      cases j with
      | zero => simp [encI]
      | succ j =>
        rw [List.set_cons_succ, List.flatMap_cons, List.flatMap_cons, ← ih (by simpa using hj)]
        simp only [encI, List.cons_append, List.nil_append]
        rw [show (j + 1) * 2 = j * 2 + 1 + 1 by omega, show j * 2 + 1 + 1 + 1 = (j * 2 + 1) + 1 + 1 by omega]
        rfl
/-- a value of the stack is written in place -/
theorem RunAt.setS {w wr : World} {b4 b5 b7 : Nat} {p q : Int} {vo : Value} {s : Vm.St} {b n cap j : Nat} (h : RunAt w b4 b5 b7 p q wr vo (.slice (some ⟨b, 0, none⟩) n cap) s) (hj : j < s.stack.length) (x y : Int) :
    RunAt w b4 b5 b7 p q ((wr.setCell ⟨b, j * 2, none⟩ (.int .i64 x)).setCell ⟨b, j * 2 + 1, none⟩ (.int .i64 y)) vo (.slice (some ⟨b, 0, none⟩) n cap) { s with stack := s.stack.set j (x, y) } := by
  obtain ⟨hbb, c, hc⟩ := h.k.block rfl
  have e4 : b ≠ b4 := fun e => h.k4 (by rw [e]; rfl)
  have e5 : b ≠ b5 := by rintro rfl; exact h.k.other h.c5 (by decide) rfl
  have e7 : b ≠ b7 := by rintro rfl; exact h.k.other h.c7 (by decide) rfl
  refine ⟨(h.g.set hbb _).set hbb _, h.h4, h.h5, h.h7, h.n57, ?_, ?_, ?_, h.o.same fun q' hq => ?_, OwnAt.setI h.k hj x y, h.d, h.o4, h.k4⟩
  · rw [set_other e4, set_other e4]; exact h.c4
  · rw [set_other e5, set_other e5]; exact h.c5
  · rw [set_other e7, set_other e7]; exact h.c7
  · have : b ≠ q' := fun e => h.d q' hq (by rw [← e]; rfl)
    rw [set_other this, set_other this]
theorem enc_new {α : Type} {enc : α → List Value} (w : World) (x : α) (c : List Value) (t : TypeId) (b : Nat) (hb : b = w.heap.size) (hc : enc x = c) : ∀ j u, ([x].flatMap enc)[j]? = some u → (w.alloc (.cells c.toArray t)).cell? ⟨b, j, none⟩ = some u := by
  intro j u hj
  rw [cell_of (heap_new_at w _ b hb)]
  rw [List.flatMap_cons, List.flatMap_nil, List.append_nil, hc] at hj
  simpa using hj
theorem own_sliceL {α : Type} {base : Nat} {e : TypeId} {k : Nat} {enc : α → List Value} {w : World} {v : Value} {l : List α} (h : OwnAt base e k enc w v l) : ∃ a c, v = .slice a l.length c := by
  rcases h.form with ⟨h1, h2⟩ | ⟨b, c, h1, _⟩
  · exact ⟨none, 0, by rw [h1, h2]; rfl⟩
  · exact ⟨_, c, h1⟩
theorem own_slice1 {α : Type} {base : Nat} {e : TypeId} {k : Nat} {enc : α → List Value} {w : World} {v : Value} {l : List α} {x : α} (h : OwnAt base e k enc w v (l ++ [x])) : ∃ a c, v = .slice a (l.length + 1) c := by
  obtain ⟨a, c, h⟩ := own_sliceL h
  exact ⟨a, c, by rw [h, List.length_append]; rfl⟩
end Go.Proofs.YtiocdmfmghanmaaGreatDoor
