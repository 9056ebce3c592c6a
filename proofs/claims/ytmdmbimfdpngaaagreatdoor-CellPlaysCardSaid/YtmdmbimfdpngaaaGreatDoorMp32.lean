import Derived.Test.YtmdmbimfdpngaaaGreatDoorMp31
import Derived.Deep.DeepCutAuto
import Derived.Deep.CutBlock
import Derived.Deep.LoopGhost
import Derived.Deep.QuietTactic
import Derived.BigQuiet
import Derived.Deep.RegionHeld3
/-! What lies in memory while the document's machine runs. -/
namespace Go.Proofs.YtmdmbimfdpngaaaGreatDoor
set_option linter.unusedSimpArgs false
set_option linter.unusedVariables false
open Go.RowKit Ga
set_option maxRecDepth 100000

/-- the machine's memory: out, stack (their own blocks are two), the box of the input, of the cells, of the result -/
structure RunAt (w : World) (b4 b5 b7 : Nat) (p q : Int) (wr : World) (vo vs : Value) (s : Vm.St) : Prop where
  g : Grew w wr
  h4 : w.heap.size ≤ b4
  h5 : w.heap.size ≤ b5
  h7 : w.heap.size ≤ b7
  n57 : b5 ≠ b7
  c4 : wr.heap[b4]? = some (.cells #[.int .i64 p, .int .i64 q] 47)
  c5 : wr.heap[b5]? = some (.cells #[.int .i64 s.c0.1, .int .i64 s.c0.2, .int .i64 s.c1.1, .int .i64 s.c1.2] 48)
  c7 : wr.heap[b7]? = some (.cells #[.int .i64 0, .int .i64 0, .int .i64 0, .int .i64 0] 48)
  o : OwnAt w.heap.size 47 2 encI wr vo s.out
  k : OwnAt w.heap.size 47 2 encI wr vs s.stack
  d : ∀ b, vo.ownBlock = some b → vs.ownBlock ≠ some b
  o4 : vo.ownBlock ≠ some b4
  k4 : vs.ownBlock ≠ some b4
section
variable {w wr W W' : World} {b4 b5 b7 : Nat} {p q : Int} {vo vs v' : Value} {s : Vm.St}
theorem RunAt.grew (h : RunAt w b4 b5 b7 p q wr vo vs s) (g : Grew wr W) : RunAt w b4 b5 b7 p q W vo vs s :=
  { h with g := h.g.trans g, c4 := grew_heap g h.c4, c5 := grew_heap g h.c5, c7 := grew_heap g h.c7, o := h.o.grew g, k := h.k.grew g }
theorem RunAt.pushS (h : RunAt w b4 b5 b7 p q wr vo vs s) (g : Grew wr W) {l' : List Val} (hA : Appended w 47 2 encI W vs l' v' W') : RunAt w b4 b5 b7 p q W' vo v' { s with stack := l' } := by
  have h' := h.grew g
  obtain ⟨a1, a2, a3, a4, a5⟩ := hA
  have hne : ∀ {b : Nat} {c : Array Value}, W.heap[b]? = some (.cells c 48) → W'.heap[b]? = W.heap[b]? := fun {b c} hb => a4 b (heap_lt hb) (h'.k.other hb (by decide))
  have ho : ∀ b, vo.ownBlock = some b → W'.heap[b]? = W.heap[b]? := fun b hb => by
    obtain ⟨_, c, hc⟩ := h'.o.block hb
    exact a4 b (heap_lt hc) (h'.d b hb)
  refine ⟨a1, h.h4, h.h5, h.h7, h.n57, (a4 b4 (heap_lt h'.c4) h'.k4).trans h'.c4, (hne h'.c5).trans h'.c5, (hne h'.c7).trans h'.c7, h'.o.same ho, a2, fun b hb e => ?_, h.o4, fun e => ?_⟩
  · rcases a5 b e with e1 | e1
    · exact h'.d b hb e1
    · obtain ⟨_, c, hc⟩ := h'.o.block hb
      have := heap_lt hc
      omega
  · rcases a5 b4 e with e1 | e1
    · exact h'.k4 e1
    · have := heap_lt h'.c4
      omega
theorem RunAt.pushO (h : RunAt w b4 b5 b7 p q wr vo vs s) (g : Grew wr W) {l' : List Val} (hA : Appended w 47 2 encI W vo l' v' W') : RunAt w b4 b5 b7 p q W' v' vs { s with out := l' } := by
  have h' := h.grew g
  obtain ⟨a1, a2, a3, a4, a5⟩ := hA
  have hne : ∀ {b : Nat} {c : Array Value}, W.heap[b]? = some (.cells c 48) → W'.heap[b]? = W.heap[b]? := fun {b c} hb => a4 b (heap_lt hb) (h'.o.other hb (by decide))
  have ho : ∀ b, vs.ownBlock = some b → W'.heap[b]? = W.heap[b]? := fun b hb => by
    obtain ⟨_, c, hc⟩ := h'.k.block hb
    exact a4 b (heap_lt hc) fun e => h'.d b e hb
  refine ⟨a1, h.h4, h.h5, h.h7, h.n57, (a4 b4 (heap_lt h'.c4) h'.o4).trans h'.c4, (hne h'.c5).trans h'.c5, (hne h'.c7).trans h'.c7, a2, h'.k.same ho, fun b hb e => ?_, fun e => ?_, h.k4⟩
  · rcases a5 b hb with e1 | e1
    · exact h'.d b e1 e
    · obtain ⟨_, c, hc⟩ := h'.k.block e
      have := heap_lt hc
      omega
  · rcases a5 b4 e with e1 | e1
    · exact h'.o4 e1
    · have := heap_lt h'.c4
      omega
/-- the cells are written -/
theorem RunAt.cell0 (h : RunAt w b4 b5 b7 p q wr vo vs s) (x y : Int) : RunAt w b4 b5 b7 p q ((wr.setCell ⟨b5, 0, none⟩ (.int .i64 x)).setCell ⟨b5, 1, none⟩ (.int .i64 y)) vo vs { s with c0 := (x, y) } where
  g := (h.g.set h.h5 _).set h.h5 _
  h4 := h.h4
  h5 := h.h5
  h7 := h.h7
  n57 := h.n57
  c4 := by
    have : b5 ≠ b4 := by rintro rfl; have := h.c4.symm.trans h.c5; simp at this
    rw [set_other this, set_other this]; exact h.c4
  c5 := by rw [set_self (set_self h.c5)]; rfl
  c7 := by rw [set_other h.n57, set_other h.n57]; exact h.c7
  o := h.o.same fun b hb => by
    have : b5 ≠ b := fun e => h.o.other h.c5 (by decide) (e ▸ hb)
    rw [set_other this, set_other this]
  k := h.k.same fun b hb => by
    have : b5 ≠ b := fun e => h.k.other h.c5 (by decide) (e ▸ hb)
    rw [set_other this, set_other this]
  d := h.d
  o4 := h.o4
  k4 := h.k4
theorem RunAt.cell1 (h : RunAt w b4 b5 b7 p q wr vo vs s) (x y : Int) : RunAt w b4 b5 b7 p q ((wr.setCell ⟨b5, 2, none⟩ (.int .i64 x)).setCell ⟨b5, 3, none⟩ (.int .i64 y)) vo vs { s with c1 := (x, y) } where
  g := (h.g.set h.h5 _).set h.h5 _
  h4 := h.h4
  h5 := h.h5
  h7 := h.h7
  n57 := h.n57
  c4 := by
    have : b5 ≠ b4 := by rintro rfl; have := h.c4.symm.trans h.c5; simp at this
    rw [set_other this, set_other this]; exact h.c4
  c5 := by rw [set_self (set_self h.c5)]; rfl
  c7 := by rw [set_other h.n57, set_other h.n57]; exact h.c7
  o := h.o.same fun b hb => by
    have : b5 ≠ b := fun e => h.o.other h.c5 (by decide) (e ▸ hb)
    rw [set_other this, set_other this]
  k := h.k.same fun b hb => by
    have : b5 ≠ b := fun e => h.k.other h.c5 (by decide) (e ▸ hb)
    rw [set_other this, set_other this]
  d := h.d
  o4 := h.o4
  k4 := h.k4
/-- the stack is cut -/
theorem RunAt.cutS {b n cap m : Nat} (h : RunAt w b4 b5 b7 p q wr vo (.slice (some ⟨b, 0, none⟩) n cap) s) (hm : m ≤ s.stack.length) : RunAt w b4 b5 b7 p q wr vo (.slice (some ⟨b, 0, none⟩) m cap) { s with stack := s.stack.take m } :=
  { h with k := h.k.cut encI_len hm }
end
/-- a value of a slice of the call's own is written in place -/
theorem OwnAt.setI {base : Nat} {e : TypeId} {w : World} {b n cap j : Nat} {l : List Val} (h : OwnAt base e 2 encI w (.slice (some ⟨b, 0, none⟩) n cap) l) (hj : j < l.length) (x y : Int) :
    OwnAt base e 2 encI ((w.setCell ⟨b, j * 2, none⟩ (.int .i64 x)).setCell ⟨b, j * 2 + 1, none⟩ (.int .i64 y)) (.slice (some ⟨b, 0, none⟩) n cap) (l.set j (x, y)) := by
  obtain ⟨h1, h2⟩ := h
  refine ⟨by rw [flat_length encI_len, List.length_set], ?_⟩
  rcases h2 with ⟨h, _⟩ | ⟨g, cap', cur, hv, hb, hh, hc, hm, hs, ht⟩
  · cases h
  · cases hv
    refine .inr ⟨b, cap, (cur.setIfInBounds (j * 2) (.int .i64 x)).setIfInBounds (j * 2 + 1) (.int .i64 y), by rw [List.length_set], hb, set_self (set_self hh), by rw [List.length_set]; exact hc, hm, by rw [Array.size_setIfInBounds, Array.size_setIfInBounds]; exact hs, ?_⟩
    rw [List.length_set, Array.toList_setIfInBounds, Array.toList_setIfInBounds, List.take_set, List.take_set, ht]
    clear hh hs ht h1 hc hm
    induction l generalizing j with
    | nil => cases hj
    | cons a l ih =>
      cases j with
      | zero => simp [encI]
      | succ j =>
        rw [List.set_cons_succ, List.flatMap_cons, List.flatMap_cons, ← ih (by simpa using hj)]
        simp only [encI, List.cons_append, List.nil_append]
        rw [show (j + 1) * 2 = j * 2 + 1 + 1 by omega, show j * 2 + 1 + 1 + 1 = (j * 2 + 1) + 1 + 1 by omega]
        rfl
/-- a value of the stack is written in place -/
theorem RunAt.setS {w wr : World} {b4 b5 b7 : Nat} {p q : Int} {vo : Value} {s : Vm.St} {b n cap j : Nat} (h : RunAt w b4 b5 b7 p q wr vo (.slice (some ⟨b, 0, none⟩) n cap) s) (hj : j < s.stack.length) (x y : Int) :
    RunAt w b4 b5 b7 p q ((wr.setCell ⟨b, j * 2, none⟩ (.int .i64 x)).setCell ⟨b, j * 2 + 1, none⟩ (.int .i64 y)) vo (.slice (some ⟨b, 0, none⟩) n cap) { s with stack := s.stack.set j (x, y) } := by
  obtain ⟨hbb, c, hc⟩ := h.k.block rfl
  have e4 : b ≠ b4 := fun e => h.k4 (by rw [e]; rfl)
  have e5 : b ≠ b5 := by rintro rfl; exact h.k.other h.c5 (by decide) rfl
  have e7 : b ≠ b7 := by rintro rfl; exact h.k.other h.c7 (by decide) rfl
  refine ⟨(h.g.set hbb _).set hbb _, h.h4, h.h5, h.h7, h.n57, ?_, ?_, ?_, h.o.same fun q' hq => ?_, OwnAt.setI h.k hj x y, h.d, h.o4, h.k4⟩
  · rw [set_other e4, set_other e4]; exact h.c4
  · rw [set_other e5, set_other e5]; exact h.c5
  · rw [set_other e7, set_other e7]; exact h.c7
  · have : b ≠ q' := fun e => h.d q' hq (by rw [← e]; rfl)
    rw [set_other this, set_other this]
theorem enc_new {α : Type} {enc : α → List Value} (w : World) (x : α) (c : List Value) (t : TypeId) (b : Nat) (hb : b = w.heap.size) (hc : enc x = c) : ∀ j u, ([x].flatMap enc)[j]? = some u → (w.alloc (.cells c.toArray t)).cell? ⟨b, j, none⟩ = some u := by
  intro j u hj
  rw [cell_of (heap_new_at w _ b hb)]
  rw [List.flatMap_cons, List.flatMap_nil, List.append_nil, hc] at hj
  simpa using hj
theorem own_sliceL {α : Type} {base : Nat} {e : TypeId} {k : Nat} {enc : α → List Value} {w : World} {v : Value} {l : List α} (h : OwnAt base e k enc w v l) : ∃ a c, v = .slice a l.length c := by
  rcases h.form with ⟨h1, h2⟩ | ⟨b, c, h1, _⟩
  · exact ⟨none, 0, by rw [h1, h2]; rfl⟩
  · exact ⟨_, c, h1⟩
theorem own_slice1 {α : Type} {base : Nat} {e : TypeId} {k : Nat} {enc : α → List Value} {w : World} {v : Value} {l : List α} {x : α} (h : OwnAt base e k enc w v (l ++ [x])) : ∃ a c, v = .slice a (l.length + 1) c := by
  obtain ⟨a, c, h⟩ := own_sliceL h
  exact ⟨a, c, by rw [h, List.length_append]; rfl⟩
end Go.Proofs.YtmdmbimfdpngaaaGreatDoor

/-! forebayref06.Run: what holds before each fetch. -/
namespace Go.Proofs.YtmdmbimfdpngaaaGreatDoor
set_option linter.unusedSimpArgs false
set_option linter.unusedVariables false
open Go.RowKit Ga
set_option maxRecDepth 100000

def firstLoop : Code → Option Code
  | .loop c => some c
  | .seq a b => match firstLoop a with
    | some c => some c
    | none => firstLoop b
  | .block _ c => firstLoop c
  | .scope c => firstLoop c
  | .cond _ a b => match firstLoop a with
    | some c => some c
    | none => firstLoop b
  | _ => none
def frame11 (v : Value) (b4 b5 b7 : Nat) (u : Nat → Value) : Act := { tmps := #[v, u 1, u 2, u 3, .pointer (some ⟨b4, 0, none⟩), .pointer (some ⟨b5, 0, none⟩), u 6, .pointer (some ⟨b7, 0, none⟩), u 8, u 9, u 10, u 11, u 12, u 13, u 14, u 15, u 16, u 17, u 18, u 19, u 20, u 21, u 22, u 23, u 24, u 25, u 26, u 27, u 28, u 29, u 30, u 31, u 32, u 33, u 34, u 35, u 36, u 37, u 38, u 39, u 40, u 41, u 42, u 43, u 44, u 45, u 46, u 47, u 48, u 49, u 50, u 51, u 52, u 53, u 54, u 55, u 56, u 57, u 58, u 59, u 60, u 61, u 62, u 63, u 64, u 65, u 66, u 67, u 68, u 69, u 70, u 71, u 72, u 73, u 74, u 75, u 76, u 77, u 78, u 79, u 80, u 81, u 82, u 83, u 84, u 85, u 86, u 87, u 88, u 89, u 90, u 91, u 92, u 93, u 94, u 95, u 96, u 97, u 98, u 99, u 100, u 101, u 102, u 103, u 104, u 105, u 106, u 107, u 108, u 109, u 110, u 111, u 112, u 113, u 114, u 115, u 116, u 117, u 118, u 119, u 120, u 121, u 122, u 123, u 124, u 125, u 126, u 127, u 128, u 129, u 130, u 131, u 132, u 133, u 134, u 135, u 136, u 137, u 138, u 139, u 140, u 141, u 142, u 143, u 144, u 145, u 146, u 147, u 148, u 149, u 150, u 151, u 152, u 153, u 154, u 155, u 156, u 157, u 158, u 159, u 160, u 161, u 162, u 163, u 164, u 165, u 166, u 167, u 168, u 169, u 170, u 171, u 172, u 173, u 174, u 175, u 176, u 177, u 178, u 179, u 180, u 181, u 182, u 183, u 184, u 185, u 186, u 187, u 188, u 189, u 190, u 191, u 192, u 193, u 194, u 195, u 196, u 197, u 198, u 199, u 200, u 201, u 202, u 203, u 204, u 205, u 206, u 207, u 208, u 209, u 210, u 211, u 212, u 213, u 214, u 215, u 216, u 217, u 218, u 219, u 220, u 221, u 222, u 223, u 224, u 225, u 226, u 227, u 228, u 229, u 230, u 231, u 232, u 233, u 234, u 235, u 236, u 237, u 238, u 239, u 240, u 241, u 242, u 243, u 244, u 245, u 246, u 247, u 248, u 249, u 250, u 251, u 252, u 253, u 254, u 255, u 256, u 257, u 258, u 259, u 260, u 261, u 262, u 263, u 264, u 265, u 266, u 267, u 268, u 269, u 270, u 271, u 272, u 273, u 274, u 275, u 276, u 277, u 278, u 279, u 280, u 281, u 282, u 283, u 284, u 285], defers := [] }
theorem RunAt.to {w wr : World} {b4 b5 b7 : Nat} {p q : Int} {vo vs : Value} {s s' : Vm.St} (h : RunAt w b4 b5 b7 p q wr vo vs s) (h1 : s'.out = s.out) (h2 : s'.c0 = s.c0) (h3 : s'.c1 = s.c1) (h4 : s'.stack = s.stack) : RunAt w b4 b5 b7 p q wr vo vs s' := by
  obtain ⟨a1, a2, a3, a4, a5, a6, a7, a8, a9, a10, a11, a12, a13⟩ := h
  exact ⟨a1, a2, a3, a4, a5, a6, by rw [h2, h3]; exact a7, a8, by rw [h1]; exact a9, by rw [h4]; exact a10, a11, a12, a13⟩
/-- before each fetch -/
def Inv11 (l : List Val) (c : Vm.Cst) (s0 : Vm.St) (w : World) (b4 b5 b7 : Nat) (p q : Int) (n : Nat) (vo vs st pc : Value) (w' : World) : Prop :=
  ∃ s : Vm.St, st = .int .i64 s.steps ∧ pc = .int .i64 s.pc ∧ RunAt w b4 b5 b7 p q w' vo vs s ∧ Vm.At l c (p, q) s0 s ∧ Vm.AllRight s ∧ n = 60 - s.pc
def Next11 (l : List Val) (c : Vm.Cst) (s0 : Vm.St) (w : World) (v : Value) (b4 b5 b7 : Nat) (p q : Int) (n : Nat) (a' : Act) (w' : World) : Prop :=
  ∃ u, a' = frame11 v b4 b5 b7 u ∧ Inv11 l c s0 w b4 b5 b7 p q n (u 9) (u 10) (u 11) (u 12) w'
theorem Next11.step {l : List Val} {c : Vm.Cst} {s0 s : Vm.St} {w w' : World} {v : Value} {b4 b5 b7 : Nat} {p q x y : Int} {a' : Act} (hc : Vm.checkC l = some c) (hA : Vm.At l c (p, q) s0 s) (hS : Vm.AllRight s) (hin : rightV (p, q) = true)
    (hi : l[s.pc]? = some (x, y)) (hx : x ≠ 0) (h : a' = frame11 v b4 b5 b7 (fun i => a'.tmps.getD i undef)) (hst : a'.tmps.getD 11 undef = .int .i64 (s.steps + 1)) (hpc : a'.tmps.getD 12 undef = .int .i64 (Vm.effect (p, q) (x, y) (Vm.fetch s)).pc)
    (hR : RunAt w b4 b5 b7 p q w' (a'.tmps.getD 9 undef) (a'.tmps.getD 10 undef) (Vm.effect (p, q) (x, y) (Vm.fetch s))) : ∃ n, n < 60 - s.pc ∧ Next11 l c s0 w v b4 b5 b7 p q n a' w' := by
  obtain ⟨_, h1, h2⟩ := hA.next hc hi hx
  have h3 := h1.pc
  refine ⟨60 - (Vm.effect (p, q) (x, y) (Vm.fetch s)).pc, by omega, _, h, _, hst.trans ?_, hpc, hR, h1, hS.fetch.effect hin (Vm.fits_arg (Vm.checkC_fits hc) _ (List.mem_of_getElem? hi)), rfl⟩
  rw [(Vm.effect_bounds (p, q) (x, y) (Vm.fetch s)).1]
  rfl
/-- where it ends -/
def End11 (l : List Val) (s0 : Vm.St) (w : World) (v : Value) (b4 b5 b7 : Nat) (p q : Int) (a' : Act) (w' : World) : Prop :=
  ∃ (u : Nat → Value) (s : Vm.St), a' = frame11 v b4 b5 b7 u ∧ u 11 = .int .i64 s.steps ∧ (∃ vs, RunAt w b4 b5 b7 p q w' (u 9) vs s) ∧ s.out = (Vm.done l (p, q) s0).out ∧ s.c0 = (Vm.done l (p, q) s0).c0 ∧ s.c1 = (Vm.done l (p, q) s0).c1 ∧ s.steps = (Vm.done l (p, q) s0).steps
theorem End11.mk {l : List Val} {s0 : Vm.St} {w w' : World} {v : Value} {b4 b5 b7 : Nat} {p q : Int} {a' : Act} (s : Vm.St) (vs : Value) (h : a' = frame11 v b4 b5 b7 (fun i => a'.tmps.getD i undef)) (hst : a'.tmps.getD 11 undef = .int .i64 s.steps) (hR : RunAt w b4 b5 b7 p q w' (a'.tmps.getD 9 undef) vs s)
    (hd : s.out = (Vm.done l (p, q) s0).out ∧ s.c0 = (Vm.done l (p, q) s0).c0 ∧ s.c1 = (Vm.done l (p, q) s0).c1 ∧ s.steps = (Vm.done l (p, q) s0).steps) : End11 l s0 w v b4 b5 b7 p q a' w' :=
  ⟨_, s, h, hst, ⟨vs, hR⟩, hd⟩
end Go.Proofs.YtmdmbimfdpngaaaGreatDoor
