import Derived.Test.YtmdmbimfdpngaaaGreatDoorMc34
import Derived.Test.YtmdmbimfdpngaaaGreatDoorMc6
import Derived.Test.YtmdmbimfdpngaaaGreatDoorMc36
import Derived.Test.YtmdmbimfdpngaaaGreatDoorMc8
import Derived.Deep.RegionLaw
/-! vm: the machine: push and pop. -/
namespace Go.Proofs.YtmdmbimfdpngaaaGreatDoor
set_option linter.unusedSimpArgs false
set_option linter.unusedVariables false
open Go.RowKit Ga
set_option maxRecDepth 100000

theorem infoVal : (Tryz.prog.info? 47).map (fun i => (i.zero, i.size, i.bytes)) = some (some (.agg #[.int .i64 0, .int .i64 0]), 2, 16) := by kernel_rfl

/-- The machine at block B. -/
structure MachAt (base B : Nat) (vp : Value) (inp : Val) (W : World) (vo vs : Value) (s : Vm.St) : Prop where
  hB : base ≤ B
  cB : W.heap[B]? = some (.cells #[vo, .int .i64 s.c0.1, .int .i64 s.c0.2, .int .i64 s.c1.1, .int .i64 s.c1.2, .int .i64 s.steps, vp, .int .i64 inp.1, .int .i64 inp.2, .int .i64 s.pc, vs] 194)
  ho : OwnAt base 47 2 encI W vo s.out
  hs : OwnAt base 47 2 encI W vs s.stack
  ne : ∀ q, vo.ownBlock = some q → vs.ownBlock ≠ some q
/-- .. wherever its slices lie. -/
def Mach (base B : Nat) (vp : Value) (inp : Val) (W : World) (s : Vm.St) : Prop := ∃ vo vs, MachAt base B vp inp W vo vs s
section
variable {base B : Nat} {vp vo vs : Value} {inp : Val} {W W' : World} {s : Vm.St}
theorem MachAt.grew (h : MachAt base B vp inp W vo vs s) (g : Grew W W') : MachAt base B vp inp W' vo vs s :=
  { h with cB := grew_heap g h.cB, ho := h.ho.grew g, hs := h.hs.grew g }
theorem Mach.grew (h : Mach base B vp inp W s) (g : Grew W W') : Mach base B vp inp W' s := let ⟨vo, vs, h⟩ := h; ⟨vo, vs, h.grew g⟩
theorem MachAt.neO (h : MachAt base B vp inp W vo vs s) : ∀ q, vo.ownBlock = some q → B ≠ q := fun q hq e => h.ho.other h.cB (by decide) (e ▸ hq)
theorem MachAt.neS (h : MachAt base B vp inp W vo vs s) : ∀ q, vs.ownBlock = some q → B ≠ q := fun q hq e => h.hs.other h.cB (by decide) (e ▸ hq)
theorem MachAt.ltB (h : MachAt base B vp inp W vo vs s) : B < W.heap.size := heap_lt h.cB
theorem MachAt.ltS (h : MachAt base B vp inp W vo vs s) : ∀ q, vs.ownBlock = some q → q < W.heap.size := fun q hq => let ⟨_, _, hc⟩ := h.hs.block hq; heap_lt hc
end
/-- Blocks but B and the stack's are as they were. -/
def Rest (B : Nat) (vs : Value) (W W' : World) : Prop := W.heap.size ≤ W'.heap.size ∧ ∀ q, q < W.heap.size → q ≠ B → vs.ownBlock ≠ some q → W'.heap[q]? = W.heap[q]?
theorem Rest.more {B : Nat} {vs : Value} {W W' W'' : World} (h : Rest B vs W W') (g : Grew W' W'') : Rest B vs W W'' :=
  ⟨Nat.le_trans h.1 g.below.size, fun q h0 h1 h2 => (g.below.block q (Nat.lt_of_lt_of_le h0 h.1)).trans (h.2 q h0 h1 h2)⟩
theorem rest_set (B : Nat) (vs : Value) (W : World) (v : Value) : Rest B vs W (W.setCell ⟨B, 10, none⟩ v) := ⟨by rw [World.size_setCell]; exact Nat.le_refl _, fun q _ h1 _ => set_other (fun e => h1 e.symm)⟩
/-- What a push or a pop leaves. -/
structure Moved (w0 : World) (B : Nat) (vp : Value) (inp : Val) (W : World) (vo vs : Value) (s' : Vm.St) (W' : World) (vs' : Value) : Prop where
  grew : Grew w0 W'
  at_ : MachAt w0.heap.size B vp inp W' vo vs' s'
  rest : Rest B vs W W'
  own : ∀ q, vs'.ownBlock = some q → vs.ownBlock = some q ∨ W.heap.size ≤ q
/-- Blocks of other types but B are as they were. -/
def Kept (B : Nat) (W W' : World) : Prop := ∀ q c t, W.heap[q]? = some (.cells c t) → t ≠ 47 → q ≠ B → W'.heap[q]? = some (.cells c t)
theorem Kept.refl (B : Nat) (W : World) : Kept B W W := fun _ _ _ h _ _ => h
theorem Kept.trans {B : Nat} {W W' W'' : World} (h : Kept B W W') (g : Kept B W' W'') : Kept B W W'' := fun q c t hq ht hB => g q c t (h q c t hq ht hB) ht hB
theorem Kept.grew {W W' : World} (B : Nat) (g : Grew W W') : Kept B W W' := fun q c t hq _ _ => grew_heap g hq
theorem Rest.kept {w0 W W' : World} {B : Nat} {vp : Value} {inp : Val} {vo vs : Value} {s : Vm.St} (h : Rest B vs W W') (hm : MachAt w0.heap.size B vp inp W vo vs s) : Kept B W W' := fun q c t hq ht hB =>
  (h.2 q (heap_lt hq) hB (hm.hs.other hq ht)).trans hq
theorem encI_new (W : World) (a : Val) (t : TypeId) (b : Nat) {c : Array Value} (hc : c = #[.int .i64 a.1, .int .i64 a.2]) (hb : b = W.heap.size) : ∀ j u, ([a].flatMap encI)[j]? = some u → (W.alloc (.cells c t)).cell? ⟨b, j, none⟩ = some u := by
  intro j u hj
  rw [List.flatMap_cons, List.flatMap_nil, List.append_nil] at hj
  exact encI_at W a t b hc hb j u hj

theorem own_one {base : Nat} {e : TypeId} {w : World} {v : Value} {l : List Val} {y : Val} (h : OwnAt base e 2 encI w v (l ++ [y])) : ∃ b cap, v = .slice (some ⟨b, 0, none⟩) (l.length + 1) cap := by
  obtain ⟨b, cap, hv⟩ := own_some' h (by simp)
  rw [List.length_append] at hv
  exact ⟨b, cap, hv⟩
/-- The stack behind a push: what the appended slice gives. -/
theorem MachAt.pushed {w0 W W1 W9 : World} {B : Nat} {vp vo vs v9 : Value} {inp : Val} {s : Vm.St} {v : Val} (h : MachAt w0.heap.size B vp inp W vo vs s) (g : Grew W W1) (hA : Appended w0 47 2 encI W1 vs (s.stack ++ [v]) v9 W9) :
    W9.heap[B]? = some (.cells #[vo, .int .i64 s.c0.1, .int .i64 s.c0.2, .int .i64 s.c1.1, .int .i64 s.c1.2, .int .i64 s.steps, vp, .int .i64 inp.1, .int .i64 inp.2, .int .i64 s.pc, vs] 194) ∧ Moved w0 B vp inp W vo vs (Vm.push1 s v) (W9.setCell ⟨B, 10, none⟩ v9) v9 := by
  obtain ⟨h1, h2, h3, h4, h5⟩ := hA
  have hB1 := grew_heap g h.cB
  have hB9 : W9.heap[B]? = some (.cells #[vo, .int .i64 s.c0.1, .int .i64 s.c0.2, .int .i64 s.c1.1, .int .i64 s.c1.2, .int .i64 s.steps, vp, .int .i64 inp.1, .int .i64 inp.2, .int .i64 s.pc, vs] 194) :=
    (h4 B (heap_lt hB1) (fun e => h.neS B e rfl)).trans hB1
  have hsz := g.below.size
  refine ⟨hB9, h1.set h.hB _, ⟨h.hB, by rw [set_self hB9]; rfl, ?_, ?_, fun q hq e => ?_⟩, ⟨by rw [World.size_setCell]; omega, fun q q0 q1 q2 => ?_⟩, fun q hq => ?_⟩
  · refine (h.ho.grew g).same fun q hq => ?_
    rw [set_other (h.neO q hq)]
    obtain ⟨_, c, hc⟩ := (h.ho.grew g).block hq
    exact h4 q (heap_lt hc) (h.ne q hq)
  · refine h2.same fun q hq => ?_
    rw [set_other]
    rintro rfl
    exact h2.other hB9 (by decide) hq
  · rcases h5 q e with h6 | h6
    · exact h.ne q hq h6
    · obtain ⟨_, c, hc⟩ := (h.ho.grew g).block hq
      have := heap_lt hc
      omega
  · rw [set_other (fun e => q1 e.symm), h4 q (by omega) q2]
    exact g.below.block q q0
  · rcases h5 q hq with h6 | h6
    · exact .inl h6
    · exact .inr (by omega)

set_option maxHeartbeats 4000000 in
theorem push_any (w0 W : World) (B : Nat) (vp : Value) (inp : Val) (s : Vm.St) (x y : Int) (vo vs : Value) (h : MachAt w0.heap.size B vp inp W vo vs s) (hg : Grew w0 W) (hl : s.stack.length ≤ 1000) :
    Calls Tryz.prog 168 #[.pointer (some ⟨B, 0, none⟩), .agg #[.int .i64 x, .int .i64 y]] W fun e W' => e = .returned (.tuple #[]) ∧ ∃ vs', Moved w0 B vp inp W vo vs (Vm.push1 s (x, y)) W' vs' := by
  have hc := cell_of (o := 10) h.cB
  have hp := Pre.mk (heap_lt h.cB)
  simp at hc
  have HM := Lib.hid h
  have HG := Lib.hid hg
  clear h hg
  go_enter Tryz.func168, Tryz.ntmps168
  go_wp2
  go_region_law (refine step_ownK (w0 := w0) rfl (.tmp 8) (.tmp 10) 108 _ _ _ _ [(x, y)] rfl Tryz.underlying108 infoVal rfl (by decide) encI_len encI_one rfl (HM.out.hs.grew (by repeat (first | with_reducible exact Grew.refl _ | apply Grew.more | apply Grew.alloc | apply Grew.drew | apply Grew.drewN))) (HG.out.trans (by repeat (first | with_reducible exact Grew.refl _ | apply Grew.more | apply Grew.alloc | apply Grew.drew | apply Grew.drewN))) rfl (encI_new _ _ _ _ rfl (by simp [go_sem])) (by simp; omega) (by decide) Nat.one_pos ?_; intro v9 W9 hA9; obtain ⟨hB9, hm9⟩ := HM.out.pushed (by repeat (first | with_reducible exact Grew.refl _ | apply Grew.more | apply Grew.alloc | apply Grew.drew | apply Grew.drewN)) hA9; obtain ⟨b9, c9, rfl⟩ := own_one hA9.2.1; (have hc9 := cell_of (o := 10) hB9); (have hf9 := frozen_of (o := 10) hB9); simp at hc9; (have HM9 := Lib.hid hm9); clear hA9 hm9 hB9)
  all_goals
    go_wp2
    go_end0
    exact ⟨rfl, _, HM9.out⟩

/-- .. behind a pop -/
theorem MachAt.popped {base B : Nat} {vp vo : Value} {inp : Val} {W : World} {b n cap : Nat} {s : Vm.St} (h : MachAt base B vp inp W vo (.slice (some ⟨b, 0, none⟩) n cap) s) (m : Nat) (hm : m = s.stack.length - 1) : MachAt base B vp inp (W.setCell ⟨B, 10, none⟩ (.slice (some ⟨b, 0, none⟩) m cap)) vo (.slice (some ⟨b, 0, none⟩) m cap) (Vm.pop1 s) := by
  subst hm
  have hcut := h.hs.cut encI_len (m := s.stack.length - 1) (Nat.sub_le _ _)
  refine ⟨h.hB, by rw [set_self h.cB]; rfl, ?_, ?_, h.ne⟩
  · exact h.ho.same fun q hq => set_other (h.neO q hq)
  · have : (Vm.pop1 s).stack = s.stack.take (s.stack.length - 1) := by show s.stack.dropLast = _; rw [List.dropLast_eq_take]
    rw [this]
    exact hcut.same fun q hq => set_other (h.neS q hq)

set_option maxHeartbeats 4000000 in
theorem pop_any (w0 W : World) (B : Nat) (vp : Value) (inp : Val) (s : Vm.St) (vo vs : Value) (h : MachAt w0.heap.size B vp inp W vo vs s) (hg : Grew w0 W) (h0 : 0 < s.stack.length) (hl : s.stack.length ≤ 1000) :
    Calls Tryz.prog 169 #[.pointer (some ⟨B, 0, none⟩)] W fun e W' => e = .returned (.agg #[.int .i64 (Vm.top1 s).1, .int .i64 (Vm.top1 s).2]) ∧ ∃ vs', Moved w0 B vp inp W vo vs (Vm.pop1 s) W' vs' := by
  obtain ⟨b, cap, rfl⟩ := own_some' h.hs h0
  have hc := cell_of (o := 10) h.cB
  have hf := frozen_of (o := 10) h.cB
  have hp := Pre.mk (heap_lt h.cB)
  simp at hc
  have hcap : s.stack.length ≤ cap ∧ cap ≤ maxLen := by
    rcases h.hs.form with ⟨h, _⟩ | ⟨_, _, h, _, h1, h2⟩
    · cases h
    · cases h; exact ⟨h1, h2⟩
  obtain ⟨hcap1, hcap2⟩ := hcap
  unfold maxLen at hcap2
  have hr : ValsAt W (.slice (some ⟨b, 0, none⟩) s.stack.length cap) s.stack := h.hs.rows encI_len
  obtain ⟨a', cap', e', _, hx⟩ := hr.open2
  cases e'
  obtain ⟨b', off, e', hb, hx0, hx1⟩ := hx (s.stack.length - 1) (by omega)
  cases e'
  have ht : s.stack[s.stack.length - 1] = Vm.top1 s := by
    unfold Vm.top1
    rw [List.getLastD_eq_getLast?, List.getLast?_eq_getElem?, List.getElem?_eq_getElem (by omega)]; rfl
  rw [ht] at hx0 hx1
  have HM := Lib.hid h
  have HG := Lib.hid hg
  generalize htt : Vm.top1 s = t at *
  obtain ⟨x, y⟩ := t
  simp only at hx0 hx1 ⊢
  rw [Nat.zero_add] at hx0 hx1
  have hk1 : ((s.stack.length : Int) - 1).toNat = s.stack.length - 1 := by omega
  clear h hg hr hx ht htt
  go_enter Tryz.func169, Tryz.ntmps169
  go_wp2
  refine bodyPost_ret (v := .agg #[.int .i64 x, .int .i64 y]) (by simp [results, Tryz.results169, go_sem]) rfl ⟨rfl, _, (HG.out.set HM.out.hB _).trans (by repeat (first | with_reducible exact Grew.refl _ | apply Grew.more | apply Grew.alloc | apply Grew.drew | apply Grew.drewN)), (HM.out.popped _ rfl).grew (by repeat (first | with_reducible exact Grew.refl _ | apply Grew.more | apply Grew.alloc | apply Grew.drew | apply Grew.drewN)), (rest_set B (.slice (some ⟨b, 0, none⟩) s.stack.length cap) W (.slice (some ⟨b, 0, none⟩) (s.stack.length - 1) cap)).more (by repeat (first | with_reducible exact Grew.refl _ | apply Grew.more | apply Grew.alloc | apply Grew.drew | apply Grew.drewN)), fun q hq => .inl hq⟩
end Go.Proofs.YtmdmbimfdpngaaaGreatDoor
