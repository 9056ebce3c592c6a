import Derived.Test.YtmdmbimfdpngaaaGreatDoorMp24
import Derived.Test.YtmdmbimfdpngaaaGreatDoorMp21
import Derived.Test.YtmdmbimfdpngaaaGreatDoorScope3
import Derived.Deep.DeepCutAuto
import Derived.Deep.CutBlock
import Derived.Deep.RegionWith
/-! vm: run. -/
namespace Go.Proofs.YtmdmbimfdpngaaaGreatDoor
set_option linter.unusedSimpArgs false
set_option linter.unusedVariables false
open Go.RowKit Ga
set_option maxRecDepth 100000

def frameOf (B b2 : Nat) (u : Nat → Value) : Act := { tmps := #[.pointer (some ⟨B, 0, none⟩), u 1, .pointer (some ⟨b2, 0, none⟩), u 3, u 4, u 5, u 6, u 7, u 8, u 9, u 10, u 11, u 12, u 13, u 14, u 15, u 16, u 17, u 18, u 19, u 20, u 21, u 22, u 23, u 24, u 25, u 26, u 27, u 28, u 29, u 30, u 31, u 32, u 33, u 34, u 35, u 36, u 37, u 38, u 39, u 40, u 41, u 42, u 43, u 44, u 45, u 46, u 47, u 48, u 49, u 50, u 51, u 52, u 53, u 54, u 55, u 56, u 57, u 58, u 59, u 60, u 61, u 62, u 63, u 64, u 65, u 66, u 67, u 68, u 69, u 70, u 71, u 72, u 73, u 74, u 75, u 76, u 77, u 78, u 79, u 80, u 81, u 82, u 83, u 84, u 85, u 86, u 87, u 88, u 89, u 90, u 91, u 92, u 93, u 94, u 95, u 96, u 97, u 98, u 99, u 100, u 101, u 102, u 103, u 104, u 105, u 106, u 107, u 108, u 109, u 110, u 111, u 112, u 113, u 114, u 115, u 116], defers := [] }
def FrameIs (B b2 : Nat) (a' : Act) : Prop := ∃ u : Nat → Value, a' = frameOf B b2 u
theorem FrameIs.mk {B b2 : Nat} {a' : Act} (h : a' = frameOf B b2 (fun i => a'.tmps.getD i undef)) : FrameIs B b2 a' := ⟨_, h⟩
/-- What lies in memory between two operations. -/
structure Mem (w0 : World) (B b2 : Nat) (vp : Value) (inp : Val) (W : World) (st : Vm.St) (w' : World) : Prop where
  m : Mach w0.heap.size B vp inp w' st
  g : Grew w0 w'
  k : Kept B W w'
  i : ∃ o a : Int, w'.heap[b2]? = some (.cells #[.int .i64 o, .int .i64 a] 124)
  ne : b2 ≠ B
  b : W.heap.size ≤ b2
theorem Mem.grew {w0 : World} {B b2 : Nat} {vp : Value} {inp : Val} {W : World} {st : Vm.St} {w' w'' : World} (h : Mem w0 B b2 vp inp W st w') (g : Grew w' w'') : Mem w0 B b2 vp inp W st w'' :=
  ⟨h.m.grew g, h.g.trans g, h.k.trans (Kept.grew B g), let ⟨o, a, hi⟩ := h.i; ⟨o, a, grew_heap g hi⟩, h.ne, h.b⟩
theorem Mem.put {w0 : World} {B b2 : Nat} {vp : Value} {inp : Val} {W : World} {st st' : Vm.St} {w' : World} (h : Mem w0 B b2 vp inp W st w') (o : Nat) (v : Value) (hB : w0.heap.size ≤ B) (hm : Mach w0.heap.size B vp inp (w'.setCell ⟨B, o, none⟩ v) st') : Mem w0 B b2 vp inp W st' (w'.setCell ⟨B, o, none⟩ v) :=
  ⟨hm, h.g.set hB _, h.k.trans fun q c t hq _ hqB => by rw [set_other (fun e => hqB e.symm)]; exact hq, let ⟨x, y, hi⟩ := h.i; ⟨x, y, by rw [set_other (fun e => h.ne e.symm)]; exact hi⟩, h.ne, h.b⟩
section
variable {base B : Nat} {vp vo vs : Value} {inp : Val} {W : World} {s : Vm.St}
theorem MachAt.setPc (h : MachAt base B vp inp W vo vs s) (k : Nat) (p : Int) (hp : p = k) : MachAt base B vp inp (W.setCell ⟨B, 9, none⟩ (.int .i64 p)) vo vs { s with pc := k } := by
  subst hp
  exact ⟨h.hB, by rw [set_self h.cB]; rfl, h.ho.same fun q hq => set_other (h.neO q hq), h.hs.same fun q hq => set_other (h.neS q hq), h.ne⟩
theorem MachAt.setSteps (h : MachAt base B vp inp W vo vs s) (p : Int) : MachAt base B vp inp (W.setCell ⟨B, 5, none⟩ (.int .i64 p)) vo vs { s with steps := p } :=
  ⟨h.hB, by rw [set_self h.cB]; rfl, h.ho.same fun q hq => set_other (h.neO q hq), h.hs.same fun q hq => set_other (h.neS q hq), h.ne⟩
theorem MachAt.set0 (h : MachAt base B vp inp W vo vs s) (v : Val) : MachAt base B vp inp ((W.setCell ⟨B, 1, none⟩ (.int .i64 v.1)).setCell ⟨B, 2, none⟩ (.int .i64 v.2)) vo vs { s with c0 := v } :=
  ⟨h.hB, by rw [set_self (set_self h.cB)]; rfl, h.ho.same fun q hq => by rw [set_other (h.neO q hq), set_other (h.neO q hq)], h.hs.same fun q hq => by rw [set_other (h.neS q hq), set_other (h.neS q hq)], h.ne⟩
theorem MachAt.set1 (h : MachAt base B vp inp W vo vs s) (v : Val) : MachAt base B vp inp ((W.setCell ⟨B, 3, none⟩ (.int .i64 v.1)).setCell ⟨B, 4, none⟩ (.int .i64 v.2)) vo vs { s with c1 := v } :=
  ⟨h.hB, by rw [set_self (set_self h.cB)]; rfl, h.ho.same fun q hq => by rw [set_other (h.neO q hq), set_other (h.neO q hq)], h.hs.same fun q hq => by rw [set_other (h.neS q hq), set_other (h.neS q hq)], h.ne⟩
end
def JR (w0 : World) (B : Nat) (vp : Value) (inp : Val) (l : List Val) (c : Vm.Cst) (W : World) (s0 : Vm.St) (lab n : Nat) (a' : Act) (w' : World) : Prop :=
  ∃ b2, FrameIs B b2 a' ∧ (
    (lab = 1 ∧ ∃ st, Mem w0 B b2 vp inp W st w' ∧ Vm.At l c inp s0 st ∧ n = 2 * (l.length - st.pc) + 1) ∨
    (lab = 2 ∧ ∃ st o a, Mem w0 B b2 vp inp W st w' ∧ w'.heap[b2]? = some (.cells #[.int .i64 o, .int .i64 a] 124) ∧ 1 ≤ a ∧ a ≤ 24 ∧ st.pc ≤ 24 ∧ Vm.At l c inp s0 (Vm.jump1 st a) ∧ n = 2 * (l.length - st.pc) + 2) ∨
    (lab = 0 ∧ Mem w0 B b2 vp inp W (Vm.done l inp s0) w'))

section
variable {w0 W w' w'' : World} {B b2 : Nat} {vp : Value} {inp : Val} {l : List Val} {c : Vm.Cst} {s0 st st' : Vm.St} {n : Nat} {a'' : Act} {e : Ending}
theorem Mem.did (h : Mem w0 B b2 vp inp W st w') (d : Did w0 B vp inp w' st' e w'') : Mem w0 B b2 vp inp W st' w'' :=
  ⟨d.2.2.1, d.2.1, h.k.trans d.2.2.2, let ⟨x, y, hi⟩ := h.i; ⟨x, y, d.2.2.2 _ _ _ hi (by decide) h.ne⟩, h.ne, h.b⟩
theorem JR.step1 (hn : n = 2 * (l.length - st.pc) + 1) (hlt : st.pc < l.length) (hgt : st.pc < st'.pc) (hm : Mem w0 B b2 vp inp W st' w'') (ha : Vm.At l c inp s0 st') (hf : FrameIs B b2 a'') : ∃ n', n' < n ∧ JR w0 B vp inp l c W s0 1 n' a'' w'' :=
  ⟨2 * (l.length - st'.pc) + 1, by omega, b2, hf, .inl ⟨rfl, st', hm, ha, rfl⟩⟩
theorem JR.step2 {o a : Int} (hn : n = 2 * (l.length - st.pc) + 1) (hlt : st.pc < l.length) (hp : st'.pc = st.pc + 1) (h24 : l.length ≤ 24) (h1 : 1 ≤ a) (h2 : a ≤ 24) (hi : w''.heap[b2]? = some (.cells #[.int .i64 o, .int .i64 a] 124)) (hm : Mem w0 B b2 vp inp W st' w'') (ha : Vm.At l c inp s0 (Vm.jump1 st' a)) (hf : FrameIs B b2 a'') : ∃ n', n' < n ∧ JR w0 B vp inp l c W s0 2 n' a'' w'' :=
  ⟨2 * (l.length - st'.pc) + 2, by omega, b2, hf, .inr (.inl ⟨rfl, st', o, a, hm, hi, h1, h2, by omega, ha, rfl⟩)⟩
end
theorem Mem.fetch {w0 W w' : World} {B b2 : Nat} {vp : Value} {inp : Val} {st : Vm.St} (h : Mem w0 B b2 vp inp W st w') (hg : Grew w0 W) (x a : Int) :
    Mem w0 B b2 vp inp W (Vm.fetch st) ((((w'.setCell ⟨b2, 0, none⟩ (.int .i64 x)).setCell ⟨b2, 1, none⟩ (.int .i64 a)).setCell ⟨B, 9, none⟩ (.int .i64 (st.pc + 1))).setCell ⟨B, 5, none⟩ (.int .i64 (st.steps + 1))) ∧
    ((((w'.setCell ⟨b2, 0, none⟩ (.int .i64 x)).setCell ⟨b2, 1, none⟩ (.int .i64 a)).setCell ⟨B, 9, none⟩ (.int .i64 (st.pc + 1))).setCell ⟨B, 5, none⟩ (.int .i64 (st.steps + 1))).heap[b2]? = some (.cells #[.int .i64 x, .int .i64 a] 124) := by
  obtain ⟨⟨vo, vs, hm⟩, g, k, ⟨o, a', hi⟩, hne, hb⟩ := h
  have hne' : B ≠ b2 := fun e => hne e.symm
  have hg' := hg.below.size
  have hb' : w0.heap.size ≤ b2 := Nat.le_trans hg' hb
  have h2 : ((w'.setCell ⟨b2, 0, none⟩ (.int .i64 x)).setCell ⟨b2, 1, none⟩ (.int .i64 a)).heap[b2]? = some (.cells #[.int .i64 x, .int .i64 a] 124) := by
    rw [set_self (set_self hi)]; rfl
  have hm2 : MachAt w0.heap.size B vp inp ((w'.setCell ⟨b2, 0, none⟩ (.int .i64 x)).setCell ⟨b2, 1, none⟩ (.int .i64 a)) vo vs st :=
    ⟨hm.hB, by rw [set_other hne, set_other hne]; exact hm.cB, hm.ho.same fun q hq => by
      have : b2 ≠ q := fun e => hm.ho.other hi (by decide) (e ▸ hq)
      rw [set_other this, set_other this], hm.hs.same fun q hq => by
      have : b2 ≠ q := fun e => hm.hs.other hi (by decide) (e ▸ hq)
      rw [set_other this, set_other this], hm.ne⟩
  have hm3 := (hm2.setPc (st.pc + 1) (st.pc + 1) (by omega)).setSteps (st.steps + 1)
  have h3 : ((((w'.setCell ⟨b2, 0, none⟩ (.int .i64 x)).setCell ⟨b2, 1, none⟩ (.int .i64 a)).setCell ⟨B, 9, none⟩ (.int .i64 (st.pc + 1))).setCell ⟨B, 5, none⟩ (.int .i64 (st.steps + 1))).heap[b2]? = some (.cells #[.int .i64 x, .int .i64 a] 124) := by
    rw [set_other hne', set_other hne']; exact h2
  refine ⟨⟨⟨vo, vs, hm3⟩, (((g.set hb' _).set hb' _).set hm.hB _).set hm.hB _, fun q c t hq ht hqB => ?_, ⟨x, a, h3⟩, hne, hb⟩, h3⟩
  have hq2 : b2 ≠ q := by have := heap_lt hq; omega
  have hq3 : B ≠ q := fun e => hqB e.symm
  rw [set_other hq3, set_other hq3, set_other hq2, set_other hq2]
  exact k q c t hq ht hqB
theorem Mem.set0 {w0 W w' : World} {B b2 : Nat} {vp : Value} {inp : Val} {st : Vm.St} (h : Mem w0 B b2 vp inp W st w') (v : Val) : Mem w0 B b2 vp inp W { st with c0 := v } ((w'.setCell ⟨B, 1, none⟩ (.int .i64 v.1)).setCell ⟨B, 2, none⟩ (.int .i64 v.2)) := by
  obtain ⟨⟨vo, vs, hm⟩, g, k, ⟨o, a', hi⟩, hne, hb⟩ := h
  have hne' : B ≠ b2 := fun e => hne e.symm
  refine ⟨⟨vo, vs, hm.set0 v⟩, (g.set hm.hB _).set hm.hB _, fun q c t hq ht hqB => ?_, ⟨o, a', by rw [set_other hne', set_other hne']; exact hi⟩, hne, hb⟩
  rw [set_other (fun e => hqB e.symm), set_other (fun e => hqB e.symm)]
  exact k q c t hq ht hqB
theorem Mem.set1 {w0 W w' : World} {B b2 : Nat} {vp : Value} {inp : Val} {st : Vm.St} (h : Mem w0 B b2 vp inp W st w') (v : Val) : Mem w0 B b2 vp inp W { st with c1 := v } ((w'.setCell ⟨B, 3, none⟩ (.int .i64 v.1)).setCell ⟨B, 4, none⟩ (.int .i64 v.2)) := by
  obtain ⟨⟨vo, vs, hm⟩, g, k, ⟨o, a', hi⟩, hne, hb⟩ := h
  have hne' : B ≠ b2 := fun e => hne e.symm
  refine ⟨⟨vo, vs, hm.set1 v⟩, (g.set hm.hB _).set hm.hB _, fun q c t hq ht hqB => ?_, ⟨o, a', by rw [set_other hne', set_other hne']; exact hi⟩, hne, hb⟩
  rw [set_other (fun e => hqB e.symm), set_other (fun e => hqB e.symm)]
  exact k q c t hq ht hqB
theorem push_did (w0 W : World) (B : Nat) (vp : Value) (inp : Val) (s : Vm.St) (x y : Int) (h : Mach w0.heap.size B vp inp W s) (hg : Grew w0 W) (hl : s.stack.length ≤ 1000) :
    Calls Tryz.prog 168 #[.pointer (some ⟨B, 0, none⟩), .agg #[.int .i64 x, .int .i64 y]] W (Did w0 B vp inp W (Vm.push1 s (x, y))) := by
  obtain ⟨vo, vs, h⟩ := h
  refine (push_any w0 W B vp inp s x y vo vs h hg hl).mono ?_
  rintro e W' ⟨rfl, vs', hm⟩
  exact ⟨rfl, hm.grew, ⟨_, _, hm.at_⟩, hm.kept h⟩
def DidV (w0 : World) (B : Nat) (vp : Value) (inp : Val) (W : World) (v : Val) (s' : Vm.St) (e : Ending) (W' : World) : Prop :=
  e = .returned (.agg #[.int .i64 v.1, .int .i64 v.2]) ∧ Did w0 B vp inp W s' (.returned (.tuple #[])) W'
theorem pop_did (w0 W : World) (B : Nat) (vp : Value) (inp : Val) (s : Vm.St) (h : Mach w0.heap.size B vp inp W s) (hg : Grew w0 W) (h0 : 0 < s.stack.length) (hl : s.stack.length ≤ 1000) :
    Calls Tryz.prog 169 #[.pointer (some ⟨B, 0, none⟩)] W (DidV w0 B vp inp W (Vm.top1 s) (Vm.pop1 s)) := by
  obtain ⟨vo, vs, h⟩ := h
  refine (pop_any w0 W B vp inp s vo vs h hg h0 hl).mono ?_
  rintro e W' ⟨rfl, vs', hm⟩
  exact ⟨rfl, rfl, hm.grew, ⟨_, _, hm.at_⟩, hm.kept h⟩

set_option maxHeartbeats 16000000 in
theorem run_any (w0 W : World) (B : Nat) (vp : Value) (inp : Val) (l : List Val) (c : Vm.Cst) (s0 : Vm.St) (h : Mach w0.heap.size B vp inp W s0) (hg : Grew w0 W) (hv : ValsAt w0 vp l) (hc : Vm.checkC l = some c) (hat : Vm.At l c inp s0 s0) (ho : s0.out.length ≤ 90000) (hst : 0 ≤ s0.steps ∧ s0.steps ≤ 1000000) :
    Calls Tryz.prog 126 #[.pointer (some ⟨B, 0, none⟩)] W (Did w0 B vp inp W (Vm.done l inp s0)) := by
  obtain ⟨av, cv, rfl, hm, -⟩ := hv.open2
  have h24 := (Co.fits_parts (Vm.checkC_fits hc)).1
  have HM := Lib.hid h
  have HG := Lib.hid hg
  have HV := Lib.hid hv
  have HC := Lib.hid hc
  have HA := Lib.hid hat
  clear h hg hv hc hat
  go_enter Tryz.func126, Tryz.ntmps126
  go_wp2
  refine wp_scope_labels3 1 2 0 (JR w0 B (.slice av l.length cv) inp l c W s0) rfl rfl rfl (fun l n a w hJ => ?_) ?_ ?_ ?_ ?_
  · obtain ⟨_, _, h | h | h⟩ := hJ
    · exact .inl h.1
    · exact .inr (.inl h.1)
    · exact .inr (.inr h.1)
  · rintro n a' w' ⟨b2, ⟨u, rfl⟩, hJ⟩
    unfold frameOf
    obtain ⟨st, hmem, hAt, hn⟩ : ∃ st, Mem w0 B b2 (.slice av l.length cv) inp W st w' ∧ Vm.At l c inp s0 st ∧ n = 2 * (l.length - st.pc) + 1 := by
      rcases hJ with ⟨_, h⟩ | ⟨h, _⟩ | ⟨h, _⟩
      · exact h
      · cases h
      · cases h
    obtain ⟨vo, vs, hm1⟩ := hmem.m
    have hcB := fun o => cell_of (o := o) hm1.cB
    have hc5 := hcB 5
    have hc6 := hcB 6
    have hc9 := hcB 9
    simp at hc5 hc6 hc9
    have hf5 := frozen_of (o := 5) hm1.cB
    have hf9 := frozen_of (o := 9) hm1.cB
    have hpB := Pre.mk (heap_lt hm1.cB)
    clear hcB
    have HMEM := Lib.hid hmem
    have HAT := Lib.hid hAt
    have HN := Lib.hid hn
    have HM1 := Lib.hid hm1
    clear hmem hAt hn hm1 hJ
    by_cases hlt : st.pc < l.length
    · obtain ⟨x, a, hi⟩ : ∃ x a, l[st.pc]? = some (x, a) := ⟨_, _, List.getElem?_eq_getElem hlt⟩
      obtain ⟨r0, r1, r2, r3, r4, r5⟩ := Vm.right_parts' HC.out hi
      have hlen := HAT.out.len HC.out hlt
      have ho1 := HAT.out.ot
      have hs1 := HAT.out.s1
      have hs2 := HAT.out.s2
      have hpc := HAT.out.pc
      obtain ⟨a9, cap9, e9, _, hx9⟩ := (HV.out.grew HMEM.out.g).open2
      cases e9
      obtain ⟨bv, off, rfl, hb, h0, h1⟩ := hx9 st.pc hlt
      have hxa : l[st.pc] = (x, a) := by rw [List.getElem?_eq_getElem hlt] at hi; exact Option.some.inj hi
      rw [hxa] at h0 h1
      simp only at h0 h1
      have HI := Lib.hid hi
      obtain ⟨o2, a2, hi2⟩ := HMEM.out.i
      have hk0 := cell_of (o := 0) hi2
      have hk1 := cell_of (o := 1) hi2
      have hkf0 := frozen_of (o := 0) hi2
      have hkf1 := frozen_of (o := 1) hi2
      simp at hk0 hk1
      have hp2 := Pre.mk (heap_lt hi2)
      have hne2 := HMEM.out.ne
      have hne2' : B ≠ b2 := fun e => hne2 e.symm
      have HI2 := Lib.hid hi2
      clear hx9 hi hxa hi2
      go_wp2
      refine wp_region_seq 10 Tryz.mixed (by kernel_rfl) (by kernel_rfl) ?_
      iterate 10
        apply Seq.val
        focus
          rintro w1 u ⟨R1, n1, rfl⟩ hF
          simp [moreFacts, Fact.more, Oper.deps, Region.binds, List.filter_cons, World.more_drew] at hF
          simp [putFacts, Oper.deps, Region.binds, List.filter_cons, Region.dstOf, Fact.at, Act.put, World.more_drew]
          go_wp2
          exact ⟨by repeat (first | with_reducible exact Grew.refl _ | apply Grew.more | apply Grew.alloc | apply Grew.drew | apply Grew.drewN), rfl, _, _, rfl, rfl, rfl⟩
      rintro u w1 ⟨R1, n1, rfl⟩ hF
      clear hF
      simp [putFacts, Region.dstOf, Fact.at, Act.put, List.range_succ, World.more_drew]
      go_wp2
      refine wp_region_seq 10 Tryz.mixed (by kernel_rfl) (by kernel_rfl) ?_
      iterate 10
        apply Seq.val
        focus
          rintro w1 u ⟨R1, n1, rfl⟩ hF
          simp [moreFacts, Fact.more, Oper.deps, Region.binds, List.filter_cons, World.more_drew] at hF
          simp [putFacts, Oper.deps, Region.binds, List.filter_cons, Region.dstOf, Fact.at, Act.put, World.more_drew]
          go_wp2
          exact ⟨by repeat (first | with_reducible exact Grew.refl _ | apply Grew.more | apply Grew.alloc | apply Grew.drew | apply Grew.drewN), rfl, _, _, rfl, rfl, rfl⟩
      rintro u w1 ⟨R1, n1, rfl⟩ hF
      clear hF
      simp [putFacts, Region.dstOf, Fact.at, Act.put, List.range_succ, World.more_drew]
      go_upto_region 5 with fail
      go_cut [40] (fun s40 wx => s40 = .int .i64 x ∧ Mem w0 B b2 (.slice (some ⟨bv, off, none⟩) l.length cv) inp W (Vm.fetch st) wx ∧ wx.heap[b2]? = some (.cells #[.int .i64 x, .int .i64 a] 124))
      case first =>
        go_wp2
        go_meet
        exact ⟨rfl, (HMEM.out.fetch HG.out x a).1.grew (by repeat (first | with_reducible exact Grew.refl _ | apply Grew.more | apply Grew.alloc | apply Grew.drew | apply Grew.drewN)), grew_heap (by repeat (first | with_reducible exact Grew.refl _ | apply Grew.more | apply Grew.alloc | apply Grew.drew | apply Grew.drewN)) (HMEM.out.fetch HG.out x a).2⟩
      case rest =>
        obtain ⟨rfl, hmf, hif⟩ := hcut
        have hi0 := cell_of (o := 0) hif
        have hi1 := cell_of (o := 1) hif
        simp at hi0 hi1
        have hpi := Pre.mk (heap_lt hif)
        have hpc1 : (Vm.fetch st).pc = st.pc + 1 := rfl
        have HMF := Lib.hid hmf
        have HIF := Lib.hid hif
        have HR4 := Lib.hid r4
        have HR5 := Lib.hid r5
        clear hmf hif r4 r5
        by_cases hx0 : x = 0
        · subst x
          go_wp2
          go_step3
          show ∃ n', n' < n ∧ JR w0 B (.slice (some ⟨bv, off, none⟩) l.length cv) inp l c W s0 0 n' _ _
          have hd : Vm.done l inp s0 = Vm.fetch st := HAT.out.dn.symm.trans (Vm.done_halt HI.out rfl)
          exact ⟨0, by have := HN.out; omega, b2, FrameIs.mk rfl, .inr (.inr ⟨rfl, by rw [hd]; exact HMF.out.grew (by repeat (first | with_reducible exact Grew.refl _ | apply Grew.more | apply Grew.alloc | apply Grew.drew | apply Grew.drewN))⟩)⟩
        · obtain ⟨htk, han, hgt⟩ := HAT.out.next HC.out HI.out hx0
          have HAN := Lib.hid han
          have HGT := Lib.hid hgt
          clear han hgt
          have hx : x = 1 ∨ x = 2 ∨ x = 3 ∨ x = 4 ∨ x = 5 ∨ x = 6 ∨ x = 7 ∨ x = 8 ∨ x = 9 ∨ x = 10 ∨ x = 11 ∨ x = 12 ∨ x = 13 ∨ x = 14 ∨ x = 15 ∨ x = 16 ∨ x = 17 := by omega
          clear hx0
          rcases hx with rfl | rfl | rfl | rfl | rfl | rfl | rfl | rfl | rfl | rfl | rfl | rfl | rfl | rfl | rfl | rfl | rfl
          · go_wp2_with (go_at_call 168; refine (push_did w0 _ B _ inp (Vm.fetch st) a 0 (HMF.out.m.grew (by repeat (first | with_reducible exact Grew.refl _ | apply Grew.more | apply Grew.alloc | apply Grew.drew | apply Grew.drewN))) (HMF.out.g.trans (by repeat (first | with_reducible exact Grew.refl _ | apply Grew.more | apply Grew.alloc | apply Grew.drew | apply Grew.drewN))) (by rw [Vm.fetch_len]; omega)).mono ?_; rintro e w9 hd9; obtain ⟨rfl, hd9⟩ : e = .returned (.tuple #[]) ∧ Did w0 B (.slice (some ⟨bv, off, none⟩) l.length cv) inp _ _ (.returned (.tuple #[])) w9 := ⟨hd9.1, rfl, hd9.2⟩; (have HD9 := Lib.hid hd9); clear hd9)
            go_step3
            show ∃ n', n' < n ∧ JR w0 B (.slice (some ⟨bv, off, none⟩) l.length cv) inp l c W s0 1 n' _ _
            exact JR.step1 HN.out hlt HGT.out ((HMF.out.grew (by repeat (first | with_reducible exact Grew.refl _ | apply Grew.more | apply Grew.alloc | apply Grew.drew | apply Grew.drewN))).did HD9.out) HAN.out (FrameIs.mk rfl)
          · go_wp2_with (go_at_call 168; refine (push_did w0 _ B _ inp (Vm.fetch st) 0 a (HMF.out.m.grew (by repeat (first | with_reducible exact Grew.refl _ | apply Grew.more | apply Grew.alloc | apply Grew.drew | apply Grew.drewN))) (HMF.out.g.trans (by repeat (first | with_reducible exact Grew.refl _ | apply Grew.more | apply Grew.alloc | apply Grew.drew | apply Grew.drewN))) (by rw [Vm.fetch_len]; omega)).mono ?_; rintro e w9 hd9; obtain ⟨rfl, hd9⟩ : e = .returned (.tuple #[]) ∧ Did w0 B (.slice (some ⟨bv, off, none⟩) l.length cv) inp _ _ (.returned (.tuple #[])) w9 := ⟨hd9.1, rfl, hd9.2⟩; (have HD9 := Lib.hid hd9); clear hd9)
            go_step3
            show ∃ n', n' < n ∧ JR w0 B (.slice (some ⟨bv, off, none⟩) l.length cv) inp l c W s0 1 n' _ _
            exact JR.step1 HN.out hlt HGT.out ((HMF.out.grew (by repeat (first | with_reducible exact Grew.refl _ | apply Grew.more | apply Grew.alloc | apply Grew.drew | apply Grew.drewN))).did HD9.out) HAN.out (FrameIs.mk rfl)
          · obtain ⟨vo2, vs2, hmw⟩ := HMF.out.m
            have hpw := Pre.mk (heap_lt hmw.cB)
            have hw7 := cell_of (o := 7) hmw.cB
            have hw8 := cell_of (o := 8) hmw.cB
            simp at hw7 hw8
            have HMW := Lib.hid hmw
            clear hmw
            go_wp2_with (go_at_call 168; refine (push_did w0 _ B _ inp (Vm.fetch st) inp.1 inp.2 (HMF.out.m.grew (by repeat (first | with_reducible exact Grew.refl _ | apply Grew.more | apply Grew.alloc | apply Grew.drew | apply Grew.drewN))) (HMF.out.g.trans (by repeat (first | with_reducible exact Grew.refl _ | apply Grew.more | apply Grew.alloc | apply Grew.drew | apply Grew.drewN))) (by rw [Vm.fetch_len]; omega)).mono ?_; rintro e w9 hd9; obtain ⟨rfl, hd9⟩ : e = .returned (.tuple #[]) ∧ Did w0 B (.slice (some ⟨bv, off, none⟩) l.length cv) inp _ _ (.returned (.tuple #[])) w9 := ⟨hd9.1, rfl, hd9.2⟩; (have HD9 := Lib.hid hd9); clear hd9)
            go_step3
            show ∃ n', n' < n ∧ JR w0 B (.slice (some ⟨bv, off, none⟩) l.length cv) inp l c W s0 1 n' _ _
            exact JR.step1 HN.out hlt HGT.out ((HMF.out.grew (by repeat (first | with_reducible exact Grew.refl _ | apply Grew.more | apply Grew.alloc | apply Grew.drew | apply Grew.drewN))).did HD9.out) HAN.out (FrameIs.mk rfl)
          · rcases HR5.out (.inl rfl) with rfl | rfl
            · obtain ⟨vo2, vs2, hmw⟩ := HMF.out.m
              have hpw := Pre.mk (heap_lt hmw.cB)
              have hw1 := cell_of (o := 1) hmw.cB
              have hw2 := cell_of (o := 2) hmw.cB
              simp at hw1 hw2
              have HMW := Lib.hid hmw
              clear hmw
              go_wp2
              refine wp_region_seq 9 Tryz.mixed (by kernel_rfl) (by kernel_rfl) ?_
              iterate 9
                apply Seq.val
                focus
                  rintro w1 u ⟨R1, n1, rfl⟩ hF
                  simp [moreFacts, Fact.more, Oper.deps, Region.binds, List.filter_cons, World.more_drew] at hF
                  simp [putFacts, Oper.deps, Region.binds, List.filter_cons, Region.dstOf, Fact.at, Act.put, World.more_drew]
                  go_wp2
                  exact ⟨by repeat (first | with_reducible exact Grew.refl _ | apply Grew.more | apply Grew.alloc | apply Grew.drew | apply Grew.drewN), rfl, _, _, rfl, rfl, rfl⟩
              rintro u w1 ⟨R1, n1, rfl⟩ hF
              clear hF
              simp [putFacts, Region.dstOf, Fact.at, Act.put, List.range_succ, World.more_drew]
              go_wp2_with (go_at_call 168; refine (push_did w0 _ B _ inp (Vm.fetch st) st.c0.1 st.c0.2 (HMF.out.m.grew (by repeat (first | with_reducible exact Grew.refl _ | apply Grew.more | apply Grew.alloc | apply Grew.drew | apply Grew.drewN))) (HMF.out.g.trans (by repeat (first | with_reducible exact Grew.refl _ | apply Grew.more | apply Grew.alloc | apply Grew.drew | apply Grew.drewN))) (by rw [Vm.fetch_len]; omega)).mono ?_; rintro e w9 hd9; obtain ⟨rfl, hd9⟩ : e = .returned (.tuple #[]) ∧ Did w0 B (.slice (some ⟨bv, off, none⟩) l.length cv) inp _ _ (.returned (.tuple #[])) w9 := ⟨hd9.1, rfl, hd9.2⟩; (have HD9 := Lib.hid hd9); clear hd9)
              go_step3
              show ∃ n', n' < n ∧ JR w0 B (.slice (some ⟨bv, off, none⟩) l.length cv) inp l c W s0 1 n' _ _
              exact JR.step1 HN.out hlt HGT.out ((HMF.out.grew (by repeat (first | with_reducible exact Grew.refl _ | apply Grew.more | apply Grew.alloc | apply Grew.drew | apply Grew.drewN))).did HD9.out) HAN.out (FrameIs.mk rfl)
            · obtain ⟨vo2, vs2, hmw⟩ := HMF.out.m
              have hpw := Pre.mk (heap_lt hmw.cB)
              have hw3 := cell_of (o := 3) hmw.cB
              have hw4 := cell_of (o := 4) hmw.cB
              simp at hw3 hw4
              have HMW := Lib.hid hmw
              clear hmw
              go_wp2
              refine wp_region_seq 9 Tryz.mixed (by kernel_rfl) (by kernel_rfl) ?_
              iterate 9
                apply Seq.val
                focus
                  rintro w1 u ⟨R1, n1, rfl⟩ hF
                  simp [moreFacts, Fact.more, Oper.deps, Region.binds, List.filter_cons, World.more_drew] at hF
                  simp [putFacts, Oper.deps, Region.binds, List.filter_cons, Region.dstOf, Fact.at, Act.put, World.more_drew]
                  go_wp2
                  exact ⟨by repeat (first | with_reducible exact Grew.refl _ | apply Grew.more | apply Grew.alloc | apply Grew.drew | apply Grew.drewN), rfl, _, _, rfl, rfl, rfl⟩
              rintro u w1 ⟨R1, n1, rfl⟩ hF
              clear hF
              simp [putFacts, Region.dstOf, Fact.at, Act.put, List.range_succ, World.more_drew]
              go_wp2_with (go_at_call 168; refine (push_did w0 _ B _ inp (Vm.fetch st) st.c1.1 st.c1.2 (HMF.out.m.grew (by repeat (first | with_reducible exact Grew.refl _ | apply Grew.more | apply Grew.alloc | apply Grew.drew | apply Grew.drewN))) (HMF.out.g.trans (by repeat (first | with_reducible exact Grew.refl _ | apply Grew.more | apply Grew.alloc | apply Grew.drew | apply Grew.drewN))) (by rw [Vm.fetch_len]; omega)).mono ?_; rintro e w9 hd9; obtain ⟨rfl, hd9⟩ : e = .returned (.tuple #[]) ∧ Did w0 B (.slice (some ⟨bv, off, none⟩) l.length cv) inp _ _ (.returned (.tuple #[])) w9 := ⟨hd9.1, rfl, hd9.2⟩; (have HD9 := Lib.hid hd9); clear hd9)
              go_step3
              show ∃ n', n' < n ∧ JR w0 B (.slice (some ⟨bv, off, none⟩) l.length cv) inp l c W s0 1 n' _ _
              exact JR.step1 HN.out hlt HGT.out ((HMF.out.grew (by repeat (first | with_reducible exact Grew.refl _ | apply Grew.more | apply Grew.alloc | apply Grew.drew | apply Grew.drewN))).did HD9.out) HAN.out (FrameIs.mk rfl)
          · rcases HR5.out (.inr rfl) with rfl | rfl
            · go_wp2
              go_region_with (go_at_call 169; refine (pop_did w0 _ B _ inp (Vm.fetch st) (HMF.out.m.grew (by repeat (first | with_reducible exact Grew.refl _ | apply Grew.more | apply Grew.alloc | apply Grew.drew | apply Grew.drewN))) (HMF.out.g.trans (by repeat (first | with_reducible exact Grew.refl _ | apply Grew.more | apply Grew.alloc | apply Grew.drew | apply Grew.drewN))) htk (by rw [Vm.fetch_len]; omega)).mono ?_; rintro e w9 ⟨rfl, hd9⟩; obtain ⟨vo9, vs9, hm9⟩ := hd9.2.2.1; (have hf1 := frozen_of (o := 1) hm9.cB); (have hf2 := frozen_of (o := 2) hm9.cB); (have hf3 := frozen_of (o := 3) hm9.cB); (have hf4 := frozen_of (o := 4) hm9.cB); (have hs1 := cell_of (o := 1) hm9.cB); (have hs2 := cell_of (o := 2) hm9.cB); (have hs3 := cell_of (o := 3) hm9.cB); (have hs4 := cell_of (o := 4) hm9.cB); simp at hs1 hs2 hs3 hs4; (have hp9 := Pre.mk (heap_lt hm9.cB)); (have hi9 := hd9.2.2.2 _ _ _ HIF.out (by decide) HMF.out.ne); (have hi91 := cell_of (o := 1) hi9); simp at hi91; (have HD9 := Lib.hid hd9); clear hd9 hm9 hi9)
              all_goals
                go_wp2
                go_step3
                show ∃ n', n' < n ∧ JR w0 B (.slice (some ⟨bv, off, none⟩) l.length cv) inp l c W s0 1 n' _ _
                exact JR.step1 HN.out hlt HGT.out (((HMF.out.did HD9.out).set0 _).grew (by repeat (first | with_reducible exact Grew.refl _ | apply Grew.more | apply Grew.alloc | apply Grew.drew | apply Grew.drewN))) HAN.out (FrameIs.mk rfl)
            · go_wp2
              go_region_with (go_at_call 169; refine (pop_did w0 _ B _ inp (Vm.fetch st) (HMF.out.m.grew (by repeat (first | with_reducible exact Grew.refl _ | apply Grew.more | apply Grew.alloc | apply Grew.drew | apply Grew.drewN))) (HMF.out.g.trans (by repeat (first | with_reducible exact Grew.refl _ | apply Grew.more | apply Grew.alloc | apply Grew.drew | apply Grew.drewN))) htk (by rw [Vm.fetch_len]; omega)).mono ?_; rintro e w9 ⟨rfl, hd9⟩; obtain ⟨vo9, vs9, hm9⟩ := hd9.2.2.1; (have hf1 := frozen_of (o := 1) hm9.cB); (have hf2 := frozen_of (o := 2) hm9.cB); (have hf3 := frozen_of (o := 3) hm9.cB); (have hf4 := frozen_of (o := 4) hm9.cB); (have hs1 := cell_of (o := 1) hm9.cB); (have hs2 := cell_of (o := 2) hm9.cB); (have hs3 := cell_of (o := 3) hm9.cB); (have hs4 := cell_of (o := 4) hm9.cB); simp at hs1 hs2 hs3 hs4; (have hp9 := Pre.mk (heap_lt hm9.cB)); (have hi9 := hd9.2.2.2 _ _ _ HIF.out (by decide) HMF.out.ne); (have hi91 := cell_of (o := 1) hi9); simp at hi91; (have HD9 := Lib.hid hd9); clear hd9 hm9 hi9)
              all_goals
                go_wp2
                go_step3
                show ∃ n', n' < n ∧ JR w0 B (.slice (some ⟨bv, off, none⟩) l.length cv) inp l c W s0 1 n' _ _
                exact JR.step1 HN.out hlt HGT.out (((HMF.out.did HD9.out).set1 _).grew (by repeat (first | with_reducible exact Grew.refl _ | apply Grew.more | apply Grew.alloc | apply Grew.drew | apply Grew.drewN))) HAN.out (FrameIs.mk rfl)
          · go_wp2_with (go_at_call 171; refine (two_any w0 _ B _ inp (Vm.fetch st) _ (HMF.out.m.grew (by repeat (first | with_reducible exact Grew.refl _ | apply Grew.more | apply Grew.alloc | apply Grew.drew | apply Grew.drewN))) (HMF.out.g.trans (by repeat (first | with_reducible exact Grew.refl _ | apply Grew.more | apply Grew.alloc | apply Grew.drew | apply Grew.drewN))) (by rw [Vm.fetch_len]; omega) htk (by decide)).mono ?_; rintro e w9 hd9; obtain ⟨rfl, hd9⟩ : e = .returned (.tuple #[]) ∧ Did w0 B (.slice (some ⟨bv, off, none⟩) l.length cv) inp _ _ (.returned (.tuple #[])) w9 := ⟨hd9.1, rfl, hd9.2⟩; (have HD9 := Lib.hid hd9); clear hd9)
            go_step3
            show ∃ n', n' < n ∧ JR w0 B (.slice (some ⟨bv, off, none⟩) l.length cv) inp l c W s0 1 n' _ _
            exact JR.step1 HN.out hlt HGT.out ((HMF.out.grew (by repeat (first | with_reducible exact Grew.refl _ | apply Grew.more | apply Grew.alloc | apply Grew.drew | apply Grew.drewN))).did HD9.out) HAN.out (FrameIs.mk rfl)
          · go_wp2_with (go_at_call 171; refine (two_any w0 _ B _ inp (Vm.fetch st) _ (HMF.out.m.grew (by repeat (first | with_reducible exact Grew.refl _ | apply Grew.more | apply Grew.alloc | apply Grew.drew | apply Grew.drewN))) (HMF.out.g.trans (by repeat (first | with_reducible exact Grew.refl _ | apply Grew.more | apply Grew.alloc | apply Grew.drew | apply Grew.drewN))) (by rw [Vm.fetch_len]; omega) htk (by decide)).mono ?_; rintro e w9 hd9; obtain ⟨rfl, hd9⟩ : e = .returned (.tuple #[]) ∧ Did w0 B (.slice (some ⟨bv, off, none⟩) l.length cv) inp _ _ (.returned (.tuple #[])) w9 := ⟨hd9.1, rfl, hd9.2⟩; (have HD9 := Lib.hid hd9); clear hd9)
            go_step3
            show ∃ n', n' < n ∧ JR w0 B (.slice (some ⟨bv, off, none⟩) l.length cv) inp l c W s0 1 n' _ _
            exact JR.step1 HN.out hlt HGT.out ((HMF.out.grew (by repeat (first | with_reducible exact Grew.refl _ | apply Grew.more | apply Grew.alloc | apply Grew.drew | apply Grew.drewN))).did HD9.out) HAN.out (FrameIs.mk rfl)
          · go_wp2_with (go_at_call 171; refine (two_any w0 _ B _ inp (Vm.fetch st) _ (HMF.out.m.grew (by repeat (first | with_reducible exact Grew.refl _ | apply Grew.more | apply Grew.alloc | apply Grew.drew | apply Grew.drewN))) (HMF.out.g.trans (by repeat (first | with_reducible exact Grew.refl _ | apply Grew.more | apply Grew.alloc | apply Grew.drew | apply Grew.drewN))) (by rw [Vm.fetch_len]; omega) htk (by decide)).mono ?_; rintro e w9 hd9; obtain ⟨rfl, hd9⟩ : e = .returned (.tuple #[]) ∧ Did w0 B (.slice (some ⟨bv, off, none⟩) l.length cv) inp _ _ (.returned (.tuple #[])) w9 := ⟨hd9.1, rfl, hd9.2⟩; (have HD9 := Lib.hid hd9); clear hd9)
            go_step3
            show ∃ n', n' < n ∧ JR w0 B (.slice (some ⟨bv, off, none⟩) l.length cv) inp l c W s0 1 n' _ _
            exact JR.step1 HN.out hlt HGT.out ((HMF.out.grew (by repeat (first | with_reducible exact Grew.refl _ | apply Grew.more | apply Grew.alloc | apply Grew.drew | apply Grew.drewN))).did HD9.out) HAN.out (FrameIs.mk rfl)
          · go_wp2_with (go_at_call 172; refine (top9_any w0 _ B _ inp (Vm.fetch st) (HMF.out.m.grew (by repeat (first | with_reducible exact Grew.refl _ | apply Grew.more | apply Grew.alloc | apply Grew.drew | apply Grew.drewN))) (HMF.out.g.trans (by repeat (first | with_reducible exact Grew.refl _ | apply Grew.more | apply Grew.alloc | apply Grew.drew | apply Grew.drewN))) (by rw [Vm.fetch_len]; omega) htk).mono ?_; rintro e w9 hd9; obtain ⟨rfl, hd9⟩ : e = .returned (.tuple #[]) ∧ Did w0 B (.slice (some ⟨bv, off, none⟩) l.length cv) inp _ _ (.returned (.tuple #[])) w9 := ⟨hd9.1, rfl, hd9.2⟩; (have HD9 := Lib.hid hd9); clear hd9)
            go_step3
            show ∃ n', n' < n ∧ JR w0 B (.slice (some ⟨bv, off, none⟩) l.length cv) inp l c W s0 1 n' _ _
            exact JR.step1 HN.out hlt HGT.out ((HMF.out.grew (by repeat (first | with_reducible exact Grew.refl _ | apply Grew.more | apply Grew.alloc | apply Grew.drew | apply Grew.drewN))).did HD9.out) HAN.out (FrameIs.mk rfl)
          · go_wp2_with (go_at_call 172; refine (top10_any w0 _ B _ inp (Vm.fetch st) (HMF.out.m.grew (by repeat (first | with_reducible exact Grew.refl _ | apply Grew.more | apply Grew.alloc | apply Grew.drew | apply Grew.drewN))) (HMF.out.g.trans (by repeat (first | with_reducible exact Grew.refl _ | apply Grew.more | apply Grew.alloc | apply Grew.drew | apply Grew.drewN))) (by rw [Vm.fetch_len]; omega) htk).mono ?_; rintro e w9 hd9; obtain ⟨rfl, hd9⟩ : e = .returned (.tuple #[]) ∧ Did w0 B (.slice (some ⟨bv, off, none⟩) l.length cv) inp _ _ (.returned (.tuple #[])) w9 := ⟨hd9.1, rfl, hd9.2⟩; (have HD9 := Lib.hid hd9); clear hd9)
            go_step3
            show ∃ n', n' < n ∧ JR w0 B (.slice (some ⟨bv, off, none⟩) l.length cv) inp l c W s0 1 n' _ _
            exact JR.step1 HN.out hlt HGT.out ((HMF.out.grew (by repeat (first | with_reducible exact Grew.refl _ | apply Grew.more | apply Grew.alloc | apply Grew.drew | apply Grew.drewN))).did HD9.out) HAN.out (FrameIs.mk rfl)
          · go_wp2_with (go_at_call 172; refine (top11_any w0 _ B _ inp (Vm.fetch st) (HMF.out.m.grew (by repeat (first | with_reducible exact Grew.refl _ | apply Grew.more | apply Grew.alloc | apply Grew.drew | apply Grew.drewN))) (HMF.out.g.trans (by repeat (first | with_reducible exact Grew.refl _ | apply Grew.more | apply Grew.alloc | apply Grew.drew | apply Grew.drewN))) (by rw [Vm.fetch_len]; omega) htk).mono ?_; rintro e w9 hd9; obtain ⟨rfl, hd9⟩ : e = .returned (.tuple #[]) ∧ Did w0 B (.slice (some ⟨bv, off, none⟩) l.length cv) inp _ _ (.returned (.tuple #[])) w9 := ⟨hd9.1, rfl, hd9.2⟩; (have HD9 := Lib.hid hd9); clear hd9)
            go_step3
            show ∃ n', n' < n ∧ JR w0 B (.slice (some ⟨bv, off, none⟩) l.length cv) inp l c W s0 1 n' _ _
            exact JR.step1 HN.out hlt HGT.out ((HMF.out.grew (by repeat (first | with_reducible exact Grew.refl _ | apply Grew.more | apply Grew.alloc | apply Grew.drew | apply Grew.drewN))).did HD9.out) HAN.out (FrameIs.mk rfl)
          · go_wp2_with (go_at_call 172; refine (top12_any w0 _ B _ inp (Vm.fetch st) (HMF.out.m.grew (by repeat (first | with_reducible exact Grew.refl _ | apply Grew.more | apply Grew.alloc | apply Grew.drew | apply Grew.drewN))) (HMF.out.g.trans (by repeat (first | with_reducible exact Grew.refl _ | apply Grew.more | apply Grew.alloc | apply Grew.drew | apply Grew.drewN))) (by rw [Vm.fetch_len]; omega) htk).mono ?_; rintro e w9 hd9; obtain ⟨rfl, hd9⟩ : e = .returned (.tuple #[]) ∧ Did w0 B (.slice (some ⟨bv, off, none⟩) l.length cv) inp _ _ (.returned (.tuple #[])) w9 := ⟨hd9.1, rfl, hd9.2⟩; (have HD9 := Lib.hid hd9); clear hd9)
            go_step3
            show ∃ n', n' < n ∧ JR w0 B (.slice (some ⟨bv, off, none⟩) l.length cv) inp l c W s0 1 n' _ _
            exact JR.step1 HN.out hlt HGT.out ((HMF.out.grew (by repeat (first | with_reducible exact Grew.refl _ | apply Grew.more | apply Grew.alloc | apply Grew.drew | apply Grew.drewN))).did HD9.out) HAN.out (FrameIs.mk rfl)
          · go_wp2_with (go_at_call 172; refine (top13_any w0 _ B _ inp (Vm.fetch st) (HMF.out.m.grew (by repeat (first | with_reducible exact Grew.refl _ | apply Grew.more | apply Grew.alloc | apply Grew.drew | apply Grew.drewN))) (HMF.out.g.trans (by repeat (first | with_reducible exact Grew.refl _ | apply Grew.more | apply Grew.alloc | apply Grew.drew | apply Grew.drewN))) (by rw [Vm.fetch_len]; omega) htk).mono ?_; rintro e w9 hd9; obtain ⟨rfl, hd9⟩ : e = .returned (.tuple #[]) ∧ Did w0 B (.slice (some ⟨bv, off, none⟩) l.length cv) inp _ _ (.returned (.tuple #[])) w9 := ⟨hd9.1, rfl, hd9.2⟩; (have HD9 := Lib.hid hd9); clear hd9)
            go_step3
            show ∃ n', n' < n ∧ JR w0 B (.slice (some ⟨bv, off, none⟩) l.length cv) inp l c W s0 1 n' _ _
            exact JR.step1 HN.out hlt HGT.out ((HMF.out.grew (by repeat (first | with_reducible exact Grew.refl _ | apply Grew.more | apply Grew.alloc | apply Grew.drew | apply Grew.drewN))).did HD9.out) HAN.out (FrameIs.mk rfl)
          · go_wp2_with (go_at_call 172; refine (top14_any w0 _ B _ inp (Vm.fetch st) (HMF.out.m.grew (by repeat (first | with_reducible exact Grew.refl _ | apply Grew.more | apply Grew.alloc | apply Grew.drew | apply Grew.drewN))) (HMF.out.g.trans (by repeat (first | with_reducible exact Grew.refl _ | apply Grew.more | apply Grew.alloc | apply Grew.drew | apply Grew.drewN))) (by rw [Vm.fetch_len]; omega) htk (show st.out.length ≤ 100000 by omega)).mono ?_; rintro e w9 hd9; obtain ⟨rfl, hd9⟩ : e = .returned (.tuple #[]) ∧ Did w0 B (.slice (some ⟨bv, off, none⟩) l.length cv) inp _ _ (.returned (.tuple #[])) w9 := ⟨hd9.1, rfl, hd9.2⟩; (have HD9 := Lib.hid hd9); clear hd9)
            go_step3
            show ∃ n', n' < n ∧ JR w0 B (.slice (some ⟨bv, off, none⟩) l.length cv) inp l c W s0 1 n' _ _
            exact JR.step1 HN.out hlt HGT.out ((HMF.out.grew (by repeat (first | with_reducible exact Grew.refl _ | apply Grew.more | apply Grew.alloc | apply Grew.drew | apply Grew.drewN))).did HD9.out) HAN.out (FrameIs.mk rfl)
          · obtain ⟨ha1, ha2⟩ := HR4.out (.inl rfl)
            cases hz : zeroV (Vm.top1 (Vm.fetch st))
            all_goals
              have HZ := Lib.hid hz
              clear hz
              go_wp2_with (first
                | (go_at_call 169; refine (pop_did w0 _ B _ inp (Vm.fetch st) (HMF.out.m.grew (by repeat (first | with_reducible exact Grew.refl _ | apply Grew.more | apply Grew.alloc | apply Grew.drew | apply Grew.drewN))) (HMF.out.g.trans (by repeat (first | with_reducible exact Grew.refl _ | apply Grew.more | apply Grew.alloc | apply Grew.drew | apply Grew.drewN))) htk (by rw [Vm.fetch_len]; omega)).mono ?_; rintro e w9 ⟨rfl, hd9⟩; (have HD9 := Lib.hid hd9); clear hd9)
                | (go_at_call 170; refine (zero_any (Vm.top1 (Vm.fetch st)) _).mono ?_; rintro e w3 ⟨rfl, R3, n3, rfl⟩; rw [HZ.out])
                )
            · go_step3
              show ∃ n', n' < n ∧ JR w0 B (.slice (some ⟨bv, off, none⟩) l.length cv) inp l c W s0 1 n' _ _
              have he : Vm.effect inp (15, a) (Vm.fetch st) = Vm.pop1 (Vm.fetch st) := (Vm.eff15 inp a _).trans (by rw [HZ.out]; rfl)
              have han := HAN.out
              have hgt := HGT.out
              rw [he] at han hgt
              exact JR.step1 HN.out hlt hgt ((HMF.out.did HD9.out).grew (by repeat (first | with_reducible exact Grew.refl _ | apply Grew.more | apply Grew.alloc | apply Grew.drew | apply Grew.drewN))) han (FrameIs.mk rfl)
            · go_step3
              show ∃ n', n' < n ∧ JR w0 B (.slice (some ⟨bv, off, none⟩) l.length cv) inp l c W s0 2 n' _ _
              have he : Vm.effect inp (15, a) (Vm.fetch st) = Vm.jump1 (Vm.pop1 (Vm.fetch st)) a := (Vm.eff15 inp a _).trans (by rw [HZ.out]; rfl)
              have han := HAN.out
              rw [he] at han
              exact JR.step2 HN.out hlt rfl h24 ha1 ha2 (grew_heap (by repeat (first | with_reducible exact Grew.refl _ | apply Grew.more | apply Grew.alloc | apply Grew.drew | apply Grew.drewN)) (HD9.out.2.2.2 _ _ _ HIF.out (by decide) HMF.out.ne)) ((HMF.out.did HD9.out).grew (by repeat (first | with_reducible exact Grew.refl _ | apply Grew.more | apply Grew.alloc | apply Grew.drew | apply Grew.drewN))) han (FrameIs.mk rfl)
          · obtain ⟨ha1, ha2⟩ := HR4.out (.inr rfl)
            go_wp2
            go_step3
            show ∃ n', n' < n ∧ JR w0 B (.slice (some ⟨bv, off, none⟩) l.length cv) inp l c W s0 2 n' _ _
            exact JR.step2 HN.out hlt rfl h24 ha1 ha2 (grew_heap (by repeat (first | with_reducible exact Grew.refl _ | apply Grew.more | apply Grew.alloc | apply Grew.drew | apply Grew.drewN)) HIF.out) (HMF.out.grew (by repeat (first | with_reducible exact Grew.refl _ | apply Grew.more | apply Grew.alloc | apply Grew.drew | apply Grew.drewN))) HAN.out (FrameIs.mk rfl)
          · go_wp2_with (go_at_call 171; refine (two_any w0 _ B _ inp (Vm.fetch st) _ (HMF.out.m.grew (by repeat (first | with_reducible exact Grew.refl _ | apply Grew.more | apply Grew.alloc | apply Grew.drew | apply Grew.drewN))) (HMF.out.g.trans (by repeat (first | with_reducible exact Grew.refl _ | apply Grew.more | apply Grew.alloc | apply Grew.drew | apply Grew.drewN))) (by rw [Vm.fetch_len]; omega) htk (by decide)).mono ?_; rintro e w9 hd9; obtain ⟨rfl, hd9⟩ : e = .returned (.tuple #[]) ∧ Did w0 B (.slice (some ⟨bv, off, none⟩) l.length cv) inp _ _ (.returned (.tuple #[])) w9 := ⟨hd9.1, rfl, hd9.2⟩; (have HD9 := Lib.hid hd9); clear hd9)
            go_step3
            show ∃ n', n' < n ∧ JR w0 B (.slice (some ⟨bv, off, none⟩) l.length cv) inp l c W s0 1 n' _ _
            exact JR.step1 HN.out hlt HGT.out ((HMF.out.grew (by repeat (first | with_reducible exact Grew.refl _ | apply Grew.more | apply Grew.alloc | apply Grew.drew | apply Grew.drewN))).did HD9.out) HAN.out (FrameIs.mk rfl)

    · go_wp2
      refine wp_region_seq 10 Tryz.mixed (by kernel_rfl) (by kernel_rfl) ?_
      iterate 10
        apply Seq.val
        focus
          rintro w1 u ⟨R1, n1, rfl⟩ hF
          simp [moreFacts, Fact.more, Oper.deps, Region.binds, List.filter_cons, World.more_drew] at hF
          simp [putFacts, Oper.deps, Region.binds, List.filter_cons, Region.dstOf, Fact.at, Act.put, World.more_drew]
          go_wp2
          exact ⟨by repeat (first | with_reducible exact Grew.refl _ | apply Grew.more | apply Grew.alloc | apply Grew.drew | apply Grew.drewN), rfl, _, _, rfl, rfl, rfl⟩
      rintro u w1 ⟨R1, n1, rfl⟩ hF
      clear hF
      simp [putFacts, Region.dstOf, Fact.at, Act.put, List.range_succ, World.more_drew]
      go_wp2
      go_step3
      refine ⟨0, by have := HN.out; omega, b2, FrameIs.mk rfl, .inr (.inr ⟨rfl, ?_⟩)⟩
      have hd : Vm.done l inp s0 = st := HAT.out.dn.symm.trans (Vm.done_none (by omega))
      rw [hd]
      exact HMEM.out.grew (by repeat (first | with_reducible exact Grew.refl _ | apply Grew.more | apply Grew.alloc | apply Grew.drew | apply Grew.drewN))
  · rintro n a' w' ⟨b2, ⟨u, rfl⟩, hJ⟩
    unfold frameOf
    obtain ⟨st, o, a, hmem, hi, ha1, ha2, hpc, hAt, hn⟩ : ∃ st o a, Mem w0 B b2 (.slice av l.length cv) inp W st w' ∧ w'.heap[b2]? = some (.cells #[.int .i64 o, .int .i64 a] 124) ∧ 1 ≤ a ∧ a ≤ 24 ∧ st.pc ≤ 24 ∧ Vm.At l c inp s0 (Vm.jump1 st a) ∧ n = 2 * (l.length - st.pc) + 2 := by
      rcases hJ with ⟨h, _⟩ | ⟨_, h⟩ | ⟨h, _⟩
      · cases h
      · exact h
      · cases h
    obtain ⟨vo, vs, hm1⟩ := hmem.m
    have hc9 := cell_of (o := 9) hm1.cB
    simp at hc9
    have hf9 := frozen_of (o := 9) hm1.cB
    have hpB := Pre.mk (heap_lt hm1.cB)
    have hi1 := cell_of (o := 1) hi
    simp at hi1
    have hp2 := Pre.mk (heap_lt hi)
    have HI := Lib.hid hi
    have HMEM := Lib.hid hmem
    have HAT := Lib.hid hAt
    have HN := Lib.hid hn
    have HM1 := Lib.hid hm1
    clear hmem hAt hn hm1 hJ hi
    go_wp2
    refine wp_region_seq 9 Tryz.mixed (by kernel_rfl) (by kernel_rfl) ?_
    iterate 9
      apply Seq.val
      focus
        rintro w1 u ⟨R1, n1, rfl⟩ hF
        simp [moreFacts, Fact.more, Oper.deps, Region.binds, List.filter_cons, World.more_drew] at hF
        simp [putFacts, Oper.deps, Region.binds, List.filter_cons, Region.dstOf, Fact.at, Act.put, World.more_drew]
        go_wp2
        exact ⟨by repeat (first | with_reducible exact Grew.refl _ | apply Grew.more | apply Grew.alloc | apply Grew.drew | apply Grew.drewN), rfl, _, _, rfl, rfl, rfl⟩
    rintro u w1 ⟨R1, n1, rfl⟩ hF
    clear hF
    simp [putFacts, Region.dstOf, Fact.at, Act.put, List.range_succ, World.more_drew]
    go_wp2
    go_step3
    show ∃ n', n' < n ∧ JR w0 B (.slice av l.length cv) inp l c W s0 1 n' _ _
    refine ⟨2 * (l.length - (st.pc + a.toNat)) + 1, by have := HN.out; omega, b2, FrameIs.mk rfl, .inl ⟨rfl, Vm.jump1 st a, ?_, HAT.out, rfl⟩⟩
    exact (HMEM.out.put 9 (.int .i64 (st.pc + a)) HM1.out.hB ⟨_, _, HM1.out.setPc (st.pc + a.toNat) (st.pc + a) (by omega)⟩).grew (by repeat (first | with_reducible exact Grew.refl _ | apply Grew.more | apply Grew.alloc | apply Grew.drew | apply Grew.drewN))
  · rintro n a' w' ⟨b2, ⟨u, rfl⟩, hJ⟩
    unfold frameOf
    have hmem : Mem w0 B b2 (.slice av l.length cv) inp W (Vm.done l inp s0) w' := by
      rcases hJ with ⟨h, _⟩ | ⟨h, _⟩ | ⟨_, h⟩
      · cases h
      · cases h
      · exact h
    have HMEM := Lib.hid hmem
    clear hmem hJ
    go_wp2
    go_end0
    exact ⟨rfl, HMEM.out.g, HMEM.out.m, HMEM.out.k⟩
  · intro hbody
    have HB := Lib.hid hbody
    clear hbody
    go_wp2
    go_step3
    rename_i hK
    refine hK _ _ (HB.out (2 * (l.length - s0.pc) + 1) _ _ ⟨W.heap.size, FrameIs.mk rfl, .inl ⟨rfl, s0, ⟨HM.out.grew (by repeat (first | with_reducible exact Grew.refl _ | apply Grew.more | apply Grew.alloc | apply Grew.drew | apply Grew.drewN)), HG.out.trans (by repeat (first | with_reducible exact Grew.refl _ | apply Grew.more | apply Grew.alloc | apply Grew.drew | apply Grew.drewN)), Kept.grew B (by repeat (first | with_reducible exact Grew.refl _ | apply Grew.more | apply Grew.alloc | apply Grew.drew | apply Grew.drewN)), ⟨0, 0, heap_new_at _ _ _ rfl⟩, ?_, Nat.le_refl _⟩, HA.out, rfl⟩⟩)
    obtain ⟨vo, vs, hm1⟩ := HM.out
    have := heap_lt hm1.cB
    omega
end Go.Proofs.YtmdmbimfdpngaaaGreatDoor

