import Derived.Test.YtmdmbimfdpngaaaGreatDoorMp7
import Derived.Test.YtmdmbimfdpngaaaGreatDoorMp16
import Derived.Test.YtmdmbimfdpngaaaGreatDoorMp20
/-! Right values stay right while a program runs. -/
namespace Vm
set_option linter.unusedSimpArgs false
set_option linter.unusedVariables false
open Ga

theorem right_of {x y : Int} (hx : -524288 ≤ x ∧ x < 524288) (hy : -524288 ≤ y ∧ y < 524288) : rightV (x, y) = true := by
  unfold rightV; simp only [into_id hx, into_id hy, decide_true, Bool.and_self]
theorem right_into (x y : Int) : rightV (into x, into y) = true := right_of (into_range x) (into_range y)
theorem right_two (op : Int) (x y : Val) : rightV (two op x y) = true := by
  unfold two addV subV mulV
  (repeat' split) <;> first | exact right_into _ _ | exact right_of (by decide) (by decide)
def AllRight (s : St) : Prop := rightV s.c0 = true ∧ rightV s.c1 = true ∧ ∀ v ∈ s.stack, rightV v = true
theorem AllRight.push {s : St} (h : AllRight s) {v : Val} (hv : rightV v = true) : AllRight (push1 s v) := by
  refine ⟨h.1, h.2.1, fun u hu => ?_⟩
  rcases List.mem_append.1 hu with e | e
  · exact h.2.2 u e
  · rw [List.mem_singleton] at e; rw [e]; exact hv
theorem AllRight.pop {s : St} (h : AllRight s) : AllRight (pop1 s) :=
  ⟨h.1, h.2.1, fun u hu => h.2.2 u (List.dropLast_subset _ hu)⟩
theorem AllRight.top {s : St} (h : AllRight s) : rightV (top1 s) = true := by
  unfold top1
  rw [List.getLastD_eq_getLast?]
  cases e : s.stack.getLast? with
  | none => exact right_of (by decide) (by decide)
  | some v => exact h.2.2 v (List.mem_of_getLast? e)
theorem AllRight.cell {s : St} (h : AllRight s) (a : Int) : rightV (cellAt s a) = true := by
  unfold cellAt; split
  · exact h.1
  · exact h.2.1
theorem AllRight.setCell {s : St} (h : AllRight s) (a : Int) {v : Val} (hv : rightV v = true) : AllRight (setCellAt s a v) := by
  unfold setCellAt; split
  · exact ⟨hv, h.2.1, h.2.2⟩
  · exact ⟨h.1, hv, h.2.2⟩
theorem AllRight.jump {s : St} (h : AllRight s) (k : Int) : AllRight (jump1 s k) := h
theorem AllRight.emit {s : St} (h : AllRight s) (v : Val) : AllRight (emit1 s v) := h
theorem AllRight.fetch {s : St} (h : AllRight s) : AllRight (fetch s) := h
theorem ite_all {α : Type} {P : α → Prop} {c : Prop} [Decidable c] {a b : α} (ha : P a) (hb : P b) : P (if c then a else b) := by
  by_cases h : c
  · rw [if_pos h]; exact ha
  · rw [if_neg h]; exact hb
theorem AllRight.effect {s : St} (h : AllRight s) {inp : Val} (hin : rightV inp = true) {i : Ins} (hi : -524288 ≤ i.2 ∧ i.2 < 524288) : AllRight (effect inp i s) := by
  unfold Vm.effect
  refine ite_all (P := AllRight) (h.push (right_of hi (by decide))) ?_
  refine ite_all (P := AllRight) (h.push (right_of (by decide) hi)) ?_
  refine ite_all (P := AllRight) (h.push hin) ?_
  refine ite_all (P := AllRight) (h.push (h.cell _)) ?_
  refine ite_all (P := AllRight) (h.pop.setCell _ h.top) ?_
  refine ite_all (P := AllRight) (ite_all (P := AllRight) (h.pop.jump _) h.pop) ?_
  refine ite_all (P := AllRight) (h.jump _) ?_
  refine ite_all (P := AllRight) (h.pop.pop.push (right_two _ _ _)) ?_
  refine ite_all (P := AllRight) (h.pop.push (right_into _ _)) ?_
  refine ite_all (P := AllRight) (h.pop.push (right_into _ _)) ?_
  refine ite_all (P := AllRight) ((h.pop.push h.top).push h.top) ?_
  refine ite_all (P := AllRight) ((h.pop.pop.push h.top).push h.pop.top) ?_
  exact ite_all (P := AllRight) (h.pop.emit _) h.pop
theorem AllRight.exec {p : List Ins} {inp : Val} (hin : rightV inp = true) (hp : ∀ i ∈ p, -524288 ≤ i.2 ∧ i.2 < 524288) : ∀ (f : Nat) (s : St), AllRight s → AllRight (Vm.exec p inp f s)
  | 0, s, h => h
  | f + 1, s, h => by
    rw [Vm.exec]
    cases e : p[s.pc]? with
    | none => exact h
    | some i =>
      simp only
      split
      · exact h.fetch
      · exact AllRight.exec hin hp f _ (h.fetch.effect hin (hp i (List.mem_of_getElem? e)))
theorem fits_arg {p : List Ins} (h : Co.fitsI p = true) : ∀ i ∈ p, -524288 ≤ i.2 ∧ i.2 < 524288 := by
  intro i hi
  unfold Co.fitsI at h
  rw [Bool.and_eq_true] at h
  have h2 := List.all_eq_true.1 h.2 i hi
  unfold Co.rightI at h2
  simp only [Bool.and_eq_true, decide_eq_true_eq] at h2
  obtain ⟨⟨_, h3⟩, h4⟩ := h2
  unfold Co.lo at h3
  unfold Co.hi at h4
  constructor
  · have : -524288 ≤ (if i.1 = 1 ∨ i.1 = 2 then (-524288 : Int) else if i.1 = 15 ∨ i.1 = 16 then 1 else 0) := by (repeat' split) <;> omega
    omega
  · have : (if i.1 = 1 ∨ i.1 = 2 then (524287 : Int) else if i.1 = 4 ∨ i.1 = 5 then 1 else if i.1 = 15 ∨ i.1 = 16 then 24 else 0) < 524288 := by (repeat' split) <;> omega
    omega

/-! ### each step leads on, so that as many rounds as the program is long are enough -/
theorem effect_gt {p : List Ins} {s : St} {o a : Int} (ho : 1 ≤ o ∧ o ≤ 17) (inp : Val) : s.pc < (effect inp (o, a) (fetch s)).pc := by
  rw [effect_pc ho, fetch_pc]
  repeat' split
  all_goals omega
theorem exec_enough {p : List Ins} (hp : ∀ i ∈ p, 0 ≤ i.1 ∧ i.1 ≤ 17) {inp : Val} : ∀ (f : Nat) (s : St), p.length - s.pc < f → exec p inp (f + 1) s = exec p inp f s
  | 0, s, h => absurd h (Nat.not_lt_zero _)
  | f + 1, s, h => by
    rw [exec, exec]
    cases e : p[s.pc]? with
    | none => rfl
    | some i =>
      obtain ⟨o, a⟩ := i
      simp only
      split
      · rfl
      · rename_i h0
        have hm := hp _ (List.mem_of_getElem? e)
        simp only at hm
        have hlt : s.pc < p.length := (List.getElem?_eq_some_iff.1 e).1
        have hg := effect_gt (p := p) (s := s) (o := o) (a := a) (by omega) inp
        exact exec_enough hp f _ (by omega)
theorem fits_op {p : List Ins} (h : Co.fitsI p = true) : ∀ i ∈ p, 0 ≤ i.1 ∧ i.1 ≤ 17 := by
  intro i hi
  unfold Co.fitsI at h
  rw [Bool.and_eq_true] at h
  have h2 := List.all_eq_true.1 h.2 i hi
  unfold Co.rightI at h2
  simp only [Bool.and_eq_true, decide_eq_true_eq] at h2
  omega
/-- where it ends -/
def done (p : List Ins) (inp : Val) (s : St) : St := exec p inp (p.length + 1) s
theorem done_none {p : List Ins} {inp : Val} {s : St} (h : p.length ≤ s.pc) : done p inp s = s := by
  unfold done; rw [exec, List.getElem?_eq_none h]
theorem done_halt {p : List Ins} {inp : Val} {s : St} {i : Ins} (h : p[s.pc]? = some i) (h0 : i.1 = 0) : done p inp s = fetch s := by
  unfold done; rw [exec, h]; exact if_pos h0
theorem done_step {p : List Ins} (hp : ∀ i ∈ p, 0 ≤ i.1 ∧ i.1 ≤ 17) {inp : Val} {s : St} {i : Ins} (h : p[s.pc]? = some i) (h0 : i.1 ≠ 0) : done p inp s = done p inp (effect inp i (fetch s)) := by
  obtain ⟨o, a⟩ := i
  have hm := hp _ (List.mem_of_getElem? h)
  simp only at hm h0
  have hlt : s.pc < p.length := (List.getElem?_eq_some_iff.1 h).1
  have hg := effect_gt (p := p) (s := s) (o := o) (a := a) (by omega) inp
  have e1 : done p inp s = exec p inp p.length (effect inp (o, a) (fetch s)) := by
    unfold done; rw [exec, h]; exact if_neg h0
  rw [e1]
  exact (exec_enough hp _ _ (by omega)).symm

/-! ### one input after the other -/
structure Res where
  out : List Val
  c0 : Val
  c1 : Val
  steps : Int
def stOf (r : Res) : St := ⟨r.out, r.c0, r.c1, r.steps, 0, []⟩
def resOf (s : St) : Res := ⟨s.out, s.c0, s.c1, s.steps⟩
def go (p : List Ins) (r : Res) (inp : Val) : Res := resOf (exec p inp (p.length + 1) (stOf r))
def each (p : List Ins) (r : Res) (l : List Val) : Res := l.foldl (go p) r
theorem each_succ (p : List Ins) (r : Res) (l : List Val) (k : Nat) (h : k < l.length) : each p r (l.take (k + 1)) = go p (each p r (l.take k)) l[k] := by
  unfold each
  rw [List.take_succ_eq_append_getElem h, List.foldl_append]; rfl
theorem go_right {p : List Ins} (hp : Co.fitsI p = true) {r : Res} (h0 : rightV r.c0 = true) (h1 : rightV r.c1 = true) {inp : Val} (hin : rightV inp = true) : rightV (go p r inp).c0 = true ∧ rightV (go p r inp).c1 = true := by
  have := AllRight.exec hin (fits_arg hp) (p.length + 1) (stOf r) ⟨h0, h1, fun v hv => by cases hv⟩
  exact ⟨this.1, this.2.1⟩
theorem each_right {p : List Ins} (hp : Co.fitsI p = true) : ∀ (l : List Val) (r : Res), rightV r.c0 = true → rightV r.c1 = true → l.all rightV = true → rightV (each p r l).c0 = true ∧ rightV (each p r l).c1 = true
  | [], r, h0, h1, _ => ⟨h0, h1⟩
  | v :: l, r, h0, h1, hl => by
    rw [List.all_cons, Bool.and_eq_true] at hl
    have := go_right hp h0 h1 hl.1
    exact each_right hp l (go p r v) this.1 this.2 hl.2

/-! ### bounds -/
theorem setCellAt_steps (s a v) : (setCellAt s a v).steps = s.steps ∧ (setCellAt s a v).out = s.out := by unfold setCellAt; split <;> exact ⟨rfl, rfl⟩
theorem emit1_out (s v) : (emit1 s v).out.length = s.out.length + 1 := by unfold emit1; simp
theorem effect_bounds (inp : Val) (i : Ins) (s : St) : (effect inp i s).steps = s.steps ∧ (effect inp i s).out.length ≤ s.out.length + 1 := by
  unfold Vm.effect
  have P0 : ∀ t : St, t.steps = s.steps → t.out = s.out → t.steps = s.steps ∧ t.out.length ≤ s.out.length + 1 := fun t h1 h2 => ⟨h1, by rw [h2]; omega⟩
  refine ite_all (P := fun t : St => t.steps = s.steps ∧ t.out.length ≤ s.out.length + 1) (P0 _ rfl rfl) ?_
  refine ite_all (P := fun t : St => t.steps = s.steps ∧ t.out.length ≤ s.out.length + 1) (P0 _ rfl rfl) ?_
  refine ite_all (P := fun t : St => t.steps = s.steps ∧ t.out.length ≤ s.out.length + 1) (P0 _ rfl rfl) ?_
  refine ite_all (P := fun t : St => t.steps = s.steps ∧ t.out.length ≤ s.out.length + 1) (P0 _ rfl rfl) ?_
  refine ite_all (P := fun t : St => t.steps = s.steps ∧ t.out.length ≤ s.out.length + 1) (P0 _ (setCellAt_steps ..).1 (setCellAt_steps ..).2) ?_
  refine ite_all (P := fun t : St => t.steps = s.steps ∧ t.out.length ≤ s.out.length + 1) (ite_all (P := fun t : St => t.steps = s.steps ∧ t.out.length ≤ s.out.length + 1) (P0 _ rfl rfl) (P0 _ rfl rfl)) ?_
  refine ite_all (P := fun t : St => t.steps = s.steps ∧ t.out.length ≤ s.out.length + 1) (P0 _ rfl rfl) ?_
  refine ite_all (P := fun t : St => t.steps = s.steps ∧ t.out.length ≤ s.out.length + 1) (P0 _ rfl rfl) ?_
  refine ite_all (P := fun t : St => t.steps = s.steps ∧ t.out.length ≤ s.out.length + 1) (P0 _ rfl rfl) ?_
  refine ite_all (P := fun t : St => t.steps = s.steps ∧ t.out.length ≤ s.out.length + 1) (P0 _ rfl rfl) ?_
  refine ite_all (P := fun t : St => t.steps = s.steps ∧ t.out.length ≤ s.out.length + 1) (P0 _ rfl rfl) ?_
  refine ite_all (P := fun t : St => t.steps = s.steps ∧ t.out.length ≤ s.out.length + 1) (P0 _ rfl rfl) ?_
  refine ite_all (P := fun t : St => t.steps = s.steps ∧ t.out.length ≤ s.out.length + 1) ⟨rfl, by rw [emit1_out]; exact Nat.le_refl _⟩ (P0 _ rfl rfl)
theorem exec_bounds {p : List Ins} {inp : Val} : ∀ (f : Nat) (s : St), s.steps ≤ (exec p inp f s).steps ∧ (exec p inp f s).steps ≤ s.steps + f ∧ (exec p inp f s).out.length ≤ s.out.length + f
  | 0, s => ⟨Int.le_refl _, by rw [exec]; omega, by rw [exec]; omega⟩
  | f + 1, s => by
    rw [exec]
    have e1 : (fetch s).steps = s.steps + 1 := rfl
    have e2 : (fetch s).out = s.out := rfl
    cases e : p[s.pc]? with
    | none => simp only; omega
    | some i =>
      simp only
      split
      · rw [e1, e2]; omega
      · have hb := effect_bounds inp i (fetch s)
        rw [e1, e2] at hb
        have hx := exec_bounds (p := p) (inp := inp) f (effect inp i (fetch s))
        omega
theorem go_bounds (p : List Ins) (r : Res) (inp : Val) : r.steps ≤ (go p r inp).steps ∧ (go p r inp).steps ≤ r.steps + (p.length + 1) ∧ (go p r inp).out.length ≤ r.out.length + (p.length + 1) := by
  have := exec_bounds (p := p) (inp := inp) (p.length + 1) (stOf r)
  unfold go
  exact ⟨this.1, by have := this.2.1; simpa [stOf, resOf] using this, this.2.2⟩
theorem each_bounds {p : List Ins} (hp : p.length ≤ 24) : ∀ (l : List Val) (r : Res), r.steps ≤ (each p r l).steps ∧ (each p r l).steps ≤ r.steps + 25 * l.length ∧ (each p r l).out.length ≤ r.out.length + 25 * l.length
  | [], r => ⟨Int.le_refl _, by show r.steps ≤ _; simp, Nat.le_refl _⟩
  | v :: l, r => by
    have h1 := go_bounds p r v
    have h2 := each_bounds hp l (go p r v)
    have e : each p r (v :: l) = each p (go p r v) l := rfl
    rw [e, List.length_cons]
    omega
end Vm

/-! What holds at each round of a run. -/
namespace Vm
set_option linter.unusedSimpArgs false
set_option linter.unusedVariables false
open Ga

theorem goC_inv {p : List Ins} {c : Cst} : ∀ (l : List Ins) (k : Nat) (s : Cst), goC p l k s = some c → Inv s → Inv c
  | [], _, s, h, hi => by cases h; exact hi
  | i :: l, k, s, h, hi => by
    rw [goC] at h
    split at h
    · rename_i hk
      split at h
      · exact goC_inv l _ _ h (hi.step hk)
      · cases h
    · exact goC_inv l _ _ h hi
theorem checkC_inv {p : List Ins} {c : Cst} (h : checkC p = some c) : Inv c := by
  unfold checkC at h
  split at h
  · exact goC_inv p 0 _ h (Inv.start _)
  · cases h
theorem checkC_fits {p : List Ins} {c : Cst} (h : checkC p = some c) : Co.fitsI p = true := by
  unfold checkC at h
  split at h
  · assumption
  · cases h

theorem eff15 (inp : Val) (a : Int) (s : St) : effect inp (15, a) s = if zeroV (top1 s) then jump1 (pop1 s) a else pop1 s := rfl
/-- At each fetch. -/
structure At (l : List Ins) (c : Cst) (inp : Val) (s0 : St) (st : St) : Prop where
  dn : done l inp st = done l inp s0
  gd : Good l c st
  ot : st.out.length ≤ s0.out.length + st.pc
  s1 : s0.steps ≤ st.steps
  s2 : st.steps ≤ s0.steps + st.pc
  pc : st.pc ≤ 48
theorem At.len {l : List Ins} {c : Cst} (hc : checkC l = some c) {inp : Val} {s0 st : St} (h : At l c inp s0 st) (hp : st.pc < l.length) : st.stack.length ≤ 8 := by
  have h1 := h.gd hp
  have h2 := (checkC_inv hc).1 st.pc
  omega
theorem right_parts' {l : List Ins} {c : Cst} (hc : checkC l = some c) {k : Nat} {x a : Int} (hi : l[k]? = some (x, a)) : 0 ≤ x ∧ x ≤ 17 ∧ -524288 ≤ a ∧ a ≤ 524287 ∧ (x = 15 ∨ x = 16 → 1 ≤ a ∧ a ≤ 24) ∧ (x = 4 ∨ x = 5 → a = 0 ∨ a = 1) := by
  have hf := checkC_fits hc
  have h := (Co.fits_parts hf).2 _ (List.mem_of_getElem? hi)
  unfold Co.rightI Co.lo Co.hi at h
  simp only [Bool.and_eq_true, decide_eq_true_eq] at h
  grind
theorem At.next {l : List Ins} {c : Cst} (hc : checkC l = some c) {inp : Val} {s0 st : St} (h : At l c inp s0 st) {x a : Int} (hi : l[st.pc]? = some (x, a)) (hx : x ≠ 0) :
    takes x ≤ st.stack.length ∧ At l c inp s0 (effect inp (x, a) (fetch st)) ∧ st.pc < (effect inp (x, a) (fetch st)).pc := by
  have hf := checkC_fits hc
  obtain ⟨r0, r1, r2, r3, r4, r5⟩ := right_parts' hc hi
  have hlt : st.pc < l.length := (List.getElem?_eq_some_iff.1 hi).1
  have h24 := (Co.fits_parts hf).1
  obtain ⟨g1, g2⟩ := good_effect hc h.gd hi ⟨by omega, r1⟩ inp
  have hpc := effect_pc (s := fetch st) (a := a) ⟨show 1 ≤ x by omega, r1⟩ inp
  have hgt := effect_gt (p := l) (s := st) (a := a) ⟨show 1 ≤ x by omega, r1⟩ inp
  have hb := effect_bounds inp (x, a) (fetch st)
  have e1 : (fetch st).steps = st.steps + 1 := rfl
  have e2 : (fetch st).out = st.out := rfl
  have e3 : (fetch st).pc = st.pc + 1 := rfl
  rw [e1, e2] at hb
  rw [e3] at hpc
  have hle : (effect inp (x, a) (fetch st)).pc ≤ st.pc + 25 := by
    rw [hpc]
    by_cases h16 : x = 16
    · have := r4 (.inr h16); rw [if_pos h16]; omega
    · by_cases h15 : x = 15
      · have := r4 (.inl h15); rw [if_neg h16, if_pos h15]; split <;> omega
      · rw [if_neg h16, if_neg h15]; omega
  have := h.ot
  have := h.s1
  have := h.s2
  exact ⟨g1, ⟨(done_step (fits_op hf) hi hx).symm.trans h.dn, g2, by omega, by omega, by omega, by omega⟩, hgt⟩
end Vm

/-! One input after the other: what the law says. -/
namespace Vm
set_option linter.unusedSimpArgs false
set_option linter.unusedVariables false
open Ga
theorem safe_fits {l : List Ins} (h : safe l = true) : Co.fitsI l = true := by
  unfold safe at h
  obtain ⟨c, hc⟩ := Option.isSome_iff_exists.1 h
  exact checkC_fits hc
def codeOf (l : List Ins) (c0 c1 : Val) (ins : List Val) : Int := if safe l = false then 9 else if ([c0, c1].all rightV && ins.all rightV) = false then 1 else 0
/-- what holds before input k -/
def Upto (l : List Ins) (c0 c1 : Val) (ins : List Val) (k : Nat) : Prop := 0 < k → safe l = true ∧ ([c0, c1].all rightV) = true ∧ (ins.take k).all rightV = true
theorem codeOf_zero {l : List Ins} {c0 c1 : Val} {ins : List Val} : codeOf l c0 c1 ins = 0 ↔ safe l = true ∧ ([c0, c1].all rightV) = true ∧ ins.all rightV = true := by
  unfold codeOf
  cases safe l <;> cases ([c0, c1].all rightV) <;> cases (ins.all rightV) <;> simp
/-! the document's example -/
def exP : List Ins := [(3, 0), (4, 0), (6, 0), (11, 0), (5, 0), (14, 0)]
end Vm

/-! A program that runs for a record, on what is kept: plain laws. -/
namespace Go.Proofs.YtmdmbimfdpngaaaGreatDoor
set_option linter.unusedSimpArgs false
set_option linter.unusedVariables false
open Go.RowKit Ga
set_option maxRecDepth 100000

abbrev zer : Val × Val := ((0, 0), (0, 0))
/-- what a program makes of two cells and a value -/
def runC (p : List Val) (c : Val × Val) (v : Val) : Vm.Res := Vm.each p ⟨[], c.1, c.2, 0⟩ [v]
/-- the code, what is put out, what is kept then -/
def runT (m : List Tab.En) (nd : Int) (p : List Val) (ky : Int) (v : Val) : Int × List Val × List Tab.En :=
  if (thereB nd ky && (thereB 0 ky && rightV v)) = false then (1, [], m)
  else if Vm.safe p = false then (9, [], m)
  else (0, (runC p (getT m nd ky) v).out, Tab.setT m ⟨nd, ky, (runC p (getT m nd ky) v).c0, (runC p (getT m nd ky) v).c1⟩)
theorem zer_right : rightV ((0, 0) : Val) = true := Vm.right_of (by decide) (by decide)
theorem getT_right {m : List Tab.En} (h : OkT m) (n k : Int) : rightV (getT m n k).1 = true ∧ rightV (getT m n k).2 = true := by
  rcases getT_cases m n k with ⟨x, hx, _, e⟩ | ⟨_, e⟩
  · rw [e]
    have := h.ok x hx
    unfold okEn at this
    simp only [Bool.and_eq_true] at this
    exact this.2
  · rw [e]
    exact ⟨zer_right, zer_right⟩
theorem runC_right {p : List Val} (hs : Vm.safe p = true) {c : Val × Val} (h0 : rightV c.1 = true) (h1 : rightV c.2 = true) {v : Val} (hv : rightV v = true) : rightV (runC p c v).c0 = true ∧ rightV (runC p c v).c1 = true := by
  unfold runC
  exact Vm.each_right (Vm.safe_fits hs) [v] _ h0 h1 (by simp [hv])
theorem runT_code (m : List Tab.En) (nd : Int) (p : List Val) (ky : Int) (v : Val) : (runT m nd p ky v).1 = if (thereB nd ky && (thereB 0 ky && rightV v)) = false then 1 else if Vm.safe p = false then 9 else 0 := by
  unfold runT
  split
  · rfl
  · split <;> rfl
theorem runT_ok {m : List Tab.En} (h : OkT m) (nd : Int) (p : List Val) (ky : Int) (v : Val) : OkT (runT m nd p ky v).2.2 := by
  unfold runT
  split
  · exact h
  · rename_i h1
    split
    · exact h
    · rename_i h2
      refine h.set ?_
      simp only [Bool.not_eq_false, Bool.and_eq_true] at h1 h2
      obtain ⟨r0, r1⟩ := getT_right h nd ky
      obtain ⟨q0, q1⟩ := runC_right h2 r0 r1 h1.2.2
      unfold okEn
      rw [h1.1, q0, q1]
      rfl
/-- what is kept at another place stays -/
theorem runT_other {m : List Tab.En} (h : OkT m) {nd : Int} {p : List Val} {ky : Int} {v : Val} {n k : Int} (hne : nd * 64 + ky ≠ n * 64 + k) : getT (runT m nd p ky v).2.2 n k = getT m n k := by
  unfold runT
  split
  · rfl
  · split
    · rfl
    · simp only
      rw [getT_set h.un]
      exact if_neg hne
theorem runT_self {m : List Tab.En} (h : OkT m) {nd : Int} {p : List Val} {ky : Int} {v : Val} (h0 : (runT m nd p ky v).1 = 0) : getT (runT m nd p ky v).2.2 nd ky = ((runC p (getT m nd ky) v).c0, (runC p (getT m nd ky) v).c1) ∧ (runT m nd p ky v).2.1 = (runC p (getT m nd ky) v).out := by
  unfold runT at h0 ⊢
  split
  · rw [if_pos (by assumption)] at h0; cases h0
  · rw [if_neg (by assumption)] at h0
    split
    · rw [if_pos (by assumption)] at h0; cases h0
    · simp only
      rw [getT_set h.un]
      exact ⟨if_pos rfl, trivial⟩
theorem runT_bad {m : List Tab.En} {nd : Int} {p : List Val} {ky : Int} {v : Val} (h0 : (runT m nd p ky v).1 ≠ 0) : (runT m nd p ky v).2 = ([], m) := by
  unfold runT at h0 ⊢
  split
  · rfl
  · rw [if_neg (by assumption)] at h0
    split
    · rfl
    · rw [if_neg (by assumption)] at h0
      exact absurd rfl h0
end Go.Proofs.YtmdmbimfdpngaaaGreatDoor

/-! vm: values that may not be. -/
namespace Go.Proofs.YtmdmbimfdpngaaaGreatDoor
set_option linter.unusedSimpArgs false
set_option linter.unusedVariables false
open Go.RowKit Ga
set_option maxRecDepth 100000

theorem wrong_any (x y : Int) (w : World) : Calls Tryz.prog 125 #[.agg #[.int .i64 x, .int .i64 y]] w (Gives (.bool (!rightV (x, y))) w) := by
  go_enter Tryz.func125, Tryz.ntmps125
  go_wp2_with (go_at_call 53; refine (right_any (x, y) _).mono ?_; rintro e w1 ⟨rfl, R2, n2, rfl⟩)
  go_ret
  refine ⟨rfl, ?_⟩
  repeat (first | with_reducible exact Grew.refl _ | apply Grew.more | apply Grew.alloc | apply Grew.drew | apply Grew.drewN)

set_option maxHeartbeats 1000000 in
/-- .. where the first wrong value stands. -/
theorem indexWrongV_any (v : Value) (l : List Val) (w : World) (hv : ValsAt w v l) :
    Calls Tryz.prog 167 #[v, .func (.func 125) #[] #[]] w fun e w' => ∃ k : Int, e = .returned (.int .i64 k) ∧ decide (0 ≤ k) = !l.all rightV ∧ Grew w w' := by
  obtain ⟨a, cap, rfl, hm, hl⟩ := hv.open2
  go_enter Tryz.func167, Tryz.ntmps167
  go_wp2
  go_loopw [8] (fun i wr => ∃ (k : Nat), k ≤ l.length ∧ i = .int .i64 k ∧ (l.take k).all rightV = true ∧ Grew w wr) (fun i _ => l.length - (intOf i).toNat)
  case atStart => exact ⟨0, Nat.zero_le _, rfl, rfl, Grew.refl _⟩
  case round =>
    obtain ⟨k, hk, rfl, hall, R, n, rfl⟩ := hrel
    have HA := Lib.hid hall
    clear hall
    by_cases hlt : k < l.length
    · obtain ⟨b, off, rfl, hb, hx, hy⟩ := hl k hlt
      have hs := take_all_succ (p := rightV) hlt HA.out
      have hf := all_false_at (p := rightV) hlt
      generalize l[k] = xy at *
      obtain ⟨x, y⟩ := xy
      cases hr : rightV (x, y)
      all_goals
        have HS := Lib.hid hs
        have HF := Lib.hid hf
        have HR := Lib.hid hr
        clear hs hl hf hr
        simp only at hx hy
        go_wp2_with (go_at_call 125; refine (wrong_any _ _ _).mono ?_; rintro e w1 ⟨rfl, R3, n3, rfl⟩; rw [HR.out])
      · go_ret
        refine ⟨k, rfl, ?_, ?_⟩
        · rw [HF.out HR.out]; simp
        · repeat (first | with_reducible exact Grew.refl _ | apply Grew.more | apply Grew.alloc | apply Grew.drew | apply Grew.drewN)
      · go_roundw
        case rel => exact ⟨k + 1, by omega, by go_num, HS.out HR.out, by repeat (first | with_reducible exact Grew.refl _ | apply Grew.more | apply Grew.alloc | apply Grew.drew | apply Grew.drewN)⟩
        case measure => first | (simp [intOf]; done) | (simp [intOf]; omega)
    · obtain rfl : k = l.length := by omega
      have hz := HA.out
      rw [List.take_length] at hz
      have HZ := Lib.hid hz
      clear hz hl HA
      go_wp2
      go_ret
      refine ⟨-1, rfl, ?_, ?_⟩
      · rw [HZ.out]; rfl
      · repeat (first | with_reducible exact Grew.refl _ | apply Grew.more | apply Grew.alloc | apply Grew.drew | apply Grew.drewN)

theorem containsWrongV_any (v : Value) (l : List Val) (w : World) (hv : ValsAt w v l) :
    Calls Tryz.prog 124 #[v, .func (.func 125) #[] #[]] w (Gives (.bool (!l.all rightV)) w) := by
  have HV := Lib.hid hv
  clear hv
  go_enter Tryz.func124, Tryz.ntmps124
  go_wp2_with (go_at_call 167; refine (indexWrongV_any _ l _ HV.out).mono ?_; rintro e w1 ⟨k, rfl, hk, R3, n3, rfl⟩; (have HK := Lib.hid hk); clear hk)
  go_ret
  refine ⟨ret_bool HK.out, ?_⟩
  repeat (first | with_reducible exact Grew.refl _ | apply Grew.more | apply Grew.alloc | apply Grew.drew | apply Grew.drewN)

end Go.Proofs.YtmdmbimfdpngaaaGreatDoor

/-! forebayref06.Same. -/
namespace Go.Proofs.YtmdmbimfdpngaaaGreatDoor
set_option linter.unusedSimpArgs false
set_option linter.unusedVariables false
open Go.RowKit Ga
set_option maxRecDepth 100000

end Go.Proofs.YtmdmbimfdpngaaaGreatDoor
