import Derived.Test.YtangapokicnfgaaGreatMq5
import Derived.Test.YtangapokicnfgaaGreatMq18
/-! Right values stay right while a program runs. -/
namespace Vm
set_option linter.unusedSimpArgs false
set_option linter.unusedVariables false
open Ga

theorem right_of {x y : Int} (hx : -524288 ≤ x ∧ x < 524288) (hy : -524288 ≤ y ∧ y < 524288) : rightV (x, y) = true := by
  unfold rightV; simp only [into_id hx, into_id hy, decide_true, Bool.and_self]
theorem right_into (x y : Int) : rightV (into x, into y) = true := right_of (into_range x) (into_range y)
theorem right_two (op : Int) (x y : Val) : rightV (two op x y) = true := by
  unfold two addV subV mulV
  (repeat' split) <;> first | exact right_into _ _ | exact right_of (by decide) (by decide)
def AllRight (s : St) : Prop := rightV s.c0 = true ∧ rightV s.c1 = true ∧ ∀ v ∈ s.stack, rightV v = true
theorem AllRight.push {s : St} (h : AllRight s) {v : Val} (hv : rightV v = true) : AllRight (push1 s v) := by
  refine ⟨h.1, h.2.1, fun u hu => ?_⟩
  rcases List.mem_append.1 hu with e | e
  · exact h.2.2 u e
  · rw [List.mem_singleton] at e; rw [e]; exact hv
theorem AllRight.pop {s : St} (h : AllRight s) : AllRight (pop1 s) :=
  ⟨h.1, h.2.1, fun u hu => h.2.2 u (List.dropLast_subset _ hu)⟩
theorem AllRight.top {s : St} (h : AllRight s) : rightV (top1 s) = true := by
  unfold top1
  rw [List.getLastD_eq_getLast?]
  cases e : s.stack.getLast? with
  | none => exact right_of (by decide) (by decide)
  | some v => exact h.2.2 v (List.mem_of_getLast? e)
theorem AllRight.cell {s : St} (h : AllRight s) (a : Int) : rightV (cellAt s a) = true := by
  unfold cellAt; split
  · exact h.1
  · exact h.2.1
theorem AllRight.setCell {s : St} (h : AllRight s) (a : Int) {v : Val} (hv : rightV v = true) : AllRight (setCellAt s a v) := by
  unfold setCellAt; split
  · exact ⟨hv, h.2.1, h.2.2⟩
  · exact ⟨h.1, hv, h.2.2⟩
theorem AllRight.jump {s : St} (h : AllRight s) (k : Int) : AllRight (jump1 s k) := h
theorem AllRight.emit {s : St} (h : AllRight s) (v : Val) : AllRight (emit1 s v) := h
theorem AllRight.fetch {s : St} (h : AllRight s) : AllRight (fetch s) := h
theorem ite_all {α : Type} {P : α → Prop} {c : Prop} [Decidable c] {a b : α} (ha : P a) (hb : P b) : P (if c then a else b) := by
  by_cases h : c
  · rw [if_pos h]; exact ha
  · rw [if_neg h]; exact hb
theorem AllRight.effect {s : St} (h : AllRight s) {inp : Val} (hin : rightV inp = true) {i : Ins} (hi : -524288 ≤ i.2 ∧ i.2 < 524288) : AllRight (effect inp i s) := by
  unfold Vm.effect
  refine ite_all (P := AllRight) (h.push (right_of hi (by decide))) ?_
  refine ite_all (P := AllRight) (h.push (right_of (by decide) hi)) ?_
  refine ite_all (P := AllRight) (h.push hin) ?_
  refine ite_all (P := AllRight) (h.push (h.cell _)) ?_
  refine ite_all (P := AllRight) (h.pop.setCell _ h.top) ?_
  refine ite_all (P := AllRight) (ite_all (P := AllRight) (h.pop.jump _) h.pop) ?_
  refine ite_all (P := AllRight) (h.jump _) ?_
  refine ite_all (P := AllRight) (h.pop.pop.push (right_two _ _ _)) ?_
  refine ite_all (P := AllRight) (h.pop.push (right_into _ _)) ?_
  refine ite_all (P := AllRight) (h.pop.push (right_into _ _)) ?_
  refine ite_all (P := AllRight) ((h.pop.push h.top).push h.top) ?_
  refine ite_all (P := AllRight) ((h.pop.pop.push h.top).push h.pop.top) ?_
  exact ite_all (P := AllRight) (h.pop.emit _) h.pop
theorem AllRight.exec {p : List Ins} {inp : Val} (hin : rightV inp = true) (hp : ∀ i ∈ p, -524288 ≤ i.2 ∧ i.2 < 524288) : ∀ (f : Nat) (s : St), AllRight s → AllRight (Vm.exec p inp f s)
  | 0, s, h => h
  | f + 1, s, h => by
    rw [Vm.exec]
    cases e : p[s.pc]? with
    | none => exact h
    | some i =>
      simp only
      split
      · exact h.fetch
      · exact AllRight.exec hin hp f _ (h.fetch.effect hin (hp i (List.mem_of_getElem? e)))
theorem fits_arg {p : List Ins} (h : Co.fitsI p = true) : ∀ i ∈ p, -524288 ≤ i.2 ∧ i.2 < 524288 := by
  intro i hi
  unfold Co.fitsI at h
  rw [Bool.and_eq_true] at h
  have h2 := List.all_eq_true.1 h.2 i hi
  unfold Co.rightI at h2
  simp only [Bool.and_eq_true, decide_eq_true_eq] at h2
  obtain ⟨⟨_, h3⟩, h4⟩ := h2
  unfold Co.lo at h3
  unfold Co.hi at h4
  constructor
  · have : -524288 ≤ (if i.1 = 1 ∨ i.1 = 2 then (-524288 : Int) else if i.1 = 15 ∨ i.1 = 16 then 1 else 0) := by (repeat' split) <;> omega
    omega
  · have : (if i.1 = 1 ∨ i.1 = 2 then (524287 : Int) else if i.1 = 4 ∨ i.1 = 5 then 1 else if i.1 = 15 ∨ i.1 = 16 then 24 else 0) < 524288 := by (repeat' split) <;> omega
    omega

/-! ### each step leads on, so that as many rounds as the program is long are enough -/
theorem effect_gt {p : List Ins} {s : St} {o a : Int} (ho : 1 ≤ o ∧ o ≤ 17) (inp : Val) : s.pc < (effect inp (o, a) (fetch s)).pc := by
  rw [effect_pc ho, fetch_pc]
  repeat' split
  all_goals omega
theorem exec_enough {p : List Ins} (hp : ∀ i ∈ p, 0 ≤ i.1 ∧ i.1 ≤ 17) {inp : Val} : ∀ (f : Nat) (s : St), p.length - s.pc < f → exec p inp (f + 1) s = exec p inp f s
  | 0, s, h => absurd h (Nat.not_lt_zero _)
  | f + 1, s, h => by
    rw [exec, exec]
    cases e : p[s.pc]? with
    | none => rfl
    | some i =>
      obtain ⟨o, a⟩ := i
      simp only
      split
      · rfl
      · rename_i h0
        have hm := hp _ (List.mem_of_getElem? e)
        simp only at hm
        have hlt : s.pc < p.length := (List.getElem?_eq_some_iff.1 e).1
        have hg := effect_gt (p := p) (s := s) (o := o) (a := a) (by omega) inp
        exact exec_enough hp f _ (by omega)
theorem fits_op {p : List Ins} (h : Co.fitsI p = true) : ∀ i ∈ p, 0 ≤ i.1 ∧ i.1 ≤ 17 := by
  intro i hi
  unfold Co.fitsI at h
  rw [Bool.and_eq_true] at h
  have h2 := List.all_eq_true.1 h.2 i hi
  unfold Co.rightI at h2
  simp only [Bool.and_eq_true, decide_eq_true_eq] at h2
  omega
/-- where it ends -/
def done (p : List Ins) (inp : Val) (s : St) : St := exec p inp (p.length + 1) s
theorem done_none {p : List Ins} {inp : Val} {s : St} (h : p.length ≤ s.pc) : done p inp s = s := by
  unfold done; rw [exec, List.getElem?_eq_none h]
theorem done_halt {p : List Ins} {inp : Val} {s : St} {i : Ins} (h : p[s.pc]? = some i) (h0 : i.1 = 0) : done p inp s = fetch s := by
  unfold done; rw [exec, h]; exact if_pos h0
theorem done_step {p : List Ins} (hp : ∀ i ∈ p, 0 ≤ i.1 ∧ i.1 ≤ 17) {inp : Val} {s : St} {i : Ins} (h : p[s.pc]? = some i) (h0 : i.1 ≠ 0) : done p inp s = done p inp (effect inp i (fetch s)) := by
  obtain ⟨o, a⟩ := i
  have hm := hp _ (List.mem_of_getElem? h)
  simp only at hm h0
  have hlt : s.pc < p.length := (List.getElem?_eq_some_iff.1 h).1
  have hg := effect_gt (p := p) (s := s) (o := o) (a := a) (by omega) inp
  have e1 : done p inp s = exec p inp p.length (effect inp (o, a) (fetch s)) := by
    unfold done; rw [exec, h]; exact if_neg h0
  rw [e1]
  exact (exec_enough hp _ _ (by omega)).symm

/-! ### one input after the other -/
structure Res where
  out : List Val
  c0 : Val
  c1 : Val
  steps : Int
def stOf (r : Res) : St := ⟨r.out, r.c0, r.c1, r.steps, 0, []⟩
def resOf (s : St) : Res := ⟨s.out, s.c0, s.c1, s.steps⟩
def go (p : List Ins) (r : Res) (inp : Val) : Res := resOf (exec p inp (p.length + 1) (stOf r))
def each (p : List Ins) (r : Res) (l : List Val) : Res := l.foldl (go p) r
theorem go_alone (p : List Ins) (r : Res) (inp : Val) :
    go p r inp = ⟨r.out ++ (go p ⟨[], r.c0, r.c1, 0⟩ inp).out, (go p ⟨[], r.c0, r.c1, 0⟩ inp).c0, (go p ⟨[], r.c0, r.c1, 0⟩ inp).c1, r.steps + (go p ⟨[], r.c0, r.c1, 0⟩ inp).steps⟩ := by
  have e : stOf r = carry r.out r.steps (stOf ⟨[], r.c0, r.c1, 0⟩) := by
    unfold stOf carry; simp
  unfold go
  rw [e, exec_carry]
  rfl
theorem each_succ (p : List Ins) (r : Res) (l : List Val) (k : Nat) (h : k < l.length) : each p r (l.take (k + 1)) = go p (each p r (l.take k)) l[k] := by
  unfold each
  rw [List.take_succ_eq_append_getElem h, List.foldl_append]; rfl
theorem go_right {p : List Ins} (hp : Co.fitsI p = true) {r : Res} (h0 : rightV r.c0 = true) (h1 : rightV r.c1 = true) {inp : Val} (hin : rightV inp = true) : rightV (go p r inp).c0 = true ∧ rightV (go p r inp).c1 = true := by
  have := AllRight.exec hin (fits_arg hp) (p.length + 1) (stOf r) ⟨h0, h1, fun v hv => by cases hv⟩
  exact ⟨this.1, this.2.1⟩
theorem each_right {p : List Ins} (hp : Co.fitsI p = true) : ∀ (l : List Val) (r : Res), rightV r.c0 = true → rightV r.c1 = true → l.all rightV = true → rightV (each p r l).c0 = true ∧ rightV (each p r l).c1 = true
  | [], r, h0, h1, _ => ⟨h0, h1⟩
  | v :: l, r, h0, h1, hl => by
    rw [List.all_cons, Bool.and_eq_true] at hl
    have := go_right hp h0 h1 hl.1
    exact each_right hp l (go p r v) this.1 this.2 hl.2

/-! ### bounds -/
theorem setCellAt_steps (s a v) : (setCellAt s a v).steps = s.steps ∧ (setCellAt s a v).out = s.out := by unfold setCellAt; split <;> exact ⟨rfl, rfl⟩
theorem emit1_out (s v) : (emit1 s v).out.length = s.out.length + 1 := by unfold emit1; simp
theorem effect_bounds (inp : Val) (i : Ins) (s : St) : (effect inp i s).steps = s.steps ∧ (effect inp i s).out.length ≤ s.out.length + 1 := by
  unfold Vm.effect
  have P0 : ∀ t : St, t.steps = s.steps → t.out = s.out → t.steps = s.steps ∧ t.out.length ≤ s.out.length + 1 := fun t h1 h2 => ⟨h1, by rw [h2]; omega⟩
  refine ite_all (P := fun t : St => t.steps = s.steps ∧ t.out.length ≤ s.out.length + 1) (P0 _ rfl rfl) ?_
  refine ite_all (P := fun t : St => t.steps = s.steps ∧ t.out.length ≤ s.out.length + 1) (P0 _ rfl rfl) ?_
  refine ite_all (P := fun t : St => t.steps = s.steps ∧ t.out.length ≤ s.out.length + 1) (P0 _ rfl rfl) ?_
  refine ite_all (P := fun t : St => t.steps = s.steps ∧ t.out.length ≤ s.out.length + 1) (P0 _ rfl rfl) ?_
  refine ite_all (P := fun t : St => t.steps = s.steps ∧ t.out.length ≤ s.out.length + 1) (P0 _ (setCellAt_steps ..).1 (setCellAt_steps ..).2) ?_
  refine ite_all (P := fun t : St => t.steps = s.steps ∧ t.out.length ≤ s.out.length + 1) (ite_all (P := fun t : St => t.steps = s.steps ∧ t.out.length ≤ s.out.length + 1) (P0 _ rfl rfl) (P0 _ rfl rfl)) ?_
  refine ite_all (P := fun t : St => t.steps = s.steps ∧ t.out.length ≤ s.out.length + 1) (P0 _ rfl rfl) ?_
  refine ite_all (P := fun t : St => t.steps = s.steps ∧ t.out.length ≤ s.out.length + 1) (P0 _ rfl rfl) ?_
  refine ite_all (P := fun t : St => t.steps = s.steps ∧ t.out.length ≤ s.out.length + 1) (P0 _ rfl rfl) ?_
  refine ite_all (P := fun t : St => t.steps = s.steps ∧ t.out.length ≤ s.out.length + 1) (P0 _ rfl rfl) ?_
  refine ite_all (P := fun t : St => t.steps = s.steps ∧ t.out.length ≤ s.out.length + 1) (P0 _ rfl rfl) ?_
  refine ite_all (P := fun t : St => t.steps = s.steps ∧ t.out.length ≤ s.out.length + 1) (P0 _ rfl rfl) ?_
  refine ite_all (P := fun t : St => t.steps = s.steps ∧ t.out.length ≤ s.out.length + 1) ⟨rfl, by rw [emit1_out]; exact Nat.le_refl _⟩ (P0 _ rfl rfl)
theorem exec_bounds {p : List Ins} {inp : Val} : ∀ (f : Nat) (s : St), s.steps ≤ (exec p inp f s).steps ∧ (exec p inp f s).steps ≤ s.steps + f ∧ (exec p inp f s).out.length ≤ s.out.length + f
  | 0, s => ⟨Int.le_refl _, by rw [exec]; omega, by rw [exec]; omega⟩
  | f + 1, s => by
    rw [exec]
    have e1 : (fetch s).steps = s.steps + 1 := rfl
    have e2 : (fetch s).out = s.out := rfl
    cases e : p[s.pc]? with
    | none => simp only; omega
    | some i =>
      simp only
      split
      · rw [e1, e2]; omega
      · have hb := effect_bounds inp i (fetch s)
        rw [e1, e2] at hb
        have hx := exec_bounds (p := p) (inp := inp) f (effect inp i (fetch s))
        omega
theorem go_bounds (p : List Ins) (r : Res) (inp : Val) : r.steps ≤ (go p r inp).steps ∧ (go p r inp).steps ≤ r.steps + (p.length + 1) ∧ (go p r inp).out.length ≤ r.out.length + (p.length + 1) := by
  have := exec_bounds (p := p) (inp := inp) (p.length + 1) (stOf r)
  unfold go
  exact ⟨this.1, by have := this.2.1; simpa [stOf, resOf] using this, this.2.2⟩
theorem each_bounds {p : List Ins} (hp : p.length ≤ 24) : ∀ (l : List Val) (r : Res), r.steps ≤ (each p r l).steps ∧ (each p r l).steps ≤ r.steps + 25 * l.length ∧ (each p r l).out.length ≤ r.out.length + 25 * l.length
  | [], r => ⟨Int.le_refl _, by show r.steps ≤ _; simp, Nat.le_refl _⟩
  | v :: l, r => by
    have h1 := go_bounds p r v
    have h2 := each_bounds hp l (go p r v)
    have e : each p r (v :: l) = each p (go p r v) l := rfl
    rw [e, List.length_cons]
    omega
end Vm

/-! What holds at each round of a run. -/
namespace Vm
set_option linter.unusedSimpArgs false
set_option linter.unusedVariables false
open Ga

theorem goC_inv {p : List Ins} {c : Cst} : ∀ (l : List Ins) (k : Nat) (s : Cst), goC p l k s = some c → Inv s → Inv c
  | [], _, s, h, hi => by cases h; exact hi
  | i :: l, k, s, h, hi => by
    rw [goC] at h
    split at h
    · rename_i hk
      split at h
      · exact goC_inv l _ _ h (hi.step hk)
      · cases h
    · exact goC_inv l _ _ h hi
theorem checkC_inv {p : List Ins} {c : Cst} (h : checkC p = some c) : Inv c := by
  unfold checkC at h
  split at h
  · exact goC_inv p 0 _ h (Inv.start _)
  · cases h
theorem checkC_fits {p : List Ins} {c : Cst} (h : checkC p = some c) : Co.fitsI p = true := by
  unfold checkC at h
  split at h
  · assumption
  · cases h

theorem eff1 (inp : Val) (a : Int) (s : St) : effect inp (1, a) s = push1 s (a, 0) := rfl
theorem eff2 (inp : Val) (a : Int) (s : St) : effect inp (2, a) s = push1 s (0, a) := rfl
theorem eff3 (inp : Val) (a : Int) (s : St) : effect inp (3, a) s = push1 s inp := rfl
theorem eff40 (inp : Val) (s : St) : effect inp (4, 0) s = push1 s s.c0 := rfl
theorem eff41 (inp : Val) (s : St) : effect inp (4, 1) s = push1 s s.c1 := rfl
theorem eff50 (inp : Val) (s : St) : effect inp (5, 0) s = { pop1 s with c0 := top1 s } := rfl
theorem eff51 (inp : Val) (s : St) : effect inp (5, 1) s = { pop1 s with c1 := top1 s } := rfl
theorem effT (inp : Val) (x a : Int) (s : St) (h : x = 6 ∨ x = 7 ∨ x = 8 ∨ x = 17) : effect inp (x, a) s = push1 (pop1 (pop1 s)) (two x (top1 (pop1 s)) (top1 s)) := by
  rcases h with rfl | rfl | rfl | rfl <;> rfl
theorem eff9 (inp : Val) (a : Int) (s : St) : effect inp (9, a) s = push1 (pop1 s) (conjV (top1 s)) := rfl
theorem eff10 (inp : Val) (a : Int) (s : St) : effect inp (10, a) s = push1 (pop1 s) (turnV (top1 s)) := rfl
theorem eff11 (inp : Val) (a : Int) (s : St) : effect inp (11, a) s = push1 (push1 (pop1 s) (top1 s)) (top1 s) := rfl
theorem eff12 (inp : Val) (a : Int) (s : St) : effect inp (12, a) s = push1 (push1 (pop1 (pop1 s)) (top1 s)) (top1 (pop1 s)) := rfl
theorem eff13 (inp : Val) (a : Int) (s : St) : effect inp (13, a) s = pop1 s := rfl
theorem eff14 (inp : Val) (a : Int) (s : St) : effect inp (14, a) s = emit1 (pop1 s) (top1 s) := rfl
theorem eff15 (inp : Val) (a : Int) (s : St) : effect inp (15, a) s = if zeroV (top1 s) then jump1 (pop1 s) a else pop1 s := rfl
theorem eff16 (inp : Val) (a : Int) (s : St) : effect inp (16, a) s = jump1 s a := rfl

/-- At each fetch. -/
structure At (l : List Ins) (c : Cst) (inp : Val) (s0 : St) (st : St) : Prop where
  dn : done l inp st = done l inp s0
  gd : Good l c st
  ot : st.out.length ≤ s0.out.length + st.pc
  s1 : s0.steps ≤ st.steps
  s2 : st.steps ≤ s0.steps + st.pc
  pc : st.pc ≤ 48
theorem At.len {l : List Ins} {c : Cst} (hc : checkC l = some c) {inp : Val} {s0 st : St} (h : At l c inp s0 st) (hp : st.pc < l.length) : st.stack.length ≤ 8 := by
  have h1 := h.gd hp
  have h2 := (checkC_inv hc).1 st.pc
  omega
theorem right_parts' {l : List Ins} {c : Cst} (hc : checkC l = some c) {k : Nat} {x a : Int} (hi : l[k]? = some (x, a)) : 0 ≤ x ∧ x ≤ 17 ∧ -524288 ≤ a ∧ a ≤ 524287 ∧ (x = 15 ∨ x = 16 → 1 ≤ a ∧ a ≤ 24) ∧ (x = 4 ∨ x = 5 → a = 0 ∨ a = 1) := by
  have hf := checkC_fits hc
  have h := (Co.fits_parts hf).2 _ (List.mem_of_getElem? hi)
  unfold Co.rightI Co.lo Co.hi at h
  simp only [Bool.and_eq_true, decide_eq_true_eq] at h
  grind
theorem At.next {l : List Ins} {c : Cst} (hc : checkC l = some c) {inp : Val} {s0 st : St} (h : At l c inp s0 st) {x a : Int} (hi : l[st.pc]? = some (x, a)) (hx : x ≠ 0) :
    takes x ≤ st.stack.length ∧ At l c inp s0 (effect inp (x, a) (fetch st)) ∧ st.pc < (effect inp (x, a) (fetch st)).pc := by
  have hf := checkC_fits hc
  obtain ⟨r0, r1, r2, r3, r4, r5⟩ := right_parts' hc hi
  have hlt : st.pc < l.length := (List.getElem?_eq_some_iff.1 hi).1
  have h24 := (Co.fits_parts hf).1
  obtain ⟨g1, g2⟩ := good_effect hc h.gd hi ⟨by omega, r1⟩ inp
  have hpc := effect_pc (s := fetch st) (a := a) ⟨show 1 ≤ x by omega, r1⟩ inp
  have hgt := effect_gt (p := l) (s := st) (a := a) ⟨show 1 ≤ x by omega, r1⟩ inp
  have hb := effect_bounds inp (x, a) (fetch st)
  have e1 : (fetch st).steps = st.steps + 1 := rfl
  have e2 : (fetch st).out = st.out := rfl
  have e3 : (fetch st).pc = st.pc + 1 := rfl
  rw [e1, e2] at hb
  rw [e3] at hpc
  have hle : (effect inp (x, a) (fetch st)).pc ≤ st.pc + 25 := by
    rw [hpc]
    by_cases h16 : x = 16
    · have := r4 (.inr h16); rw [if_pos h16]; omega
    · by_cases h15 : x = 15
      · have := r4 (.inl h15); rw [if_neg h16, if_pos h15]; split <;> omega
      · rw [if_neg h16, if_neg h15]; omega
  have := h.ot
  have := h.s1
  have := h.s2
  exact ⟨g1, ⟨(done_step (fits_op hf) hi hx).symm.trans h.dn, g2, by omega, by omega, by omega, by omega⟩, hgt⟩
end Vm

/-! One input after the other: what the law says. -/
namespace Vm
set_option linter.unusedSimpArgs false
set_option linter.unusedVariables false
open Ga
def resAt (l : List Ins) (c0 c1 : Val) (ins : List Val) (k : Nat) : Res := each l ⟨[], c0, c1, 0⟩ (ins.take k)
theorem resAt_succ (l : List Ins) (c0 c1 : Val) (ins : List Val) (k : Nat) (h : k < ins.length) :
    resAt l c0 c1 ins (k + 1) = ⟨(resAt l c0 c1 ins k).out ++ (each l ⟨[], (resAt l c0 c1 ins k).c0, (resAt l c0 c1 ins k).c1, 0⟩ [ins[k]]).out, (each l ⟨[], (resAt l c0 c1 ins k).c0, (resAt l c0 c1 ins k).c1, 0⟩ [ins[k]]).c0, (each l ⟨[], (resAt l c0 c1 ins k).c0, (resAt l c0 c1 ins k).c1, 0⟩ [ins[k]]).c1, (resAt l c0 c1 ins k).steps + (each l ⟨[], (resAt l c0 c1 ins k).c0, (resAt l c0 c1 ins k).c1, 0⟩ [ins[k]]).steps⟩ := by
  unfold resAt
  rw [each_succ l _ ins k h, go_alone]
  rfl
theorem resAt_right {l : List Ins} (hf : Co.fitsI l = true) {c0 c1 : Val} (h : ([c0, c1].all rightV) = true) {ins : List Val} {k : Nat} (hk : (ins.take k).all rightV = true) : ([(resAt l c0 c1 ins k).c0, (resAt l c0 c1 ins k).c1].all rightV) = true := by
  simp only [List.all_cons, List.all_nil, Bool.and_true, Bool.and_eq_true] at h ⊢
  exact each_right hf (ins.take k) _ h.1 h.2 hk
theorem resAt_bounds {l : List Ins} (h24 : l.length ≤ 24) (c0 c1 : Val) (ins : List Val) (k : Nat) (hk : k ≤ ins.length) : (resAt l c0 c1 ins k).out.length ≤ 25 * k ∧ 0 ≤ (resAt l c0 c1 ins k).steps ∧ (resAt l c0 c1 ins k).steps ≤ 25 * k := by
  have h1 := each_bounds h24 (ins.take k) ⟨[], c0, c1, 0⟩
  rw [List.length_take_of_le hk] at h1
  unfold resAt
  have e2 : (⟨[], c0, c1, 0⟩ : Res).out.length = 0 := rfl
  have e1 : (⟨[], c0, c1, 0⟩ : Res).steps = 0 := rfl
  omega
theorem each1_bounds {l : List Ins} (h24 : l.length ≤ 24) (c0 c1 : Val) (v : Val) : (each l ⟨[], c0, c1, 0⟩ [v]).out.length ≤ 25 ∧ 0 ≤ (each l ⟨[], c0, c1, 0⟩ [v]).steps ∧ (each l ⟨[], c0, c1, 0⟩ [v]).steps ≤ 25 := by
  have h1 := each_bounds h24 [v] ⟨[], c0, c1, 0⟩
  have e2 : (⟨[], c0, c1, 0⟩ : Res).out.length = 0 := rfl
  have e1 : (⟨[], c0, c1, 0⟩ : Res).steps = 0 := rfl
  simp only [List.length_cons, List.length_nil] at h1
  omega
theorem safe_fits {l : List Ins} (h : safe l = true) : Co.fitsI l = true := by
  unfold safe at h
  obtain ⟨c, hc⟩ := Option.isSome_iff_exists.1 h
  exact checkC_fits hc
def codeOf (l : List Ins) (c0 c1 : Val) (ins : List Val) : Int := if safe l = false then 9 else if ([c0, c1].all rightV && ins.all rightV) = false then 1 else 0
/-- what holds before input k -/
def Upto (l : List Ins) (c0 c1 : Val) (ins : List Val) (k : Nat) : Prop := 0 < k → safe l = true ∧ ([c0, c1].all rightV) = true ∧ (ins.take k).all rightV = true
theorem codeOf_zero {l : List Ins} {c0 c1 : Val} {ins : List Val} : codeOf l c0 c1 ins = 0 ↔ safe l = true ∧ ([c0, c1].all rightV) = true ∧ ins.all rightV = true := by
  unfold codeOf
  cases safe l <;> cases ([c0, c1].all rightV) <;> cases (ins.all rightV) <;> simp
theorem take_all {ins : List Val} {k : Nat} (h : ins.all rightV = true) : (ins.take k).all rightV = true := by
  rw [List.all_eq_true] at h ⊢
  exact fun x hx => h x (List.mem_of_mem_take hx)
theorem code_bad {l : List Ins} {c0 c1 : Val} {ins : List Val} {k : Nat} (hk : k < ins.length) (h : codeOf l (resAt l c0 c1 ins k).c0 (resAt l c0 c1 ins k).c1 [ins[k]] ≠ 0) : codeOf l c0 c1 ins = codeOf l (resAt l c0 c1 ins k).c0 (resAt l c0 c1 ins k).c1 [ins[k]] := by
  by_cases hs : safe l = true
  · have h1 : codeOf l (resAt l c0 c1 ins k).c0 (resAt l c0 c1 ins k).c1 [ins[k]] = 1 := by
      unfold codeOf at h ⊢
      rw [if_neg (by rw [hs]; decide)] at h ⊢
      split at h
      · rename_i hr; rw [if_pos hr]
      · exact absurd rfl h
    rw [h1]
    unfold codeOf
    rw [if_neg (by rw [hs]; decide)]
    split
    · rfl
    · rename_i hr
      exfalso
      simp only [Bool.not_eq_false, Bool.and_eq_true] at hr
      refine h (codeOf_zero.2 ⟨hs, resAt_right (safe_fits hs) hr.1 (take_all hr.2), ?_⟩)
      rw [List.all_cons, List.all_nil, Bool.and_true]
      exact List.all_eq_true.1 hr.2 _ (List.getElem_mem hk)
  · have hs' : safe l = false := by simpa using hs
    unfold codeOf
    rw [if_pos hs', if_pos hs']
theorem upto_succ {l : List Ins} {c0 c1 : Val} {ins : List Val} {k : Nat} (hk : k < ins.length) (hu : Upto l c0 c1 ins k) (h : codeOf l (resAt l c0 c1 ins k).c0 (resAt l c0 c1 ins k).c1 [ins[k]] = 0) : Upto l c0 c1 ins (k + 1) := by
  intro _
  obtain ⟨h1, h2, h3⟩ := codeOf_zero.1 h
  rw [List.all_cons, List.all_nil, Bool.and_true] at h3
  refine ⟨h1, ?_, ?_⟩
  · rcases Nat.eq_zero_or_pos k with e | e
    · subst e; exact h2
    · exact (hu e).2.1
  · rw [List.take_succ_eq_append_getElem hk, List.all_append, List.all_cons, List.all_nil, Bool.and_true, h3, Bool.and_true]
    rcases Nat.eq_zero_or_pos k with e | e
    · subst e; rfl
    · exact (hu e).2.2
theorem code_end {l : List Ins} {c0 c1 : Val} {ins : List Val} (hu : Upto l c0 c1 ins ins.length) (h : codeOf l c0 c1 ins ≠ 0) : ins.length = 0 := by
  apply Classical.byContradiction
  intro hn
  obtain ⟨h1, h2, h3⟩ := hu (by omega)
  rw [List.take_length] at h3
  exact h (codeOf_zero.2 ⟨h1, h2, h3⟩)
/-! the document's example -/
def exP : List Ins := [(3, 0), (4, 0), (6, 0), (11, 0), (5, 0), (14, 0)]
theorem exP_safe : safe exP = true := by decide +kernel
theorem exP_each : each exP ⟨[], (0, 0), (0, 0), 0⟩ [(1, 0), (2, 0)] = ⟨[(1, 0), (3, 0)], (3, 0), (0, 0), 12⟩ := by
  have h : ((each exP ⟨[], (0, 0), (0, 0), 0⟩ [(1, 0), (2, 0)]).out = [(1, 0), (3, 0)] ∧ (each exP ⟨[], (0, 0), (0, 0), 0⟩ [(1, 0), (2, 0)]).c0 = (3, 0)) ∧ ((each exP ⟨[], (0, 0), (0, 0), 0⟩ [(1, 0), (2, 0)]).c1 = (0, 0) ∧ (each exP ⟨[], (0, 0), (0, 0), 0⟩ [(1, 0), (2, 0)]).steps = 12) := by decide +kernel
  generalize each exP ⟨[], (0, 0), (0, 0), 0⟩ [(1, 0), (2, 0)] = r at *
  obtain ⟨a, b, c, d⟩ := r
  obtain ⟨⟨h1, h2⟩, h3, h4⟩ := h
  simp only at h1 h2 h3 h4
  rw [h1, h2, h3, h4]
end Vm
