import Derived.Test.YtmdmbimfdpngaaaGreatDoorMc8
/-! Right values stay right while a program runs. -/
namespace Vm
set_option linter.unusedSimpArgs false
set_option linter.unusedVariables false
open Ga

theorem right_of {x y : Int} (hx : -524288 ≤ x ∧ x < 524288) (hy : -524288 ≤ y ∧ y < 524288) : rightV (x, y) = true := by
  unfold rightV; simp only [into_id hx, into_id hy, decide_true, Bool.and_self]
theorem right_into (x y : Int) : rightV (into x, into y) = true := right_of (into_range x) (into_range y)
theorem right_two (op : Int) (x y : Val) : rightV (two op x y) = true := by
  unfold two addV subV mulV
  (repeat' split) <;> first | exact right_into _ _ | exact right_of (by decide) (by decide)
def AllRight (s : St) : Prop := rightV s.c0 = true ∧ rightV s.c1 = true ∧ ∀ v ∈ s.stack, rightV v = true
theorem AllRight.push {s : St} (h : AllRight s) {v : Val} (hv : rightV v = true) : AllRight (push1 s v) := by
  refine ⟨h.1, h.2.1, fun u hu => ?_⟩
  rcases List.mem_append.1 hu with e | e
  · exact h.2.2 u e
  · rw [List.mem_singleton] at e; rw [e]; exact hv
theorem AllRight.pop {s : St} (h : AllRight s) : AllRight (pop1 s) :=
  ⟨h.1, h.2.1, fun u hu => h.2.2 u (List.dropLast_subset _ hu)⟩
theorem AllRight.top {s : St} (h : AllRight s) : rightV (top1 s) = true := by
  unfold top1
  rw [List.getLastD_eq_getLast?]
  cases e : s.stack.getLast? with
  | none => exact right_of (by decide) (by decide)
  | some v => exact h.2.2 v (List.mem_of_getLast? e)
theorem AllRight.cell {s : St} (h : AllRight s) (a : Int) : rightV (cellAt s a) = true := by
  unfold cellAt; split
  · exact h.1
  · exact h.2.1
theorem AllRight.setCell {s : St} (h : AllRight s) (a : Int) {v : Val} (hv : rightV v = true) : AllRight (setCellAt s a v) := by
  unfold setCellAt; split
  · exact ⟨hv, h.2.1, h.2.2⟩
  · exact ⟨h.1, hv, h.2.2⟩
theorem AllRight.jump {s : St} (h : AllRight s) (k : Int) : AllRight (jump1 s k) := h
theorem AllRight.emit {s : St} (h : AllRight s) (v : Val) : AllRight (emit1 s v) := h
theorem AllRight.fetch {s : St} (h : AllRight s) : AllRight (fetch s) := h
theorem ite_all {α : Type} {P : α → Prop} {c : Prop} [Decidable c] {a b : α} (ha : P a) (hb : P b) : P (if c then a else b) := by
  by_cases h : c
  · rw [if_pos h]; exact ha
  · rw [if_neg h]; exact hb
theorem AllRight.effect {s : St} (h : AllRight s) {inp : Val} (hin : rightV inp = true) {i : Ins} (hi : -524288 ≤ i.2 ∧ i.2 < 524288) : AllRight (effect inp i s) := by
  unfold Vm.effect
  refine ite_all (P := AllRight) (h.push (right_of hi (by decide))) ?_
  refine ite_all (P := AllRight) (h.push (right_of (by decide) hi)) ?_
  refine ite_all (P := AllRight) (h.push hin) ?_
  refine ite_all (P := AllRight) (h.push (h.cell _)) ?_
  refine ite_all (P := AllRight) (h.pop.setCell _ h.top) ?_
  refine ite_all (P := AllRight) (ite_all (P := AllRight) (h.pop.jump _) h.pop) ?_
  refine ite_all (P := AllRight) (h.jump _) ?_
  refine ite_all (P := AllRight) (h.pop.pop.push (right_two _ _ _)) ?_
  refine ite_all (P := AllRight) (h.pop.push (right_into _ _)) ?_
  refine ite_all (P := AllRight) (h.pop.push (right_into _ _)) ?_
  refine ite_all (P := AllRight) ((h.pop.push h.top).push h.top) ?_
  refine ite_all (P := AllRight) ((h.pop.pop.push h.top).push h.pop.top) ?_
  exact ite_all (P := AllRight) (h.pop.emit _) h.pop
theorem AllRight.exec {p : List Ins} {inp : Val} (hin : rightV inp = true) (hp : ∀ i ∈ p, -524288 ≤ i.2 ∧ i.2 < 524288) : ∀ (f : Nat) (s : St), AllRight s → AllRight (Vm.exec p inp f s)
  | 0, s, h => h
  | f + 1, s, h => by
    rw [Vm.exec]
    cases e : p[s.pc]? with
    | none => exact h
    | some i =>
      simp only
      split
      · exact h.fetch
      · exact AllRight.exec hin hp f _ (h.fetch.effect hin (hp i (List.mem_of_getElem? e)))
theorem fits_arg {p : List Ins} (h : Co.fitsI p = true) : ∀ i ∈ p, -524288 ≤ i.2 ∧ i.2 < 524288 := by
  intro i hi
  unfold Co.fitsI at h
  rw [Bool.and_eq_true] at h
  have h2 := List.all_eq_true.1 h.2 i hi
  unfold Co.rightI at h2
  simp only [Bool.and_eq_true, decide_eq_true_eq] at h2
  obtain ⟨⟨_, h3⟩, h4⟩ := h2
  unfold Co.lo at h3
  unfold Co.hi at h4
  constructor
  · have : -524288 ≤ (if i.1 = 1 ∨ i.1 = 2 then (-524288 : Int) else if i.1 = 15 ∨ i.1 = 16 then 1 else 0) := by (repeat' split) <;> omega
    omega
  · have : (if i.1 = 1 ∨ i.1 = 2 then (524287 : Int) else if i.1 = 4 ∨ i.1 = 5 then 1 else if i.1 = 15 ∨ i.1 = 16 then 24 else 0) < 524288 := by (repeat' split) <;> omega
    omega

/-! ### each step leads on, so that as many rounds as the program is long are enough -/
theorem effect_gt {p : List Ins} {s : St} {o a : Int} (ho : 1 ≤ o ∧ o ≤ 17) (inp : Val) : s.pc < (effect inp (o, a) (fetch s)).pc := by
  rw [effect_pc ho, fetch_pc]
  repeat' split
  all_goals omega
theorem exec_enough {p : List Ins} (hp : ∀ i ∈ p, 0 ≤ i.1 ∧ i.1 ≤ 17) {inp : Val} : ∀ (f : Nat) (s : St), p.length - s.pc < f → exec p inp (f + 1) s = exec p inp f s
  | 0, s, h => absurd h (Nat.not_lt_zero _)
  | f + 1, s, h => by
    rw [exec, exec]
    cases e : p[s.pc]? with
    | none => rfl
    | some i =>
      obtain ⟨o, a⟩ := i
      simp only
      split
      · rfl
      · rename_i h0
        have hm := hp _ (List.mem_of_getElem? e)
        simp only at hm
        have hlt : s.pc < p.length := (List.getElem?_eq_some_iff.1 e).1
        have hg := effect_gt (p := p) (s := s) (o := o) (a := a) (by omega) inp
        exact exec_enough hp f _ (by omega)
theorem fits_op {p : List Ins} (h : Co.fitsI p = true) : ∀ i ∈ p, 0 ≤ i.1 ∧ i.1 ≤ 17 := by
  intro i hi
  unfold Co.fitsI at h
  rw [Bool.and_eq_true] at h
  have h2 := List.all_eq_true.1 h.2 i hi
  unfold Co.rightI at h2
  simp only [Bool.and_eq_true, decide_eq_true_eq] at h2
  omega
/-- where it ends -/
def done (p : List Ins) (inp : Val) (s : St) : St := exec p inp (p.length + 1) s
theorem done_none {p : List Ins} {inp : Val} {s : St} (h : p.length ≤ s.pc) : done p inp s = s := by
  unfold done; rw [exec, List.getElem?_eq_none h]
theorem done_halt {p : List Ins} {inp : Val} {s : St} {i : Ins} (h : p[s.pc]? = some i) (h0 : i.1 = 0) : done p inp s = fetch s := by
  unfold done; rw [exec, h]; exact if_pos h0
theorem done_step {p : List Ins} (hp : ∀ i ∈ p, 0 ≤ i.1 ∧ i.1 ≤ 17) {inp : Val} {s : St} {i : Ins} (h : p[s.pc]? = some i) (h0 : i.1 ≠ 0) : done p inp s = done p inp (effect inp i (fetch s)) := by
  obtain ⟨o, a⟩ := i
  have hm := hp _ (List.mem_of_getElem? h)
  simp only at hm h0
  have hlt : s.pc < p.length := (List.getElem?_eq_some_iff.1 h).1
  have hg := effect_gt (p := p) (s := s) (o := o) (a := a) (by omega) inp
  have e1 : done p inp s = exec p inp p.length (effect inp (o, a) (fetch s)) := by
    unfold done; rw [exec, h]; exact if_neg h0
  rw [e1]
  exact (exec_enough hp _ _ (by omega)).symm

/-! ### one input after the other -/
structure Res where
  out : List Val
  c0 : Val
  c1 : Val
  steps : Int
def stOf (r : Res) : St := ⟨r.out, r.c0, r.c1, r.steps, 0, []⟩
def resOf (s : St) : Res := ⟨s.out, s.c0, s.c1, s.steps⟩
def go (p : List Ins) (r : Res) (inp : Val) : Res := resOf (exec p inp (p.length + 1) (stOf r))
def each (p : List Ins) (r : Res) (l : List Val) : Res := l.foldl (go p) r
theorem each_succ (p : List Ins) (r : Res) (l : List Val) (k : Nat) (h : k < l.length) : each p r (l.take (k + 1)) = go p (each p r (l.take k)) l[k] := by
  unfold each
  rw [List.take_succ_eq_append_getElem h, List.foldl_append]; rfl
theorem go_right {p : List Ins} (hp : Co.fitsI p = true) {r : Res} (h0 : rightV r.c0 = true) (h1 : rightV r.c1 = true) {inp : Val} (hin : rightV inp = true) : rightV (go p r inp).c0 = true ∧ rightV (go p r inp).c1 = true := by
  have := AllRight.exec hin (fits_arg hp) (p.length + 1) (stOf r) ⟨h0, h1, fun v hv => by cases hv⟩
  exact ⟨this.1, this.2.1⟩
theorem each_right {p : List Ins} (hp : Co.fitsI p = true) : ∀ (l : List Val) (r : Res), rightV r.c0 = true → rightV r.c1 = true → l.all rightV = true → rightV (each p r l).c0 = true ∧ rightV (each p r l).c1 = true
  | [], r, h0, h1, _ => ⟨h0, h1⟩
  | v :: l, r, h0, h1, hl => by
    rw [List.all_cons, Bool.and_eq_true] at hl
    have := go_right hp h0 h1 hl.1
    exact each_right hp l (go p r v) this.1 this.2 hl.2

/-! ### bounds -/
theorem setCellAt_steps (s a v) : (setCellAt s a v).steps = s.steps ∧ (setCellAt s a v).out = s.out := by unfold setCellAt; split <;> exact ⟨rfl, rfl⟩
theorem emit1_out (s v) : (emit1 s v).out.length = s.out.length + 1 := by unfold emit1; simp
theorem effect_bounds (inp : Val) (i : Ins) (s : St) : (effect inp i s).steps = s.steps ∧ (effect inp i s).out.length ≤ s.out.length + 1 := by
  unfold Vm.effect
  have P0 : ∀ t : St, t.steps = s.steps → t.out = s.out → t.steps = s.steps ∧ t.out.length ≤ s.out.length + 1 := fun t h1 h2 => ⟨h1, by rw [h2]; omega⟩
  refine ite_all (P := fun t : St => t.steps = s.steps ∧ t.out.length ≤ s.out.length + 1) (P0 _ rfl rfl) ?_
  refine ite_all (P := fun t : St => t.steps = s.steps ∧ t.out.length ≤ s.out.length + 1) (P0 _ rfl rfl) ?_
  refine ite_all (P := fun t : St => t.steps = s.steps ∧ t.out.length ≤ s.out.length + 1) (P0 _ rfl rfl) ?_
  refine ite_all (P := fun t : St => t.steps = s.steps ∧ t.out.length ≤ s.out.length + 1) (P0 _ rfl rfl) ?_
  refine ite_all (P := fun t : St => t.steps = s.steps ∧ t.out.length ≤ s.out.length + 1) (P0 _ (setCellAt_steps ..).1 (setCellAt_steps ..).2) ?_
  refine ite_all (P := fun t : St => t.steps = s.steps ∧ t.out.length ≤ s.out.length + 1) (ite_all (P := fun t : St => t.steps = s.steps ∧ t.out.length ≤ s.out.length + 1) (P0 _ rfl rfl) (P0 _ rfl rfl)) ?_
  refine ite_all (P := fun t : St => t.steps = s.steps ∧ t.out.length ≤ s.out.length + 1) (P0 _ rfl rfl) ?_
  refine ite_all (P := fun t : St => t.steps = s.steps ∧ t.out.length ≤ s.out.length + 1) (P0 _ rfl rfl) ?_
  refine ite_all (P := fun t : St => t.steps = s.steps ∧ t.out.length ≤ s.out.length + 1) (P0 _ rfl rfl) ?_
  refine ite_all (P := fun t : St => t.steps = s.steps ∧ t.out.length ≤ s.out.length + 1) (P0 _ rfl rfl) ?_
  refine ite_all (P := fun t : St => t.steps = s.steps ∧ t.out.length ≤ s.out.length + 1) (P0 _ rfl rfl) ?_
  refine ite_all (P := fun t : St => t.steps = s.steps ∧ t.out.length ≤ s.out.length + 1) (P0 _ rfl rfl) ?_
  refine ite_all (P := fun t : St => t.steps = s.steps ∧ t.out.length ≤ s.out.length + 1) ⟨rfl, by rw [emit1_out]; exact Nat.le_refl _⟩ (P0 _ rfl rfl)
theorem exec_bounds {p : List Ins} {inp : Val} : ∀ (f : Nat) (s : St), s.steps ≤ (exec p inp f s).steps ∧ (exec p inp f s).steps ≤ s.steps + f ∧ (exec p inp f s).out.length ≤ s.out.length + f
  | 0, s => ⟨Int.le_refl _, by rw [exec]; omega, by rw [exec]; omega⟩
  | f + 1, s => by
    rw [exec]
    have e1 : (fetch s).steps = s.steps + 1 := rfl
    have e2 : (fetch s).out = s.out := rfl
    cases e : p[s.pc]? with
    | none => simp only; omega
    | some i =>
      simp only
      split
      · rw [e1, e2]; omega
      · have hb := effect_bounds inp i (fetch s)
        rw [e1, e2] at hb
        have hx := exec_bounds (p := p) (inp := inp) f (effect inp i (fetch s))
        omega
theorem go_bounds (p : List Ins) (r : Res) (inp : Val) : r.steps ≤ (go p r inp).steps ∧ (go p r inp).steps ≤ r.steps + (p.length + 1) ∧ (go p r inp).out.length ≤ r.out.length + (p.length + 1) := by
  have := exec_bounds (p := p) (inp := inp) (p.length + 1) (stOf r)
  unfold go
  exact ⟨this.1, by have := this.2.1; simpa [stOf, resOf] using this, this.2.2⟩
theorem each_bounds {p : List Ins} (hp : p.length ≤ 24) : ∀ (l : List Val) (r : Res), r.steps ≤ (each p r l).steps ∧ (each p r l).steps ≤ r.steps + 25 * l.length ∧ (each p r l).out.length ≤ r.out.length + 25 * l.length
  | [], r => ⟨Int.le_refl _, by show r.steps ≤ _; simp, Nat.le_refl _⟩
  | v :: l, r => by
    have h1 := go_bounds p r v
    have h2 := each_bounds hp l (go p r v)
    have e : each p r (v :: l) = each p (go p r v) l := rfl
    rw [e, List.length_cons]
    omega
end Vm
