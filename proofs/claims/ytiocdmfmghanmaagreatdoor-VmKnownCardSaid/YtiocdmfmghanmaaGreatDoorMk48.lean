import Derived.Test.YtiocdmfmghanmaaGreatDoorMk47
import Derived.Test.YtiocdmfmghanmaaGreatDoorMk39
import Derived.Test.YtiocdmfmghanmaaGreatDoorMk21
import Derived.KernelRfl
/-! The document's machine: on right values it reckons as the program does. -/
namespace Vm
set_option linter.unusedSimpArgs false
set_option linter.unusedVariables false
open Ga

theorem right_parts {v : Val} (h : rightV v = true) : into v.1 = v.1 ∧ into v.2 = v.2 := by
  unfold rightV at h
  simp only [Bool.and_eq_true, decide_eq_true_eq] at h
  exact ⟨h.1.symm, h.2.symm⟩
def refTwo (op : Int) (x y : Val) : Val :=
  if op = 6 then addV x y else if op = 7 then subV x y else if op = 8 then mulV x y else (if x.1 < y.1 then 1 else 0, 0)
theorem into_zero : into 0 = 0 := into_id (by decide)
theorem into_one : into 1 = 1 := into_id (by decide)
theorem two_ref {op : Int} {x y : Val} (hx : rightV x = true) (hy : rightV y = true) : two op x y = refTwo op x y := by
  obtain ⟨a, b⟩ := x
  obtain ⟨c, d⟩ := y
  obtain ⟨h1, h2⟩ := right_parts hx
  obtain ⟨h3, h4⟩ := right_parts hy
  simp only at h1 h2 h3 h4
  unfold two refTwo addV subV mulV lessV
  simp only [h1, h2, h3, h4, into_zero, into_one, Int.zero_add, Int.one_mul, Int.zero_mul, Int.sub_zero, Int.add_zero, decide_eq_true_eq]
theorem conj_ref {v : Val} (h : rightV v = true) : conjV v = (into v.1, into (-v.2)) := by
  obtain ⟨h1, h2⟩ := right_parts h
  unfold conjV
  rw [into_into, h2]
theorem turn_ref {v : Val} (h : rightV v = true) : turnV v = (into (-v.2), into v.1) := by
  obtain ⟨h1, h2⟩ := right_parts h
  unfold turnV
  rw [h2]
  simp [into_into]
theorem zero_ref {v : Val} (h : rightV v = true) : zeroV v = decide (v = (0, 0)) := by
  obtain ⟨a, b⟩ := v
  obtain ⟨h1, h2⟩ := right_parts h
  simp only at h1 h2
  unfold zeroV
  simp [h1, h2, Prod.mk.injEq, Bool.decide_and]
end Vm

/-! VmKnown: what the programs put out. -/
namespace Vm
set_option linter.unusedSimpArgs false
set_option linter.unusedVariables false
open Ga
def kp0 : List Ins := [(3, 0), (4, 1), (6, 0), (14, 0)]
def kp1 : List Ins := [(3, 0), (4, 1), (7, 0), (14, 0)]
def kp2 : List Ins := [(3, 0), (4, 1), (8, 0), (14, 0), (0, 0), (3, 0)]
def kp3 : List Ins := [(3, 0), (10, 0), (14, 0)]
def kp4 : List Ins := [(16, 1), (4, 0), (3, 0), (9, 0), (14, 0)]
def kp5 (n : Int) : List Ins := [(1, n), (3, 0), (8, 0), (14, 0)]
theorem kp0_safe : safe kp0 = true := by decide +kernel
theorem kp1_safe : safe kp1 = true := by decide +kernel
theorem kp2_safe : safe kp2 = true := by decide +kernel
theorem kp3_safe : safe kp3 = true := by decide +kernel
theorem kp4_safe : safe kp4 = true := by decide +kernel
theorem kp5_fits (n : Int) (h : -524288 ≤ n ∧ n < 524288) : Co.fitsI (kp5 n) = true := by
  unfold Co.fitsI kp5 Co.rightI Co.lo Co.hi
  simp
  omega
theorem kp5_safe (n : Int) (h : -524288 ≤ n ∧ n < 524288) : safe (kp5 n) = true := by
  unfold safe checkC
  rw [if_pos (kp5_fits n h)]
  kernel_rfl
section
variable {p q r s n : Int}
theorem kp0_each (ha : rightV (p, q) = true) (hb : rightV (r, s) = true) : each kp0 ⟨[], (0, 0), (r, s), 0⟩ [(p, q)] = ⟨[addV (p, q) (r, s)], (0, 0), (r, s), 4⟩ := by
  have h : each kp0 ⟨[], (0, 0), (r, s), 0⟩ [(p, q)] = ⟨[two 6 (p, q) (r, s)], (0, 0), (r, s), 4⟩ := rfl
  rw [h, two_ref ha hb]
  rfl
theorem kp1_each (ha : rightV (p, q) = true) (hb : rightV (r, s) = true) : each kp1 ⟨[], (0, 0), (r, s), 0⟩ [(p, q)] = ⟨[subV (p, q) (r, s)], (0, 0), (r, s), 4⟩ := by
  have h : each kp1 ⟨[], (0, 0), (r, s), 0⟩ [(p, q)] = ⟨[two 7 (p, q) (r, s)], (0, 0), (r, s), 4⟩ := rfl
  rw [h, two_ref ha hb]
  rfl
theorem kp2_each (ha : rightV (p, q) = true) (hb : rightV (r, s) = true) : each kp2 ⟨[], (0, 0), (r, s), 0⟩ [(p, q)] = ⟨[mulV (p, q) (r, s)], (0, 0), (r, s), 5⟩ := by
  have h : each kp2 ⟨[], (0, 0), (r, s), 0⟩ [(p, q)] = ⟨[two 8 (p, q) (r, s)], (0, 0), (r, s), 5⟩ := rfl
  rw [h, two_ref ha hb]
  rfl
theorem kp3_each (ha : rightV (p, q) = true) : each kp3 ⟨[], (0, 0), (r, s), 0⟩ [(p, q)] = ⟨[(into (-q), into p)], (0, 0), (r, s), 3⟩ := by
  have h : each kp3 ⟨[], (0, 0), (r, s), 0⟩ [(p, q)] = ⟨[turnV (p, q)], (0, 0), (r, s), 3⟩ := rfl
  rw [h, turn_ref ha]
theorem kp4_each (ha : rightV (p, q) = true) : each kp4 ⟨[], (0, 0), (r, s), 0⟩ [(p, q)] = ⟨[(into p, into (-q))], (0, 0), (r, s), 4⟩ := by
  have h : each kp4 ⟨[], (0, 0), (r, s), 0⟩ [(p, q)] = ⟨[conjV (p, q)], (0, 0), (r, s), 4⟩ := rfl
  rw [h, conj_ref ha]
theorem right_push (h : -524288 ≤ n ∧ n < 524288) : rightV (n, 0) = true := by
  unfold rightV
  rw [into_id h, into_zero]
  simp
theorem kp5_each (h : -524288 ≤ n ∧ n < 524288) (ha : rightV (p, q) = true) : each (kp5 n) ⟨[], (0, 0), (0, 0), 0⟩ [(p, q)] = ⟨[mulV (n, 0) (p, q)], (0, 0), (0, 0), 4⟩ := by
  have h2 : each (kp5 n) ⟨[], (0, 0), (0, 0), 0⟩ [(p, q)] = ⟨[two 8 (n, 0) (p, q)], (0, 0), (0, 0), 4⟩ := rfl
  rw [h2, two_ref (right_push h) ha]
  rfl
end
end Vm
