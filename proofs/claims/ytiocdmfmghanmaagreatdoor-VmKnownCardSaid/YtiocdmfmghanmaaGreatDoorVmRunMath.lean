import Derived.Test.YtiocdmfmghanmaaGreatDoorVmRight
import Derived.Test.YtiocdmfmghanmaaGreatDoorVmInv
/-! What holds at each round of a run. -/
namespace Vm
set_option linter.unusedSimpArgs false
set_option linter.unusedVariables false
open Ga

theorem goC_inv {p : List Ins} {c : Cst} : ∀ (l : List Ins) (k : Nat) (s : Cst), goC p l k s = some c → Inv s → Inv c
  | [], _, s, h, hi => by cases h; exact hi
  | i :: l, k, s, h, hi => by
    rw [goC] at h
    split at h
    · rename_i hk
      split at h
      · exact goC_inv l _ _ h (hi.step hk)
      · cases h
    · exact goC_inv l _ _ h hi
theorem checkC_inv {p : List Ins} {c : Cst} (h : checkC p = some c) : Inv c := by
  unfold checkC at h
  split at h
  · exact goC_inv p 0 _ h (Inv.start _)
  · cases h
theorem checkC_fits {p : List Ins} {c : Cst} (h : checkC p = some c) : Co.fitsI p = true := by
  unfold checkC at h
  split at h
  · assumption
  · cases h

theorem eff1 (inp : Val) (a : Int) (s : St) : effect inp (1, a) s = push1 s (a, 0) := rfl
theorem eff2 (inp : Val) (a : Int) (s : St) : effect inp (2, a) s = push1 s (0, a) := rfl
theorem eff3 (inp : Val) (a : Int) (s : St) : effect inp (3, a) s = push1 s inp := rfl
theorem eff40 (inp : Val) (s : St) : effect inp (4, 0) s = push1 s s.c0 := rfl
theorem eff41 (inp : Val) (s : St) : effect inp (4, 1) s = push1 s s.c1 := rfl
theorem eff50 (inp : Val) (s : St) : effect inp (5, 0) s = { pop1 s with c0 := top1 s } := rfl
theorem eff51 (inp : Val) (s : St) : effect inp (5, 1) s = { pop1 s with c1 := top1 s } := rfl
theorem effT (inp : Val) (x a : Int) (s : St) (h : x = 6 ∨ x = 7 ∨ x = 8 ∨ x = 17) : effect inp (x, a) s = push1 (pop1 (pop1 s)) (two x (top1 (pop1 s)) (top1 s)) := by
  rcases h with rfl | rfl | rfl | rfl <;> rfl
theorem eff9 (inp : Val) (a : Int) (s : St) : effect inp (9, a) s = push1 (pop1 s) (conjV (top1 s)) := rfl
theorem eff10 (inp : Val) (a : Int) (s : St) : effect inp (10, a) s = push1 (pop1 s) (turnV (top1 s)) := rfl
theorem eff11 (inp : Val) (a : Int) (s : St) : effect inp (11, a) s = push1 (push1 (pop1 s) (top1 s)) (top1 s) := rfl
theorem eff12 (inp : Val) (a : Int) (s : St) : effect inp (12, a) s = push1 (push1 (pop1 (pop1 s)) (top1 s)) (top1 (pop1 s)) := rfl
theorem eff13 (inp : Val) (a : Int) (s : St) : effect inp (13, a) s = pop1 s := rfl
theorem eff14 (inp : Val) (a : Int) (s : St) : effect inp (14, a) s = emit1 (pop1 s) (top1 s) := rfl
theorem eff15 (inp : Val) (a : Int) (s : St) : effect inp (15, a) s = if zeroV (top1 s) then jump1 (pop1 s) a else pop1 s := rfl
theorem eff16 (inp : Val) (a : Int) (s : St) : effect inp (16, a) s = jump1 s a := rfl

/-- At each fetch. -/
structure At (l : List Ins) (c : Cst) (inp : Val) (s0 : St) (st : St) : Prop where
  dn : done l inp st = done l inp s0
  gd : Good l c st
  ot : st.out.length ≤ s0.out.length + st.pc
  s1 : s0.steps ≤ st.steps
  s2 : st.steps ≤ s0.steps + st.pc
  pc : st.pc ≤ 48
theorem At.len {l : List Ins} {c : Cst} (hc : checkC l = some c) {inp : Val} {s0 st : St} (h : At l c inp s0 st) (hp : st.pc < l.length) : st.stack.length ≤ 8 := by
  have h1 := h.gd hp
  have h2 := (checkC_inv hc).1 st.pc
  omega
theorem right_parts' {l : List Ins} {c : Cst} (hc : checkC l = some c) {k : Nat} {x a : Int} (hi : l[k]? = some (x, a)) : 0 ≤ x ∧ x ≤ 17 ∧ -524288 ≤ a ∧ a ≤ 524287 ∧ (x = 15 ∨ x = 16 → 1 ≤ a ∧ a ≤ 24) ∧ (x = 4 ∨ x = 5 → a = 0 ∨ a = 1) := by
  have hf := checkC_fits hc
  have h := (Co.fits_parts hf).2 _ (List.mem_of_getElem? hi)
  unfold Co.rightI Co.lo Co.hi at h
  simp only [Bool.and_eq_true, decide_eq_true_eq] at h
  grind
theorem At.next {l : List Ins} {c : Cst} (hc : checkC l = some c) {inp : Val} {s0 st : St} (h : At l c inp s0 st) {x a : Int} (hi : l[st.pc]? = some (x, a)) (hx : x ≠ 0) :
    takes x ≤ st.stack.length ∧ At l c inp s0 (effect inp (x, a) (fetch st)) ∧ st.pc < (effect inp (x, a) (fetch st)).pc := by
  have hf := checkC_fits hc
  obtain ⟨r0, r1, r2, r3, r4, r5⟩ := right_parts' hc hi
  have hlt : st.pc < l.length := (List.getElem?_eq_some_iff.1 hi).1
  have h24 := (Co.fits_parts hf).1
  obtain ⟨g1, g2⟩ := good_effect hc h.gd hi ⟨by omega, r1⟩ inp
  have hpc := effect_pc (s := fetch st) (a := a) ⟨show 1 ≤ x by omega, r1⟩ inp
  have hgt := effect_gt (p := l) (s := st) (a := a) ⟨show 1 ≤ x by omega, r1⟩ inp
  have hb := effect_bounds inp (x, a) (fetch st)
  have e1 : (fetch st).steps = st.steps + 1 := rfl
  have e2 : (fetch st).out = st.out := rfl
  have e3 : (fetch st).pc = st.pc + 1 := rfl
  rw [e1, e2] at hb
  rw [e3] at hpc
  have hle : (effect inp (x, a) (fetch st)).pc ≤ st.pc + 25 := by
    rw [hpc]
    by_cases h16 : x = 16
    · have := r4 (.inr h16); rw [if_pos h16]; omega
    · by_cases h15 : x = 15
      · have := r4 (.inl h15); rw [if_neg h16, if_pos h15]; split <;> omega
      · rw [if_neg h16, if_neg h15]; omega
  have := h.ot
  have := h.s1
  have := h.s2
  exact ⟨g1, ⟨(done_step (fits_op hf) hi hx).symm.trans h.dn, g2, by omega, by omega, by omega, by omega⟩, hgt⟩
end Vm
