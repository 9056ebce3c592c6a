import Derived.Test.YtmdmbimfdpngaaaGreatDoorMc8
/-! What is known of a program stays within bounds. -/
namespace Vm
set_option linter.unusedSimpArgs false
set_option linter.unusedVariables false
open Ga
def Inv (s : Cst) : Prop := (∀ k, s.depth.getD k (-1) = -1 ∨ (0 ≤ s.depth.getD k (-1) ∧ s.depth.getD k (-1) ≤ 8)) ∧ ∀ k, 0 ≤ s.emits.getD k 0 ∧ s.emits.getD k 0 ≤ 4
theorem getD_set {α : Type} (l : List α) (k j : Nat) (d z : α) : (l.set k d).getD j z = if j = k ∧ k < l.length then d else l.getD j z := by
  rw [List.getD_eq_getElem?_getD, List.getD_eq_getElem?_getD, List.getElem?_set]
  by_cases h : k = j
  · subst h
    by_cases h2 : k < l.length
    · simp [h2]
    · simp [h2]
  · have h' : ¬ j = k := fun e => h e.symm
    rw [if_neg h, if_neg (fun x => h' x.1)]
theorem Inv.come {s : Cst} (h : Inv s) {n k : Nat} {d e : Int} (hd : 0 ≤ d) (he : 0 ≤ e) : Inv (Vm.come n s k d e).1 := by
  unfold Vm.come
  split
  · exact h
  split
  · exact h
  split
  · exact h
  · refine ⟨fun j => ?_, fun j => ?_⟩
    · show (s.depth.set k d).getD j (-1) = -1 ∨ _
      simp only [getD_set]
      split
      · right; omega
      · exact h.1 j
    · show 0 ≤ (s.emits.set k _).getD j 0 ∧ (s.emits.set k _).getD j 0 ≤ 4
      simp only [getD_set]
      split
      · have := h.2 k; omega
      · exact h.2 j
theorem Inv.comes {n : Nat} {d e : Int} (hd : 0 ≤ d) (he : 0 ≤ e) : ∀ (l : List Nat) {s : Cst}, Inv s → Inv (Vm.comes n d e l s).1
  | [], s, h => h
  | k :: l, s, h => by
    rw [Vm.comes]
    split
    · exact Inv.comes hd he l (h.come hd he)
    · exact h.come hd he
theorem Inv.uses {s : Cst} (h : Inv s) (i : Ins) : Inv (Vm.uses s i) := by
  unfold Vm.uses
  split
  · split <;> exact h
  · exact h
theorem Inv.step {p : List Ins} {s : Cst} (h : Inv s) {k : Nat} {i : Ins} (hk : s.depth.getD k (-1) ≠ -1) : Inv (Vm.stepC p s k i).1 := by
  unfold Vm.stepC
  split
  · exact h
  · rename_i ht
    have h1 := (h.1 k).resolve_left hk
    have h2 := h.2 k
    have : (0 : Int) ≤ if i.1 = 14 then 1 else 0 := by split <;> omega
    exact Inv.comes (by omega) (by omega) _ (h.uses i)
theorem Inv.zero (n : Nat) : Inv ⟨List.replicate n (-1), List.replicate n 0, 0, 0, false, false⟩ := by
  refine ⟨fun k => .inl ?_, fun k => ?_⟩
  · show (List.replicate n (-1 : Int)).getD k (-1) = -1
    rw [List.getD_eq_getElem?_getD, List.getElem?_replicate]
    split <;> rfl
  · show 0 ≤ (List.replicate n (0 : Int)).getD k 0 ∧ (List.replicate n (0 : Int)).getD k 0 ≤ 4
    rw [List.getD_eq_getElem?_getD, List.getElem?_replicate]
    split <;> decide
theorem Inv.start (n : Nat) : Inv (Vm.start n) := (Inv.zero n).come (Int.le_refl _) (Int.le_refl _)
theorem goC_at {p : List Ins} {j : Nat} {s : Cst} (h : j < p.length) : goC p (p.drop j) j s = if s.depth.getD j (-1) ≠ -1 then (if (stepC p s j p[j]).2 then goC p (p.drop (j + 1)) (j + 1) (stepC p s j p[j]).1 else none) else goC p (p.drop (j + 1)) (j + 1) s := by
  rw [List.drop_eq_getElem_cons h, goC]
end Vm
