import Derived.Test.YtmdmbimfdpngaaaGreatDoorMc33
/-! What no run exceeds: plain laws. -/
namespace Vm
set_option linter.unusedSimpArgs false
set_option linter.unusedVariables false
open Ga

/-! ### the steps -/
/-! ### what is put out is right -/
theorem effect_out (inp : Val) (i : Ins) (s : St) : (effect inp i s).out = s.out ∨ (i.1 = 14 ∧ (effect inp i s).out = s.out ++ [top1 s]) := by
  obtain ⟨o, a⟩ := i
  unfold effect
  dsimp only
  by_cases h1 : o = 1
  · rw [if_pos h1]; exact .inl rfl
  rw [if_neg h1]
  by_cases h2 : o = 2
  · rw [if_pos h2]; exact .inl rfl
  rw [if_neg h2]
  by_cases h3 : o = 3
  · rw [if_pos h3]; exact .inl rfl
  rw [if_neg h3]
  by_cases h4 : o = 4
  · rw [if_pos h4]; exact .inl rfl
  rw [if_neg h4]
  by_cases h5 : o = 5
  · rw [if_pos h5]; exact .inl (setCellAt_steps ..).2
  rw [if_neg h5]
  by_cases h15 : o = 15
  · rw [if_pos h15]; left; split <;> rfl
  rw [if_neg h15]
  by_cases h16 : o = 16
  · rw [if_pos h16]; exact .inl rfl
  rw [if_neg h16]
  by_cases h6 : o = 6 ∨ o = 7 ∨ o = 8 ∨ o = 17
  · rw [if_pos h6]; exact .inl rfl
  rw [if_neg h6]
  by_cases h9 : o = 9
  · rw [if_pos h9]; exact .inl rfl
  rw [if_neg h9]
  by_cases h10 : o = 10
  · rw [if_pos h10]; exact .inl rfl
  rw [if_neg h10]
  by_cases h11 : o = 11
  · rw [if_pos h11]; exact .inl rfl
  rw [if_neg h11]
  by_cases h12 : o = 12
  · rw [if_pos h12]; exact .inl rfl
  rw [if_neg h12]
  by_cases h14 : o = 14
  · rw [if_pos h14]; exact .inr ⟨h14, rfl⟩
  rw [if_neg h14]
  exact .inl rfl
/-! ### the cells of a program that stores nothing -/
/-! ### no more than four are put out -/
theorem come_emits_other {n : Nat} {s : Cst} {k : Nat} {d e : Int} {j : Nat} (h : j ≠ k) : (come n s k d e).1.emits.getD j 0 = s.emits.getD j 0 := by
  unfold come
  split
  · rfl
  split
  · rfl
  split
  · rfl
  · show (s.emits.set k _).getD j 0 = _
    rw [getD_set, if_neg fun x => h x.1]
theorem come_emits_le {n : Nat} {s : Cst} {k : Nat} {d e : Int} {j : Nat} : s.emits.getD j 0 ≤ (come n s k d e).1.emits.getD j 0 := by
  unfold come
  split
  · exact Int.le_refl _
  split
  · exact Int.le_refl _
  split
  · exact Int.le_refl _
  · show _ ≤ (s.emits.set k _).getD j 0
    rw [getD_set]
    split
    · rename_i h; rw [h.1]; omega
    · exact Int.le_refl _
theorem come_emits_set {n : Nat} {s : Cst} {k : Nat} {d e : Int} (hb : (come n s k d e).2 = true) (hk : k < n) (hl : s.emits.length = n) : e ≤ (come n s k d e).1.emits.getD k 0 := by
  unfold come at hb ⊢
  split at hb
  · cases hb
  split at hb
  · omega
  split at hb
  · cases hb
  · rename_i h1 h2 h3
    rw [if_neg h1, if_neg h2, if_neg h3]
    show e ≤ (s.emits.set k _).getD k 0
    rw [getD_set, if_pos ⟨rfl, by omega⟩]
    omega
theorem come_ok {n : Nat} {s : Cst} {k : Nat} {d e : Int} (hb : (come n s k d e).2 = true) : e ≤ 4 := by
  unfold come at hb
  split at hb
  · cases hb
  · omega
theorem come_elen (n : Nat) (s : Cst) (k : Nat) (d e : Int) : (come n s k d e).1.emits.length = s.emits.length := by
  unfold come
  split
  · rfl
  split
  · rfl
  split
  · rfl
  · exact List.length_set ..
theorem comes_elen (n : Nat) (d e : Int) : ∀ (l : List Nat) (s : Cst), (comes n d e l s).1.emits.length = s.emits.length
  | [], s => rfl
  | k :: l, s => by
    rw [comes]; split
    · exact (comes_elen n d e l _).trans (come_elen ..)
    · exact come_elen ..
theorem comes_emits_le {n : Nat} {d e : Int} {j : Nat} : ∀ (l : List Nat) (s : Cst), s.emits.getD j 0 ≤ (comes n d e l s).1.emits.getD j 0
  | [], s => Int.le_refl _
  | k :: l, s => by
    rw [comes]; split
    · exact Int.le_trans come_emits_le (comes_emits_le l _)
    · exact come_emits_le
theorem comes_emits_low {n : Nat} {d e : Int} {j : Nat} : ∀ (l : List Nat) (s : Cst), (∀ k ∈ l, j < k) → (comes n d e l s).1.emits.getD j 0 = s.emits.getD j 0
  | [], s, _ => rfl
  | k :: l, s, h => by
    have hk := h k (List.mem_cons_self ..)
    rw [comes]; split
    · exact (comes_emits_low l _ fun a ha => h a (List.mem_cons_of_mem _ ha)).trans (come_emits_other (by omega))
    · exact come_emits_other (by omega)
theorem comes_emits_set {n : Nat} {d e : Int} : ∀ (l : List Nat) (s : Cst), s.emits.length = n → (comes n d e l s).2 = true → ∀ k ∈ l, e ≤ 4 ∧ (k < n → e ≤ (comes n d e l s).1.emits.getD k 0)
  | [], s, _, _, k, hk => by cases hk
  | a :: l, s, hl, hb, k, hk => by
    rw [comes] at hb ⊢
    split at hb
    · rename_i ha
      rw [if_pos ha]
      rcases List.mem_cons.1 hk with e1 | e1
      · subst e1
        exact ⟨come_ok ha, fun hn => Int.le_trans (come_emits_set ha hn hl) (comes_emits_le l _)⟩
      · exact comes_emits_set l _ ((come_elen ..).trans hl) hb k e1
    · cases hb
theorem uses_emits (s : Cst) (i : Ins) : (uses s i).emits = s.emits := by
  unfold uses; split
  · split <;> rfl
  · rfl
theorem stepC_elen (p : List Ins) (s : Cst) (k : Nat) (i : Ins) : (stepC p s k i).1.emits.length = s.emits.length := by
  unfold stepC; split
  · rfl
  · rw [comes_elen, uses_emits]
theorem stepC_emits_le {p : List Ins} {s : Cst} {k : Nat} {i : Ins} {j : Nat} : s.emits.getD j 0 ≤ (stepC p s k i).1.emits.getD j 0 := by
  unfold stepC; split
  · exact Int.le_refl _
  · have := comes_emits_le (n := p.length) (d := s.depth.getD k (-1) - takes i.1 + leaves i.1) (e := s.emits.getD k 0 + if i.1 = 14 then 1 else 0) (j := j) (next p k i) (uses s i)
    rw [uses_emits] at this
    exact this
theorem stepC_emits_low {p : List Ins} {s : Cst} {k : Nat} {i : Ins} {j : Nat} (hk : k < p.length) (hj : j ≤ k) : (stepC p s k i).1.emits.getD j 0 = s.emits.getD j 0 := by
  unfold stepC; split
  · rfl
  · rw [comes_emits_low _ _ (fun a ha => by have := next_gt hk a ha; omega), uses_emits]
theorem goC_emits_le {p : List Ins} {c : Cst} {j : Nat} : ∀ (l : List Ins) (k : Nat) (s : Cst), goC p l k s = some c → s.emits.getD j 0 ≤ c.emits.getD j 0
  | [], _, s, h => by cases h; exact Int.le_refl _
  | i :: l, k, s, h => by
    rw [goC] at h
    split at h
    · split at h
      · exact Int.le_trans stepC_emits_le (goC_emits_le l _ _ h)
      · cases h
    · exact goC_emits_le l _ _ h
theorem goC_emits_low {p : List Ins} {c : Cst} {j : Nat} : ∀ (l : List Ins) (k : Nat) (s : Cst), goC p l k s = some c → k + l.length = p.length → j < k → c.emits.getD j 0 = s.emits.getD j 0
  | [], _, s, h, _, _ => by cases h; rfl
  | i :: l, k, s, h, hl, hj => by
    rw [List.length_cons] at hl
    rw [goC] at h
    split at h
    · split at h
      · exact (goC_emits_low l _ _ h (by omega) (by omega)).trans (stepC_emits_low (by omega) (by omega))
      · cases h
    · exact goC_emits_low l _ _ h (by omega) (by omega)
def ESound (p : List Ins) (c : Cst) (k : Nat) (i : Ins) : Prop :=
  c.depth.getD k (-1) ≠ -1 → ∀ a ∈ next p k i, c.emits.getD k 0 + (if i.1 = 14 then 1 else 0) ≤ 4 ∧ (a < p.length → c.emits.getD k 0 + (if i.1 = 14 then 1 else 0) ≤ c.emits.getD a 0)
theorem goC_esound {p : List Ins} {c : Cst} : ∀ (l : List Ins) (k : Nat) (s : Cst), goC p l k s = some c → k + l.length = p.length → s.emits.length = p.length → ∀ j i, l[j]? = some i → ESound p c (k + j) i
  | [], _, s, _, _, _, j, i, hj => by simp at hj
  | i0 :: l, k, s, h, hl, hd, j, i, hj => by
    rw [List.length_cons] at hl
    rw [goC] at h
    cases j with
    | succ j =>
      rw [List.getElem?_cons_succ] at hj
      have e : k + (j + 1) = k + 1 + j := by omega
      rw [e]
      split at h
      · split at h
        · exact goC_esound l _ _ h (by omega) ((stepC_elen ..).trans hd) j i hj
        · cases h
      · exact goC_esound l _ _ h (by omega) hd j i hj
    | zero =>
      rw [List.getElem?_cons_zero] at hj
      cases hj
      intro hk
      rw [Nat.add_zero] at hk ⊢
      split at h
      · rename_i hs
        split at h
        · rename_i hb
          have e1 : c.emits.getD k 0 = s.emits.getD k 0 := (goC_emits_low l _ _ h (by omega) (by omega)).trans (stepC_emits_low (by omega) (by omega))
          rw [e1]
          intro a ha
          have hb' := hb
          unfold stepC at hb'
          split at hb'
          · cases hb'
          · rename_i ht
            obtain ⟨h1, h2⟩ := comes_emits_set (next p k i0) (uses s i0) (by rw [uses_emits]; exact hd) hb' a ha
            refine ⟨h1, fun hal => Int.le_trans ?_ (goC_emits_le l _ _ h)⟩
            have e2 : (stepC p s k i0).1 = (comes p.length (s.depth.getD k (-1) - takes i0.1 + leaves i0.1) (s.emits.getD k 0 + if i0.1 = 14 then 1 else 0) (next p k i0) (uses s i0)).1 := by
              unfold stepC; rw [if_neg ht]
            rw [e2]
            exact h2 hal
        · cases h
      · rename_i hs
        exact absurd ((goC_low l _ _ h (by omega) (by omega)).trans (Classical.byContradiction fun x => hs x)) hk
theorem checkC_esound {p : List Ins} {c : Cst} (h : checkC p = some c) {k : Nat} {i : Ins} (hi : p[k]? = some i) : ESound p c k i := by
  unfold checkC at h
  split at h
  · have := goC_esound p 0 _ h (by omega) ((come_elen ..).trans List.length_replicate) k i hi
    rwa [Nat.zero_add] at this
  · cases h
/-- where it stands, no more has been put out than is known -/
def GoodE (p : List Ins) (c : Cst) (s : St) : Prop := s.out.length ≤ 4 ∧ (s.pc < p.length → (s.out.length : Int) ≤ c.emits.getD s.pc 0)
theorem goodE_effect {p : List Ins} {c : Cst} (h : checkC p = some c) {s : St} (hg : Good p c s) (he : GoodE p c s) {o a : Int} (hi : p[s.pc]? = some (o, a)) (hop : 1 ≤ o ∧ o ≤ 17) (inp : Val) : GoodE p c (effect inp (o, a) (fetch s)) := by
  have hlt : s.pc < p.length := (List.getElem?_eq_some_iff.1 hi).1
  have hk := hg hlt
  have hs := checkC_esound h hi (by rw [hk]; omega)
  have h1 := he.2 hlt
  have hout : ((effect inp (o, a) (fetch s)).out.length : Int) ≤ s.out.length + (if o = 14 then 1 else 0) := by
    have e1 : (fetch s).out = s.out := rfl
    rcases effect_out inp (o, a) (fetch s) with h2 | ⟨h3, h2⟩
    · rw [h2, e1]; split <;> omega
    · rw [h2, e1, if_pos h3]; simp
  have hne : ∃ b, b ∈ next p s.pc (o, a) := by
    unfold next
    rw [if_neg (show ¬ o = 0 by omega)]
    split
    · exact ⟨_, List.mem_singleton.2 rfl⟩
    · split
      · exact ⟨_, List.mem_cons_self ..⟩
      · exact ⟨_, List.mem_singleton.2 rfl⟩
  obtain ⟨b, hb⟩ := hne
  have h4 := (hs b hb).1
  simp only at h4 hs
  refine ⟨by omega, fun hl => ?_⟩
  have hpc : (effect inp (o, a) (fetch s)).pc ∈ next p s.pc (o, a) := by
    have e := effect_pc (s := fetch s) (a := a) hop inp
    rw [fetch_pc] at e
    unfold next
    rw [if_neg (show ¬ o = 0 by omega)]
    by_cases h16 : o = 16
    · rw [if_pos h16, List.mem_singleton]
      rw [if_pos h16] at e
      show _ = min (s.pc + 1 + a.toNat) p.length
      omega
    rw [if_neg h16] at e ⊢
    by_cases h15 : o = 15
    · rw [if_pos h15] at e ⊢
      rw [List.mem_cons, List.mem_singleton]
      show _ ∨ _ = min (s.pc + 1 + a.toNat) p.length
      split at e
      · right; omega
      · left; exact e
    · rw [if_neg h15] at e ⊢
      rw [List.mem_singleton]; exact e
  have := (hs _ hpc).2 hl
  omega
theorem exec_four {p : List Ins} {c : Cst} (h : checkC p = some c) {inp : Val} : ∀ (f : Nat) (s : St), Good p c s → GoodE p c s → (exec p inp f s).out.length ≤ 4
  | 0, s, _, he => he.1
  | f + 1, s, hg, he => by
    rw [exec]
    cases e : p[s.pc]? with
    | none => exact he.1
    | some i =>
      obtain ⟨o, a⟩ := i
      simp only
      split
      · exact he.1
      · rename_i h0
        have hm := fits_op (checkC_fits h) _ (List.mem_of_getElem? e)
        simp only at hm
        have hop : 1 ≤ o ∧ o ≤ 17 := by omega
        exact exec_four h f _ (good_effect h hg e hop inp).2 (goodE_effect h hg he e hop inp)
theorem each1_four {l : List Ins} (h : safe l = true) (c0 c1 v : Val) : (each l ⟨[], c0, c1, 0⟩ [v]).out.length ≤ 4 := by
  unfold safe at h
  obtain ⟨c, hc⟩ := Option.isSome_iff_exists.1 h
  refine exec_four hc (l.length + 1) (stOf ⟨[], c0, c1, 0⟩) (fun hl => ?_) ⟨Nat.zero_le _, fun hl => ?_⟩
  · have h2 : 0 < l.length := hl
    exact checkC_zero hc h2
  · have := (checkC_inv hc).2 0
    show ((0 : Nat) : Int) ≤ c.emits.getD 0 0
    omega
end Vm
