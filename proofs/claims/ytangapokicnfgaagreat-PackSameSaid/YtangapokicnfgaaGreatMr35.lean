import Derived.Test.YtangapokicnfgaaGreatMr23
import Derived.Test.YtangapokicnfgaaGreatMr16
import Derived.DeepKeys4
import Derived.DeepKeys5
import Derived.Maps.Views
/-! Programs that may run, by all their ways: plain laws. -/
namespace Vm
set_option linter.unusedSimpArgs false
set_option linter.unusedVariables false
open Ga

/-- A set of places, each with a depth and what was put out, that nothing leads out of. -/
structure Closed (l : List Ins) (M : Nat → Int → Int → Prop) : Prop where
  zero : M 0 0 0
  ok : ∀ k d e, M k d e → d ≤ 8 ∧ 0 ≤ e ∧ e ≤ 4 ∧ k ≤ l.length
  one : ∀ k d e d' e', M k d e → M k d' e' → k < l.length → d = d'
  enough : ∀ k d e i, M k d e → l[k]? = some i → (takes i.1 : Int) ≤ d
  next : ∀ k d e i, M k d e → l[k]? = some i → ∀ a ∈ next l k i, M a (d - takes i.1 + leaves i.1) (e + if i.1 = 14 then 1 else 0)
/-- All that is known is so on some way. -/
structure Real (n : Nat) (M : Nat → Int → Int → Prop) (s : Cst) : Prop where
  dl : s.depth.length = n
  el : s.emits.length = n
  m : ∀ j, s.depth.getD j (-1) ≠ -1 → M j (s.depth.getD j (-1)) (s.emits.getD j 0)
  z : ∀ j, s.depth.getD j (-1) = -1 → s.emits.getD j 0 = 0
theorem Real.come {l : List Ins} {M : Nat → Int → Int → Prop} (h : Closed l M) {s : Cst} (hr : Real l.length M s) {k : Nat} {d e : Int} (hm : M k d e) (hd : 0 ≤ d) : (come l.length s k d e).2 = true ∧ Real l.length M (come l.length s k d e).1 := by
  obtain ⟨h1, h2, h3, h4⟩ := h.ok k d e hm
  unfold Vm.come
  rw [if_neg (by omega)]
  by_cases hk : k = l.length
  · rw [if_pos hk]
    exact ⟨rfl, hr.dl, hr.el, hr.m, hr.z⟩
  rw [if_neg hk]
  have hkl : k < l.length := by omega
  have hone : ¬ (s.depth.getD k (-1) ≠ -1 ∧ s.depth.getD k (-1) ≠ d) := fun hh => hh.2 (h.one k _ _ _ _ (hr.m k hh.1) hm hkl)
  rw [if_neg hone]
  refine ⟨rfl, by simp [hr.dl], by simp [hr.el], fun j hj => ?_, fun j hj => ?_⟩
  · show M j ((s.depth.set k d).getD j (-1)) ((s.emits.set k (max (s.emits.getD k 0) e)).getD j 0)
    have hj' : (s.depth.set k d).getD j (-1) ≠ -1 := hj
    rw [getD_set] at hj' ⊢
    rw [getD_set]
    by_cases hjk : j = k
    · subst hjk
      rw [if_pos ⟨rfl, by rw [hr.dl]; exact hkl⟩, if_pos ⟨rfl, by rw [hr.el]; exact hkl⟩]
      by_cases hu : s.depth.getD j (-1) = -1
      · rw [hr.z j hu, show max 0 e = e by omega]; exact hm
      · have hd2 : s.depth.getD j (-1) = d := Classical.byContradiction fun x => hone ⟨hu, x⟩
        have := hr.m j hu
        rw [hd2] at this
        rcases Int.le_total (s.emits.getD j 0) e with x | x
        · rw [show max (s.emits.getD j 0) e = e by omega]; exact hm
        · rw [show max (s.emits.getD j 0) e = s.emits.getD j 0 by omega]; exact this
    · rw [if_neg (fun x => hjk x.1)] at hj' ⊢
      rw [if_neg (fun x => hjk x.1)]
      exact hr.m j hj'
  · show (s.emits.set k (max (s.emits.getD k 0) e)).getD j 0 = 0
    have hj' : (s.depth.set k d).getD j (-1) = -1 := hj
    rw [getD_set] at hj'
    rw [getD_set]
    by_cases hjk : j = k
    · subst hjk
      rw [if_pos ⟨rfl, by rw [hr.dl]; exact hkl⟩] at hj'
      omega
    · rw [if_neg (fun x => hjk x.1)] at hj' ⊢
      exact hr.z j hj'
theorem Real.comes {l : List Ins} {M : Nat → Int → Int → Prop} (h : Closed l M) {d e : Int} (hd : 0 ≤ d) : ∀ (bs : List Nat) {s : Cst}, Real l.length M s → (∀ a ∈ bs, M a d e) → (comes l.length d e bs s).2 = true ∧ Real l.length M (comes l.length d e bs s).1
  | [], s, hr, _ => ⟨rfl, hr⟩
  | a :: bs, s, hr, ha => by
    obtain ⟨h1, h2⟩ := hr.come h (ha a (List.mem_cons_self ..)) hd
    rw [Vm.comes, if_pos h1]
    exact Real.comes h hd bs h2 fun b hb => ha b (List.mem_cons_of_mem _ hb)
theorem Real.uses {n : Nat} {M : Nat → Int → Int → Prop} {s : Cst} (hr : Real n M s) (i : Ins) : Real n M (uses s i) := by
  have h1 := uses_depth s i
  have h2 := uses_emits s i
  exact ⟨by rw [h1]; exact hr.dl, by rw [h2]; exact hr.el, by rw [h1, h2]; exact hr.m, by rw [h1, h2]; exact hr.z⟩
theorem Real.step {l : List Ins} {M : Nat → Int → Int → Prop} (h : Closed l M) {s : Cst} (hr : Real l.length M s) {k : Nat} {i : Ins} (hi : l[k]? = some i) (hk : s.depth.getD k (-1) ≠ -1) : (stepC l s k i).2 = true ∧ Real l.length M (stepC l s k i).1 := by
  have hm := hr.m k hk
  have he := h.enough k _ _ i hm hi
  unfold stepC
  rw [if_neg (by omega)]
  exact (hr.uses i).comes h (by omega) (Vm.next l k i) fun a ha => h.next k _ _ i hm hi a ha
theorem goC_real {l : List Ins} {M : Nat → Int → Int → Prop} (h : Closed l M) : ∀ (r : List Ins) (k : Nat) (s : Cst), (∀ j i, r[j]? = some i → l[k + j]? = some i) → Real l.length M s → (goC l r k s).isSome = true
  | [], k, s, _, _ => rfl
  | i :: r, k, s, hl, hr => by
    have hi : l[k]? = some i := by have := hl 0 i rfl; rwa [Nat.add_zero] at this
    have hn : ∀ j i', r[j]? = some i' → l[k + 1 + j]? = some i' := fun j i' hj => by
      have := hl (j + 1) i' (by rw [List.getElem?_cons_succ]; exact hj)
      rwa [show k + (j + 1) = k + 1 + j by omega] at this
    rw [goC]
    split
    · rename_i hk
      obtain ⟨h1, h2⟩ := hr.step h hi hk
      rw [if_pos h1]
      exact goC_real h r (k + 1) _ hn h2
    · exact goC_real h r (k + 1) _ hn hr
theorem safe_of_closed {l : List Ins} (hf : Co.fitsI l = true) {M : Nat → Int → Int → Prop} (h : Closed l M) : safe l = true := by
  unfold safe checkC
  rw [if_pos hf]
  refine goC_real h l 0 (start l.length) (fun j i hj => by rwa [Nat.zero_add]) ?_
  have h0 : Real l.length M ⟨List.replicate l.length (-1), List.replicate l.length 0, 0, 0, false, false⟩ := by
    have e1 : ∀ j, (List.replicate l.length (-1 : Int)).getD j (-1) = -1 := fun j => by
      rw [List.getD_eq_getElem?_getD, List.getElem?_replicate]; split <;> rfl
    have e2 : ∀ j, (List.replicate l.length (0 : Int)).getD j 0 = 0 := fun j => by
      rw [List.getD_eq_getElem?_getD, List.getElem?_replicate]; split <;> rfl
    exact ⟨List.length_replicate, List.length_replicate, fun j hj => absurd (e1 j) hj, fun j _ => e2 j⟩
  exact (h0.come h h.zero (Int.le_refl _)).2

/-! ### and where it is safe, each way stays within what is known -/
def Snd (l : List Ins) (c : Cst) (k : Nat) (d e : Int) : Prop := 0 ≤ e ∧ d ≤ 8 ∧ e ≤ 4 ∧ k ≤ l.length ∧ (k < l.length → c.depth.getD k (-1) = d ∧ 0 ≤ d ∧ e ≤ c.emits.getD k 0)
theorem come_deep {n : Nat} {s : Cst} {k : Nat} {d e : Int} (hb : (come n s k d e).2 = true) : d ≤ 8 := by
  unfold come at hb
  split at hb
  · cases hb
  · omega
theorem comes_deep {n : Nat} {d e : Int} : ∀ (l : List Nat) (s : Cst), (comes n d e l s).2 = true → ∀ k ∈ l, d ≤ 8
  | [], s, _, k, hk => by cases hk
  | a :: l, s, hb, k, hk => by
    rw [comes] at hb
    split at hb
    · rename_i ha
      exact come_deep ha
    · cases hb
def DSound (p : List Ins) (c : Cst) (k : Nat) (i : Ins) : Prop := c.depth.getD k (-1) ≠ -1 → ∀ a ∈ next p k i, c.depth.getD k (-1) - takes i.1 + leaves i.1 ≤ 8
theorem goC_dsound {p : List Ins} {c : Cst} : ∀ (l : List Ins) (k : Nat) (s : Cst), goC p l k s = some c → k + l.length = p.length → ∀ j i, l[j]? = some i → DSound p c (k + j) i
  | [], _, s, _, _, j, i, hj => by simp at hj
  | i0 :: l, k, s, h, hl, j, i, hj => by
    rw [List.length_cons] at hl
    rw [goC] at h
    cases j with
    | succ j =>
      rw [List.getElem?_cons_succ] at hj
      have e : k + (j + 1) = k + 1 + j := by omega
      rw [e]
      split at h
      · split at h
        · exact goC_dsound l _ _ h (by omega) j i hj
        · cases h
      · exact goC_dsound l _ _ h (by omega) j i hj
    | zero =>
      rw [List.getElem?_cons_zero] at hj
      cases hj
      intro hk
      rw [Nat.add_zero] at hk ⊢
      split at h
      · rename_i hs
        split at h
        · rename_i hb
          have e1 : c.depth.getD k (-1) = s.depth.getD k (-1) := (goC_low l _ _ h (by omega) (by omega)).trans (stepC_low (by omega) (by omega))
          rw [e1]
          intro a ha
          unfold stepC at hb
          split at hb
          · cases hb
          · exact comes_deep (next p k i0) (uses s i0) hb a ha
        · cases h
      · rename_i hs
        exact absurd ((goC_low l _ _ h (by omega) (by omega)).trans (Classical.byContradiction fun x => hs x)) hk
theorem checkC_dsound {p : List Ins} {c : Cst} (h : checkC p = some c) {k : Nat} {i : Ins} (hi : p[k]? = some i) : DSound p c k i := by
  unfold checkC at h
  split at h
  · have := goC_dsound p 0 _ h (by omega) k i hi
    rwa [Nat.zero_add] at this
  · cases h
theorem snd_zero {l : List Ins} {c : Cst} (h : checkC l = some c) : Snd l c 0 0 0 :=
  ⟨Int.le_refl _, by decide, by decide, Nat.zero_le _, fun hl => ⟨checkC_zero h hl, Int.le_refl _, ((checkC_inv h).2 0).1⟩⟩
theorem snd_enough {l : List Ins} {c : Cst} (h : checkC l = some c) {k : Nat} {d e : Int} (hs : Snd l c k d e) {i : Ins} (hi : l[k]? = some i) : (takes i.1 : Int) ≤ d := by
  have hlt : k < l.length := (List.getElem?_eq_some_iff.1 hi).1
  obtain ⟨h1, h2, _⟩ := hs.2.2.2.2 hlt
  have := (checkC_sound h hi (by rw [h1]; omega)).1
  rwa [h1] at this
theorem next_le' {p : List Ins} {k : Nat} {i : Ins} (hk : k < p.length) : ∀ a ∈ next p k i, a ≤ p.length := by
  intro a ha
  unfold next at ha
  split at ha
  · cases ha
  split at ha
  · rw [List.mem_singleton] at ha; omega
  split at ha
  · rcases List.mem_cons.1 ha with e | e
    · omega
    · rw [List.mem_singleton] at e; omega
  · rw [List.mem_singleton] at ha; omega
theorem snd_next {l : List Ins} {c : Cst} (h : checkC l = some c) {k : Nat} {d e : Int} (hs : Snd l c k d e) {i : Ins} (hi : l[k]? = some i) : ∀ a ∈ next l k i, Snd l c a (d - takes i.1 + leaves i.1) (e + if i.1 = 14 then 1 else 0) := by
  intro a ha
  have hlt : k < l.length := (List.getElem?_eq_some_iff.1 hi).1
  obtain ⟨h1, h2, h3⟩ := hs.2.2.2.2 hlt
  have hk : c.depth.getD k (-1) ≠ -1 := by rw [h1]; omega
  obtain ⟨s1, s2⟩ := checkC_sound h hi hk
  obtain ⟨e1, e2⟩ := checkC_esound h hi hk a ha
  have d1 := checkC_dsound h hi hk a ha
  rw [h1] at s1 s2 d1
  have hp : (0 : Int) ≤ if i.1 = 14 then 1 else 0 := by split <;> decide
  have h0 := hs.1
  refine ⟨by omega, d1, by omega, next_le' hlt a ha, fun hal => ⟨s2 a ha hal, by omega, Int.le_trans (by omega) (e2 hal)⟩⟩
end Vm

/-! The document's machine: on right values it reckons as the program does. -/
namespace Vm
set_option linter.unusedSimpArgs false
set_option linter.unusedVariables false
open Ga

theorem right_parts {v : Val} (h : rightV v = true) : into v.1 = v.1 ∧ into v.2 = v.2 := by
  unfold rightV at h
  simp only [Bool.and_eq_true, decide_eq_true_eq] at h
  exact ⟨h.1.symm, h.2.symm⟩
end Vm

/-! forebayref05.take and leave. -/
namespace Go.Proofs.YtangapokicnfgaaGreat
set_option linter.unusedSimpArgs false
set_option linter.unusedVariables false
open Go.RowKit Ga
set_option maxRecDepth 100000

set_option maxHeartbeats 8000000 in
theorem take05_any (op : Int) (h0 : 0 ≤ op) (h1 : op ≤ 17) (w : World) : Calls Tryz.prog 79 #[.int .i64 op] w fun e w' => e = .returned (.int .i64 (takesI op)) ∧ w = w' := by
  have hc : op = 0 ∨ op = 1 ∨ op = 2 ∨ op = 3 ∨ op = 4 ∨ op = 5 ∨ op = 6 ∨ op = 7 ∨ op = 8 ∨ op = 9 ∨ op = 10 ∨ op = 11 ∨ op = 12 ∨ op = 13 ∨ op = 14 ∨ op = 15 ∨ op = 16 ∨ op = 17 := by omega
  clear h0 h1
  rcases hc with rfl | rfl | rfl | rfl | rfl | rfl | rfl | rfl | rfl | rfl | rfl | rfl | rfl | rfl | rfl | rfl | rfl | rfl
  all_goals
    go_enter Tryz.func79, Tryz.ntmps79
    go_wp2
    go_ret
    exact ⟨rfl, rfl⟩

set_option maxHeartbeats 8000000 in
theorem leave05_any (op : Int) (h0 : 0 ≤ op) (h1 : op ≤ 17) (w : World) : Calls Tryz.prog 80 #[.int .i64 op] w fun e w' => e = .returned (.int .i64 (leavesI op)) ∧ w = w' := by
  have hc : op = 0 ∨ op = 1 ∨ op = 2 ∨ op = 3 ∨ op = 4 ∨ op = 5 ∨ op = 6 ∨ op = 7 ∨ op = 8 ∨ op = 9 ∨ op = 10 ∨ op = 11 ∨ op = 12 ∨ op = 13 ∨ op = 14 ∨ op = 15 ∨ op = 16 ∨ op = 17 := by omega
  clear h0 h1
  rcases hc with rfl | rfl | rfl | rfl | rfl | rfl | rfl | rfl | rfl | rfl | rfl | rfl | rfl | rfl | rfl | rfl | rfl | rfl
  all_goals
    go_enter Tryz.func80, Tryz.ntmps80
    go_wp2
    go_ret
    exact ⟨rfl, rfl⟩
end Go.Proofs.YtangapokicnfgaaGreat

/-! A set of places, as a map that the call makes. -/
namespace Go.Proofs.YtangapokicnfgaaGreat
set_option linter.unusedSimpArgs false
set_option linter.unusedVariables false
open Go.RowKit Ga
set_option maxRecDepth 100000

theorem laidOutP : laidOutB Tryz.prog = true := by kernel_rfl
theorem place_law : Maps.Keyed Tryz.prog 131 := Maps.Keyed.of_law (deep_law_laid laidOutP (m := 3) (by decide) (of_decide_eq_true (by kernel_rfl)) (by kernel_rfl) (by kernel_rfl))
abbrev Pl := Int × Int × Int
def plV (x : Pl) : Value := .agg #[.int .i64 x.1, .int .i64 x.2.1, .int .i64 x.2.2]
theorem plV_inj {x y : Pl} (h : plV x = plV y) : x = y := by
  obtain ⟨a, b, c⟩ := x
  obtain ⟨d, e, f⟩ := y
  unfold plV at h
  simp at h
  obtain ⟨rfl, rfl, rfl⟩ := h
  rfl
def small (n : Int) : Prop := -9223372036854775808 ≤ n ∧ n ≤ 9223372036854775807
theorem keyTypeP : Tryz.prog.keyType 131 = true := by kernel_rfl
theorem cellsP : Tryz.prog.cellsOf 131 = 3 := by kernel_rfl
theorem cellsI1 : Tryz.prog.cellsOf 3 = 1 := by kernel_rfl
theorem sizeP : Tryz.prog.types.size ≠ 0 := of_decide_eq_true (by kernel_rfl)
theorem keyP (x : Pl) (h1 : small x.1) (h2 : small x.2.1) (h3 : small x.2.2) : ∃ kl, keyOf Tryz.prog 131 (plV x) = some kl := by
  have w1 := WalkArith.wf_i64 h1
  have w2 := WalkArith.wf_i64 h2
  have w3 := WalkArith.wf_i64 h3
  unfold plV keyOf
  obtain ⟨m, hm⟩ := Nat.exists_eq_succ_of_ne_zero sizeP
  simp only [Tryz.underlying131, keyTypeP, hm]
  simp [Value.formed, Tryz.underlying131, cellsP, Program.keyLits, Value.cells, Tryz.underlying3, cellsI1, w1, w2, w3]

/-- Block b is the set of the places M. -/
def SetAt (W : World) (b n : Nat) (M : List Pl) : Prop := ∃ D : DataW Unit, W.ownsMap Tryz.prog 131 (plainElem Tryz.prog 4) b n D ∧ Maps.IsMap D ∧ ∀ x kl, keyOf Tryz.prog 131 (plV x) = some kl → D.atKey kl (.lit (.bool false)) = .lit (.bool (decide (x ∈ M)))
theorem SetAt.made (W : World) : SetAt (W.alloc (.map #[] 0)) W.heap.size 0 [] :=
  ⟨_, World.ownsMap_made _ _ _ _, ⟨_, rfl⟩, fun x kl _ => by simp [WideAt.atKey_none]⟩
theorem SetAt.same {W W' : World} {b n : Nat} {M : List Pl} (h : SetAt W b n M) (hb : W'.heap[b]? = W.heap[b]?) : SetAt W' b n M := by
  obtain ⟨D, ⟨es, c, h1, h2⟩, h3⟩ := h
  exact ⟨D, ⟨es, c, by rw [hb]; exact h1, h2⟩, h3⟩
theorem zeroBool (w : World) : (zeroValue 4).run Tryz.prog w = .ok (.bool false) w := by kernel_rfl
theorem plainBool_inv {v : Value} {b : Bool} {ps : List MemPlace} (h : plainElem (H := Unit) Tryz.prog 4 v = some (.lit (.bool b), ps)) : v = .bool b := by
  unfold plainElem at h
  rw [Tryz.underlying4] at h
  cases v <;> simp at h
  rw [h.1]
theorem SetAt.look {W : World} {b n : Nat} {M : List Pl} (h : SetAt W b n M) (x : Pl) (h1 : small x.1) (h2 : small x.2.1) (h3 : small x.2.2) : (Instr.lookup 129 (.map (some b)) (plV x) false).run Tryz.prog W = .ok (.bool (decide (x ∈ M))) W := by
  obtain ⟨D, ho, _, hD⟩ := h
  obtain ⟨kl, hk⟩ := keyP x h1 h2 h3
  obtain ⟨v, ps, hr, hv⟩ := World.ownsMap.lookup ho place_law Tryz.underlying129 (zeroBool W) (zd := .lit (.bool false)) (zp := []) (plainElem_bool Tryz.underlying4 false) hk
  rw [hD x kl hk] at hv
  rw [hr, plainBool_inv hv]
theorem SetAt.add {W : World} {b n : Nat} {M : List Pl} (h : SetAt W b n M) (hn : n < maxLen) (x : Pl) (h1 : small x.1) (h2 : small x.2.1) (h3 : small x.2.2) :
    ∃ W', (Instr.mapUpdate 129 (.map (some b)) (plV x) (.bool true)).run Tryz.prog W = .ok () W' ∧ SetAt W' b (n + 1) (x :: M) ∧ W.grownBy W' (some b) := by
  obtain ⟨D, ho, hm, hD⟩ := h
  obtain ⟨kl, hk⟩ := keyP x h1 h2 h3
  obtain ⟨W', hr, ho', hg⟩ := World.ownsMap.update ho place_law Tryz.underlying129 hn hk (plainElem_bool Tryz.underlying4 true)
  refine ⟨W', hr, ⟨_, ho', ?_, fun y ky hy => ?_⟩, hg⟩
  · obtain ⟨es, rfl⟩ := hm
    exact ⟨_, rfl⟩
  · by_cases hyx : y = x
    · subst hyx
      rw [hk] at hy
      cases hy
      rw [Maps.atKey_put_same hm (place_law.key hk)]
      simp
    · have hne : ky ≠ kl := fun e => hyx (plV_inj (place_law.inj (e ▸ hy) hk))
      rw [Maps.atKey_put_other hne, hD y ky hy]
      simp [hyx]
theorem wpList_setAdd {w0 W : World} {ops : Array Oper} {rest : List Oper} {o : Oper} {a : Act} {Q : Exit → Act → World → Prop} {b n : Nat} {M : List Pl}
    (hg : o.guard = none) (m k v : Operand) (hop : o.op = Op.mapUpdate 129 m k v) (hgr : Grew w0 W) (hb : w0.heap.size ≤ b)
    (hm : a.eval m = .map (some b)) (h : SetAt W b n M) (hn : n < maxLen) (x : Pl) (h1 : small x.1) (h2 : small x.2.1) (h3 : small x.2.2) (hk : a.eval k = plV x) (hv : a.eval v = .bool true)
    (hK : ∀ W', SetAt W' b (n + 1) (x :: M) → Grew w0 W' → (∀ q, q < W.heap.size → q ≠ b → W'.heap[q]? = W.heap[q]?) → W.heap.size ≤ W'.heap.size → wpList Tryz.prog ops Q rest (a.put o.dst undef) W') : wpList Tryz.prog ops Q (o :: rest) a W := by
  refine wpList_plain hg fun K' hK' => ?_
  obtain ⟨W', hrun, r1, r2⟩ := h.add hn x h1 h2 h3
  unfold Oper.wp
  simp [execOp, hop, hm, hk, hv, hrun, Result.andThen]
  exact hK' _ _ (hK W' r1 (hgr.grown r2 (fun q hq => by cases hq; exact hb)) (fun q hq hne => r2.block q hq (by simpa using hne)) r2.size)
end Go.Proofs.YtangapokicnfgaaGreat
