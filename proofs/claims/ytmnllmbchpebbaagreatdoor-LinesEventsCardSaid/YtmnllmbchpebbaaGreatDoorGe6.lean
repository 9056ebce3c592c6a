import Derived.Test.YtmnllmbchpebbaaGreatDoorGe3
import Derived.Test.YtmnllmbchpebbaaGreatDoorGe2
import Derived.Lib.SplitLaws
/-! Programs that run; programs that may run: plain laws. -/
namespace Vm
set_option linter.unusedSimpArgs false
set_option linter.unusedVariables false
open Ga

abbrev Ins := Int × Int

/-! ### a machine -/
structure St where
  out : List Val
  c0 : Val
  c1 : Val
  steps : Int
  pc : Nat
  stack : List Val

def cellAt (s : St) (a : Int) : Val := if a = 0 then s.c0 else s.c1
def setCellAt (s : St) (a : Int) (v : Val) : St := if a = 0 then { s with c0 := v } else { s with c1 := v }
def top1 (s : St) : Val := s.stack.getLastD (0, 0)
def pop1 (s : St) : St := { s with stack := s.stack.dropLast }
def push1 (s : St) (v : Val) : St := { s with stack := s.stack ++ [v] }
def two (op : Int) (x y : Val) : Val :=
  if op = 6 then addV (addV (0, 0) x) y else if op = 7 then subV x y else if op = 8 then mulV (mulV (1, 0) x) y else (if lessV x y then 1 else 0, 0)
def jump1 (s : St) (k : Int) : St := { s with pc := s.pc + k.toNat }
def emit1 (s : St) (v : Val) : St := { s with out := s.out ++ [v] }
/-- behind the fetch: at and steps are raised -/
def effect (inp : Val) (i : Ins) (s : St) : St :=
  if i.1 = 1 then push1 s (i.2, 0)
  else if i.1 = 2 then push1 s (0, i.2)
  else if i.1 = 3 then push1 s inp
  else if i.1 = 4 then push1 s (cellAt s i.2)
  else if i.1 = 5 then setCellAt (pop1 s) i.2 (top1 s)
  else if i.1 = 15 then (if zeroV (top1 s) then jump1 (pop1 s) i.2 else pop1 s)
  else if i.1 = 16 then jump1 s i.2
  else if i.1 = 6 ∨ i.1 = 7 ∨ i.1 = 8 ∨ i.1 = 17 then push1 (pop1 (pop1 s)) (two i.1 (top1 (pop1 s)) (top1 s))
  else if i.1 = 9 then push1 (pop1 s) (conjV (top1 s))
  else if i.1 = 10 then push1 (pop1 s) (turnV (top1 s))
  else if i.1 = 11 then push1 (push1 (pop1 s) (top1 s)) (top1 s)
  else if i.1 = 12 then push1 (push1 (pop1 (pop1 s)) (top1 s)) (top1 (pop1 s))
  else if i.1 = 14 then emit1 (pop1 s) (top1 s)
  else pop1 s
def fetch (s : St) : St := { s with pc := s.pc + 1, steps := s.steps + 1 }
def exec (p : List Ins) (inp : Val) : Nat → St → St
  | 0, s => s
  | f + 1, s => match p[s.pc]? with
    | none => s
    | some i => if i.1 = 0 then fetch s else exec p inp f (effect inp i (fetch s))
/-- what an operation takes and leaves -/
def takes (op : Int) : Nat := if op = 5 ∨ op = 13 ∨ op = 14 ∨ op = 15 ∨ op = 9 ∨ op = 10 ∨ op = 11 then 1 else if op = 6 ∨ op = 7 ∨ op = 8 ∨ op = 17 ∨ op = 12 then 2 else 0
def leaves (op : Int) : Nat := if op = 1 ∨ op = 2 ∨ op = 3 ∨ op = 4 ∨ op = 6 ∨ op = 7 ∨ op = 8 ∨ op = 17 ∨ op = 9 ∨ op = 10 then 1 else if op = 11 ∨ op = 12 then 2 else 0

/-! what was put out before, and the steps before, are carried along -/
/-! ### what is known of a program -/
structure Cst where
  depth : List Int
  emits : List Int
  mx : Int
  em : Int
  u0 : Bool
  u1 : Bool
def raise (s : Cst) (d e : Int) : Cst := { s with mx := max s.mx d, em := max s.em e }
def come (n : Nat) (s : Cst) (k : Nat) (d e : Int) : Cst × Bool :=
  if 8 < d ∨ 4 < e then (raise s d e, false)
  else if k = n then (raise s d e, true)
  else if s.depth.getD k (-1) ≠ -1 ∧ s.depth.getD k (-1) ≠ d then (raise s d e, false)
  else ({ raise s d e with depth := s.depth.set k d, emits := s.emits.set k (max (s.emits.getD k 0) e) }, true)
def next (p : List Ins) (k : Nat) (i : Ins) : List Nat :=
  if i.1 = 0 then [] else if i.1 = 16 then [min (k + 1 + i.2.toNat) p.length] else if i.1 = 15 then [k + 1, min (k + 1 + i.2.toNat) p.length] else [k + 1]
def uses (s : Cst) (i : Ins) : Cst := if i.1 = 4 ∨ i.1 = 5 then (if i.2 = 0 then { s with u0 := true } else { s with u1 := true }) else s
def comes (n : Nat) (d e : Int) : List Nat → Cst → Cst × Bool
  | [], s => (s, true)
  | k :: l, s => if (come n s k d e).2 then comes n d e l (come n s k d e).1 else ((come n s k d e).1, false)
def stepC (p : List Ins) (s : Cst) (k : Nat) (i : Ins) : Cst × Bool :=
  if s.depth.getD k (-1) < takes i.1 then (s, false)
  else comes p.length (s.depth.getD k (-1) - takes i.1 + leaves i.1) (s.emits.getD k 0 + if i.1 = 14 then 1 else 0) (next p k i) (uses s i)
def start (n : Nat) : Cst := (come n ⟨List.replicate n (-1), List.replicate n 0, 0, 0, false, false⟩ 0 0 0).1
/-- from place k on -/
def goC (p : List Ins) : List Ins → Nat → Cst → Option Cst
  | [], _, s => some s
  | i :: l, k, s => if s.depth.getD k (-1) ≠ -1 then (if (stepC p s k i).2 then goC p l (k + 1) (stepC p s k i).1 else none) else goC p l (k + 1) s
def checkC (p : List Ins) : Option Cst := if Co.fitsI p then goC p p 0 (start p.length) else none
def safe (p : List Ins) : Bool := (checkC p).isSome

/-! a depth that is known stays -/
theorem getD_ne_lt {l : List Int} {j : Nat} (h : l.getD j (-1) ≠ -1) : j < l.length := by
  apply Classical.byContradiction; intro hn
  exact h (by rw [List.getD_eq_getElem?_getD, List.getElem?_eq_none (by omega)]; rfl)
theorem getD_set_self {l : List Int} {j : Nat} {d : Int} (h : j < l.length) : (l.set j d).getD j (-1) = d := by
  rw [List.getD_eq_getElem?_getD, List.getElem?_set_self h]; rfl
theorem getD_set_ne {l : List Int} {j k : Nat} {d : Int} (h : j ≠ k) : (l.set k d).getD j (-1) = l.getD j (-1) := by
  rw [List.getD_eq_getElem?_getD, List.getElem?_set_ne (fun e => h e.symm), ← List.getD_eq_getElem?_getD]
theorem come_len (n : Nat) (s : Cst) (k : Nat) (d e : Int) : (come n s k d e).1.depth.length = s.depth.length := by
  unfold come
  split
  · rfl
  split
  · rfl
  split
  · rfl
  · exact List.length_set ..
theorem come_other {n : Nat} {s : Cst} {k : Nat} {d e : Int} {j : Nat} (h : j ≠ k) : (come n s k d e).1.depth.getD j (-1) = s.depth.getD j (-1) := by
  unfold come
  split
  · rfl
  split
  · rfl
  split
  · rfl
  · exact getD_set_ne h
theorem come_keeps {n : Nat} {s : Cst} {k : Nat} {d e : Int} {j : Nat} (h : s.depth.getD j (-1) ≠ -1) : (come n s k d e).1.depth.getD j (-1) = s.depth.getD j (-1) := by
  by_cases hj : j = k
  · subst hj
    unfold come
    split
    · rfl
    split
    · rfl
    split
    · rfl
    · rename_i h1 h2 h3
      have : s.depth.getD j (-1) = d := Classical.byContradiction fun hne => h3 ⟨h, hne⟩
      exact (getD_set_self (getD_ne_lt h)).trans this.symm
  · exact come_other hj
theorem come_sets {n : Nat} {s : Cst} {k : Nat} {d e : Int} (hb : (come n s k d e).2 = true) (hk : k < n) (hl : s.depth.length = n) : (come n s k d e).1.depth.getD k (-1) = d := by
  unfold come at hb ⊢
  split at hb
  · cases hb
  split at hb
  · omega
  split at hb
  · cases hb
  · rename_i h1 h2 h3
    rw [if_neg h1, if_neg h2, if_neg h3]
    exact getD_set_self (by rw [hl]; exact hk)
theorem comes_len (n : Nat) (d e : Int) : ∀ (l : List Nat) (s : Cst), (comes n d e l s).1.depth.length = s.depth.length
  | [], s => rfl
  | k :: l, s => by
    rw [comes]; split
    · exact (comes_len n d e l _).trans (come_len ..)
    · exact come_len ..
theorem comes_keeps {n : Nat} {d e : Int} {j : Nat} : ∀ (l : List Nat) (s : Cst), s.depth.getD j (-1) ≠ -1 → (comes n d e l s).1.depth.getD j (-1) = s.depth.getD j (-1)
  | [], s, _ => rfl
  | k :: l, s, h => by
    rw [comes]; split
    · exact (comes_keeps l _ (by rw [come_keeps h]; exact h)).trans (come_keeps h)
    · exact come_keeps h
theorem comes_low {n : Nat} {d e : Int} {j : Nat} : ∀ (l : List Nat) (s : Cst), (∀ k ∈ l, j < k) → (comes n d e l s).1.depth.getD j (-1) = s.depth.getD j (-1)
  | [], s, _ => rfl
  | k :: l, s, h => by
    have hk := h k (List.mem_cons_self ..)
    rw [comes]; split
    · exact (comes_low l _ fun a ha => h a (List.mem_cons_of_mem _ ha)).trans (come_other (by omega))
    · exact come_other (by omega)
theorem comes_sets {n : Nat} {d e : Int} (hd : d ≠ -1) : ∀ (l : List Nat) (s : Cst), s.depth.length = n → (comes n d e l s).2 = true → ∀ k ∈ l, k < n → (comes n d e l s).1.depth.getD k (-1) = d
  | [], s, _, _, k, hk, _ => by cases hk
  | a :: l, s, hl, hb, k, hk, hn => by
    rw [comes] at hb ⊢
    split at hb
    · rename_i ha
      rw [if_pos ha]
      rcases List.mem_cons.1 hk with e1 | e1
      · subst e1
        have := come_sets ha hn hl
        exact (comes_keeps l _ (by rw [this]; exact hd)).trans this
      · exact comes_sets hd l _ ((come_len ..).trans hl) hb k e1 hn
    · cases hb
theorem uses_depth (s : Cst) (i : Ins) : (uses s i).depth = s.depth := by
  unfold uses; split
  · split <;> rfl
  · rfl
theorem stepC_len (p : List Ins) (s : Cst) (k : Nat) (i : Ins) : (stepC p s k i).1.depth.length = s.depth.length := by
  unfold stepC; split
  · rfl
  · rw [comes_len, uses_depth]
theorem stepC_keeps {p : List Ins} {s : Cst} {k : Nat} {i : Ins} {j : Nat} (h : s.depth.getD j (-1) ≠ -1) : (stepC p s k i).1.depth.getD j (-1) = s.depth.getD j (-1) := by
  unfold stepC; split
  · rfl
  · rw [comes_keeps _ _ (by rw [uses_depth]; exact h), uses_depth]
theorem next_gt {p : List Ins} {k : Nat} {i : Ins} (hk : k < p.length) : ∀ a ∈ next p k i, k < a := by
  intro a ha
  unfold next at ha
  split at ha
  · cases ha
  split at ha
  · rw [List.mem_singleton] at ha; omega
  split at ha
  · rcases List.mem_cons.1 ha with e | e
    · omega
    · rw [List.mem_singleton] at e; omega
  · rw [List.mem_singleton] at ha; omega
theorem stepC_low {p : List Ins} {s : Cst} {k : Nat} {i : Ins} {j : Nat} (hk : k < p.length) (hj : j ≤ k) : (stepC p s k i).1.depth.getD j (-1) = s.depth.getD j (-1) := by
  unfold stepC; split
  · rfl
  · rw [comes_low _ _ (fun a ha => by have := next_gt hk a ha; omega), uses_depth]
theorem goC_keeps {p : List Ins} {c : Cst} {j : Nat} : ∀ (l : List Ins) (k : Nat) (s : Cst), goC p l k s = some c → s.depth.getD j (-1) ≠ -1 → c.depth.getD j (-1) = s.depth.getD j (-1)
  | [], _, s, h, _ => by cases h; rfl
  | i :: l, k, s, h, hj => by
    rw [goC] at h
    split at h
    · split at h
      · exact (goC_keeps l _ _ h (by rw [stepC_keeps hj]; exact hj)).trans (stepC_keeps hj)
      · cases h
    · exact goC_keeps l _ _ h hj
theorem goC_low {p : List Ins} {c : Cst} {j : Nat} : ∀ (l : List Ins) (k : Nat) (s : Cst), goC p l k s = some c → k + l.length = p.length → j < k → c.depth.getD j (-1) = s.depth.getD j (-1)
  | [], _, s, h, _, _ => by cases h; rfl
  | i :: l, k, s, h, hl, hj => by
    rw [List.length_cons] at hl
    rw [goC] at h
    split at h
    · split at h
      · exact (goC_low l _ _ h (by omega) (by omega)).trans (stepC_low (by omega) (by omega))
      · cases h
    · exact goC_low l _ _ h (by omega) (by omega)
/-- at each known place there is enough, and where it leads on, what is left is known -/
def Sound (p : List Ins) (c : Cst) (k : Nat) (i : Ins) : Prop :=
  c.depth.getD k (-1) ≠ -1 → (takes i.1 : Int) ≤ c.depth.getD k (-1) ∧ ∀ a ∈ next p k i, a < p.length → c.depth.getD a (-1) = c.depth.getD k (-1) - takes i.1 + leaves i.1
theorem goC_sound {p : List Ins} {c : Cst} : ∀ (l : List Ins) (k : Nat) (s : Cst), goC p l k s = some c → k + l.length = p.length → s.depth.length = p.length → ∀ j i, l[j]? = some i → Sound p c (k + j) i
  | [], _, s, _, _, _, j, i, hj => by simp at hj
  | i0 :: l, k, s, h, hl, hd, j, i, hj => by
    rw [List.length_cons] at hl
    rw [goC] at h
    cases j with
    | succ j =>
      rw [List.getElem?_cons_succ] at hj
      have e : k + (j + 1) = k + 1 + j := by omega
      rw [e]
      split at h
      · split at h
        · exact goC_sound l _ _ h (by omega) ((stepC_len ..).trans hd) j i hj
        · cases h
      · exact goC_sound l _ _ h (by omega) hd j i hj
    | zero =>
      rw [List.getElem?_cons_zero] at hj
      cases hj
      intro hk
      rw [Nat.add_zero] at hk ⊢
      split at h
      · rename_i hs
        split at h
        · rename_i hb
          have e1 : c.depth.getD k (-1) = s.depth.getD k (-1) := (goC_low l _ _ h (by omega) (by omega)).trans (stepC_low (by omega) (by omega))
          rw [e1]
          unfold stepC at hb
          split at hb
          · cases hb
          · rename_i ht
            refine ⟨by omega, fun a ha hal => ?_⟩
            have hd' : s.depth.getD k (-1) - takes i0.1 + leaves i0.1 ≠ -1 := by omega
            have := comes_sets hd' (next p k i0) (uses s i0) (by rw [uses_depth]; exact hd) hb a ha hal
            have e2 : (stepC p s k i0).1.depth.getD a (-1) = s.depth.getD k (-1) - takes i0.1 + leaves i0.1 := by
              unfold stepC; rw [if_neg ht]; exact this
            exact (goC_keeps l _ _ h (by rw [e2]; exact hd')).trans e2
        · cases h
      · rename_i hs
        exact absurd ((goC_low l _ _ h (by omega) (by omega)).trans (Classical.byContradiction fun x => hs x)) hk
theorem start_len (n : Nat) : (start n).depth.length = n := (come_len ..).trans (List.length_replicate ..)
theorem checkC_sound {p : List Ins} {c : Cst} (h : checkC p = some c) {k : Nat} {i : Ins} (hi : p[k]? = some i) : Sound p c k i := by
  unfold checkC at h
  split at h
  · have := goC_sound p 0 _ h (by omega) (start_len _) k i hi
    rwa [Nat.zero_add] at this
  · cases h
theorem checkC_zero {p : List Ins} {c : Cst} (h : checkC p = some c) (hp : 0 < p.length) : c.depth.getD 0 (-1) = 0 := by
  unfold checkC at h
  split at h
  · have e : (start p.length).depth.getD 0 (-1) = 0 := by
      unfold start come
      rw [if_neg (by omega), if_neg (by omega), if_neg ?_]
      · exact getD_set_self (by rw [List.length_replicate]; exact hp)
      · intro hh
        refine hh.1 ?_
        rw [List.getD_eq_getElem?_getD, List.getElem?_replicate]
        split <;> rfl
    exact (goC_keeps p 0 _ h (by rw [e]; omega)).trans e
  · cases h

/-! ### a program that is safe never takes what is not there -/
def Good (p : List Ins) (c : Cst) (s : St) : Prop := s.pc < p.length → c.depth.getD s.pc (-1) = s.stack.length
theorem push1_pc (s v) : (push1 s v).pc = s.pc := rfl
theorem pop1_pc (s) : (pop1 s).pc = s.pc := rfl
theorem emit1_pc (s v) : (emit1 s v).pc = s.pc := rfl
theorem jump1_pc (s k) : (jump1 s k).pc = s.pc + k.toNat := rfl
theorem setCellAt_pc (s a v) : (setCellAt s a v).pc = s.pc := by unfold setCellAt; split <;> rfl
theorem push1_len (s v) : (push1 s v).stack.length = s.stack.length + 1 := by unfold push1; simp
theorem pop1_len (s) : (pop1 s).stack.length = s.stack.length - 1 := by unfold pop1; simp
theorem emit1_len (s v) : (emit1 s v).stack.length = s.stack.length := rfl
theorem jump1_len (s k) : (jump1 s k).stack.length = s.stack.length := rfl
theorem setCellAt_len (s a v) : (setCellAt s a v).stack.length = s.stack.length := by unfold setCellAt; split <;> rfl
theorem fetch_pc (s : St) : (fetch s).pc = s.pc + 1 := rfl
theorem fetch_len (s : St) : (fetch s).stack.length = s.stack.length := rfl
theorem effect_len {s : St} {o a : Int} (ho : 1 ≤ o ∧ o ≤ 17) (inp : Val) (ht : takes o ≤ s.stack.length) :
    ((effect inp (o, a) s).stack.length : Int) = s.stack.length - takes o + leaves o := by
  have hc : o = 1 ∨ o = 2 ∨ o = 3 ∨ o = 4 ∨ o = 5 ∨ o = 6 ∨ o = 7 ∨ o = 8 ∨ o = 9 ∨ o = 10 ∨ o = 11 ∨ o = 12 ∨ o = 13 ∨ o = 14 ∨ o = 15 ∨ o = 16 ∨ o = 17 := by omega
  rcases hc with rfl | rfl | rfl | rfl | rfl | rfl | rfl | rfl | rfl | rfl | rfl | rfl | rfl | rfl | rfl | rfl | rfl <;>
    simp [effect, takes, leaves, push1_len, pop1_len, emit1_len, jump1_len, setCellAt_len] at ht ⊢ <;> first | omega | (split <;> simp [jump1_len, pop1_len] <;> omega)
theorem effect_pc {s : St} {o a : Int} (ho : 1 ≤ o ∧ o ≤ 17) (inp : Val) :
    (effect inp (o, a) s).pc = (if o = 16 then s.pc + a.toNat else if o = 15 then (if zeroV (top1 s) then s.pc + a.toNat else s.pc) else s.pc) := by
  have hc : o = 1 ∨ o = 2 ∨ o = 3 ∨ o = 4 ∨ o = 5 ∨ o = 6 ∨ o = 7 ∨ o = 8 ∨ o = 9 ∨ o = 10 ∨ o = 11 ∨ o = 12 ∨ o = 13 ∨ o = 14 ∨ o = 15 ∨ o = 16 ∨ o = 17 := by omega
  rcases hc with rfl | rfl | rfl | rfl | rfl | rfl | rfl | rfl | rfl | rfl | rfl | rfl | rfl | rfl | rfl | rfl | rfl <;>
    simp [effect, push1_pc, pop1_pc, emit1_pc, jump1_pc, setCellAt_pc] <;> (split <;> rfl)
theorem good_effect {p : List Ins} {c : Cst} (h : checkC p = some c) {s : St} (hg : Good p c s) {o a : Int} (hi : p[s.pc]? = some (o, a)) (hop : 1 ≤ o ∧ o ≤ 17) (inp : Val) :
    takes o ≤ s.stack.length ∧ Good p c (effect inp (o, a) (fetch s)) := by
  have hlt : s.pc < p.length := by
    rcases Nat.lt_or_ge s.pc p.length with x | x
    · exact x
    · rw [List.getElem?_eq_none x] at hi; cases hi
  have e := hg hlt
  obtain ⟨ht, hn⟩ := checkC_sound h hi (by rw [e]; omega)
  rw [e] at ht hn
  simp only at ht hn
  refine ⟨by omega, ?_⟩
  have ht' : takes o ≤ s.stack.length := by omega
  have hlen := effect_len (s := fetch s) (a := a) hop inp ht'
  rw [fetch_len] at hlen
  have hpc : (effect inp (o, a) (fetch s)).pc < p.length → (effect inp (o, a) (fetch s)).pc ∈ next p s.pc (o, a) := by
    rw [effect_pc hop, fetch_pc]
    unfold next
    rw [if_neg (show ¬ o = 0 by omega)]
    by_cases h16 : o = 16
    · rw [if_pos h16, if_pos h16, List.mem_singleton]
      show _ → _ = min (s.pc + 1 + a.toNat) p.length
      omega
    rw [if_neg h16, if_neg h16]
    by_cases h15 : o = 15
    · rw [if_pos h15, if_pos h15, List.mem_cons, List.mem_singleton]
      show _ → _ ∨ _ = min (s.pc + 1 + a.toNat) p.length
      split
      · intro x; right; omega
      · intro x; left; rfl
    · rw [if_neg h15, if_neg h15, List.mem_singleton]
      intro _; rfl
  intro hl
  rw [hn _ (hpc hl) hl, hlen]
end Vm

/-! What is kept, as a list of entries: a table made of a list keeps just that list if it stands by places and has nothing empty: plain laws. -/
namespace Tab
open Ga
set_option linter.unusedSimpArgs false
set_option linter.unusedVariables false

structure En where
  node : Int
  key : Int
  c0 : Val
  c1 : Val
def num (e : En) : Int := e.node * 64 + e.key
def nz (e : En) : Bool := !(e.c0 == (0, 0) && e.c1 == (0, 0))
/-- something is kept, or nothing any more -/
def setT (m : List En) (x : En) : List En := if nz x then x :: m.filter (fun y => num y != num x) else m.filter (fun y => num y != num x)
theorem num_inj {a b : En} (ha : 0 ≤ a.key ∧ a.key < 64) (hb : 0 ≤ b.key ∧ b.key < 64) (h : num a = num b) : a.node = b.node ∧ a.key = b.key := by
  unfold num at h
  omega
/-- what holds of a table -/
structure Ok (l m : List En) : Prop where
  un : m.Pairwise fun a b => num a ≠ num b
  sub : ∀ x ∈ m, x ∈ l
  nz : ∀ x ∈ m, nz x = true
theorem Ok.set {l m : List En} (h : Ok l m) (x : En) : Ok (l ++ [x]) (setT m x) := by
  have hf : ∀ y ∈ m.filter (fun y => num y != num x), y ∈ m ∧ num y ≠ num x := fun y hy => by
    obtain ⟨h1, h2⟩ := List.mem_filter.1 hy
    exact ⟨h1, by simpa using h2⟩
  unfold setT
  split
  · rename_i hn
    refine ⟨List.pairwise_cons.2 ⟨fun y hy => fun e => (hf y hy).2 e.symm, h.un.filter _⟩, fun y hy => ?_, fun y hy => ?_⟩
    · rcases List.mem_cons.1 hy with rfl | h1
      · exact List.mem_append_right _ (List.mem_singleton.2 rfl)
      · exact List.mem_append_left _ (h.sub y (hf y h1).1)
    · rcases List.mem_cons.1 hy with rfl | h1
      · exact hn
      · exact h.nz y (hf y h1).1
  · exact ⟨h.un.filter _, fun y hy => List.mem_append_left _ (h.sub y (hf y hy).1), fun y hy => h.nz y (hf y hy).1⟩
end Tab

/-! Graphs: an order that takes in all nodes is there just if none lies above itself: plain laws. -/
namespace Gr
set_option linter.unusedSimpArgs false
set_option linter.unusedVariables false

structure Nd where
  id : Int
  kind : Int
  frm : List Int
  prog : List Vm.Ins
  par : Int
  route : List Int
def find (l : List Nd) (id : Int) : Option Nat := l.findIdx? fun n => n.id == id
/-- the document's: can 'to' be come to, up by From, in so many steps? -/
def above (l : List Nd) (fr to : Int) : Nat → Bool
  | 0 => false
  | k + 1 => match (find l fr).bind fun i => l[i]? with
    | none => false
    | some n => n.frm.any fun f => f == to || above l f to k
def Edge (l : List Nd) (x y : Int) : Prop := ∃ n, ((find l x).bind fun i => l[i]?) = some n ∧ y ∈ n.frm
theorem above_succ {l : List Nd} {x z : Int} {k : Nat} : above l x z (k + 1) = true ↔ ∃ y, Edge l x y ∧ (y = z ∨ above l y z k = true) := by
  rw [above]
  cases h : (find l x).bind fun i => l[i]? with
  | none =>
    refine ⟨fun h2 => by simp at h2, ?_⟩
    rintro ⟨y, ⟨n, hn, _⟩, _⟩
    rw [h] at hn
    cases hn
  | some n =>
    simp only [List.any_eq_true, Bool.or_eq_true, beq_iff_eq]
    constructor
    · rintro ⟨y, hy, h2⟩
      exact ⟨y, ⟨n, h, hy⟩, h2⟩
    · rintro ⟨y, ⟨m, hm, hy⟩, h2⟩
      rw [h] at hm
      cases hm
      exact ⟨y, hy, h2⟩
theorem above_mono {l : List Nd} : ∀ (k : Nat) {x z : Int}, above l x z k = true → above l x z (k + 1) = true
  | 0, x, z, h => by simp [above] at h
  | k + 1, x, z, h => by
    obtain ⟨y, hy, h2⟩ := above_succ.1 h
    exact above_succ.2 ⟨y, hy, h2.imp id fun h3 => above_mono k h3⟩
theorem above_le {l : List Nd} {x z : Int} {j k : Nat} (h : j ≤ k) (ha : above l x z j = true) : above l x z k = true := by
  induction k with
  | zero => rw [show j = 0 by omega] at ha; exact ha
  | succ k ih =>
    rcases Nat.lt_or_ge k j with h1 | h1
    · rw [show k + 1 = j by omega]; exact ha
    · exact above_mono k (ih h1)
/-- a way of edges -/
def Way (l : List Nd) (p : Nat → Int) (k : Nat) : Prop := ∀ i, i < k → Edge l (p i) (p (i + 1))
theorem Way.above {l : List Nd} {p : Nat → Int} {k : Nat} (h : Way l p k) : ∀ (d i : Nat), i + d + 1 ≤ k → above l (p i) (p (i + d + 1)) (d + 1) = true
  | 0, i, hk => above_succ.2 ⟨_, h i (by omega), .inl rfl⟩
  | d + 1, i, hk => by
    have := Way.above h d (i + 1) (by omega)
    rw [show i + 1 + d + 1 = i + (d + 1) + 1 by omega] at this
    exact above_succ.2 ⟨_, h i (by omega), .inr this⟩

/-- the program's order -/
def nextS (l : List Nd) (out : List Int) : Option Int := (l.find? fun n => !out.contains n.id && n.frm.all fun f => out.contains f).map (·.id)
def sortG (l : List Nd) : Nat → List Int → List Int
  | 0, out => out
  | k + 1, out => match nextS l out with
    | none => out
    | some id => sortG l k (out ++ [id])
def ids (l : List Nd) : List Int := l.map (·.id)
/-- what holds of an order as far as it goes -/
structure Ord (l : List Nd) (out : List Int) : Prop where
  nd : out.Nodup
  sub : ∀ x ∈ out, x ∈ ids l
  dn : ∀ (i : Nat) (x : Int), out[i]? = some x → ∃ n ∈ l, n.id = x ∧ ∀ f ∈ n.frm, ∃ j, j < i ∧ out[j]? = some f
theorem Ord.nil (l : List Nd) : Ord l [] := ⟨List.nodup_nil, fun x hx => (by cases hx), fun i x h => by simp at h⟩
theorem nextS_some {l : List Nd} {out : List Int} {x : Int} (h : nextS l out = some x) : ∃ n ∈ l, n.id = x ∧ x ∉ out ∧ ∀ f ∈ n.frm, f ∈ out := by
  unfold nextS at h
  rw [Option.map_eq_some_iff] at h
  obtain ⟨n, hn, rfl⟩ := h
  have h1 := List.find?_some hn
  have h2 := List.mem_of_find?_eq_some hn
  simp only [Bool.and_eq_true, Bool.not_eq_true', List.all_eq_true, List.contains_eq_mem, decide_eq_false_iff_not, decide_eq_true_eq] at h1
  exact ⟨n, h2, rfl, h1.1, h1.2⟩
theorem nextS_none {l : List Nd} {out : List Int} (h : nextS l out = none) : ∀ n ∈ l, n.id ∉ out → ∃ f ∈ n.frm, f ∉ out := by
  intro n hn hout
  unfold nextS at h
  rw [Option.map_eq_none_iff, List.find?_eq_none] at h
  have h1 := h n hn
  simp only [Bool.and_eq_true, Bool.not_eq_true', List.contains_eq_mem, decide_eq_false_iff_not, List.all_eq_true, decide_eq_true_eq, not_and, Classical.not_forall] at h1
  obtain ⟨f, hf, h2⟩ := h1 hout
  exact ⟨f, hf, h2⟩
theorem Ord.step {l : List Nd} {out : List Int} (h : Ord l out) {x : Int} (hx : nextS l out = some x) : Ord l (out ++ [x]) := by
  obtain ⟨n, hn, rfl, hno, hall⟩ := nextS_some hx
  refine ⟨List.nodup_append.2 ⟨h.nd, by simp, fun a ha b hb => ?_⟩, fun x hx => ?_, fun i x hi => ?_⟩
  · rw [List.mem_singleton] at hb
    subst hb
    rintro rfl
    exact hno ha
  · rcases List.mem_append.1 hx with h1 | h1
    · exact h.sub x h1
    · rw [List.mem_singleton] at h1
      subst h1
      exact List.mem_map.2 ⟨n, hn, rfl⟩
  · rcases Nat.lt_or_ge i out.length with h1 | h1
    · rw [List.getElem?_append_left h1] at hi
      obtain ⟨m, hm, hid, hf⟩ := h.dn i x hi
      refine ⟨m, hm, hid, fun f hff => ?_⟩
      obtain ⟨j, hj, h2⟩ := hf f hff
      exact ⟨j, hj, by rw [List.getElem?_append_left (by omega)]; exact h2⟩
    · rw [List.getElem?_append_right h1] at hi
      have hi0 : i - out.length = 0 := by
        rcases Nat.eq_zero_or_pos (i - out.length) with h2 | h2
        · exact h2
        · rw [List.getElem?_eq_none (by simp; omega)] at hi
          cases hi
      rw [hi0] at hi
      simp at hi
      refine ⟨n, hn, hi, fun f hff => ?_⟩
      obtain ⟨j, hj, h2⟩ := List.mem_iff_getElem.1 (hall f hff)
      exact ⟨j, by omega, by rw [List.getElem?_append_left hj, List.getElem?_eq_getElem hj, h2]⟩
theorem Ord.le {l : List Nd} {out : List Int} (h : Ord l out) : out.length ≤ l.length := by
  have := h.nd.length_le_of_subset h.sub
  unfold ids at this
  rwa [List.length_map] at this
theorem sortG_ord {l : List Nd} : ∀ (k : Nat) (out : List Int), Ord l out → Ord l (sortG l k out)
  | 0, out, h => h
  | k + 1, out, h => by
    rw [sortG]
    cases hn : nextS l out with
    | none => exact h
    | some x => exact sortG_ord k _ (h.step hn)
theorem sortG_end {l : List Nd} : ∀ (k : Nat) (out : List Int), Ord l out → l.length < k + out.length → nextS l (sortG l k out) = none
  | 0, out, h, hk => by have := h.le; omega
  | k + 1, out, h, hk => by
    rw [sortG]
    cases hn : nextS l out with
    | none => exact hn
    | some x => exact sortG_end k _ (h.step hn) (by rw [List.length_append]; simp; omega)

theorem find_of_mem {l : List Nd} {x : Int} (h : x ∈ ids l) : ∃ n, ((find l x).bind fun i => l[i]?) = some n ∧ n ∈ l ∧ n.id = x := by
  obtain ⟨n, hn, rfl⟩ := List.mem_map.1 h
  cases hf : find l n.id with
  | none =>
    unfold find at hf
    rw [List.findIdx?_eq_none_iff] at hf
    have := hf n hn
    simp at this
  | some i =>
    have hf2 := hf
    unfold find at hf
    obtain ⟨hi, h1, -⟩ := List.findIdx?_eq_some_iff_getElem.1 hf
    exact ⟨l[i], by simp [List.getElem?_eq_getElem hi], List.getElem_mem hi, by simpa using h1⟩
/-- no order takes in all: then one lies above itself -/
theorem cycle_of {l : List Nd} {out : List Int} (h8 : l.length ≤ 8) (hn : nextS l out = none) (hfr : ∀ n ∈ l, ∀ f ∈ n.frm, f ∈ ids l) {x : Int} (hx : x ∈ ids l) (hxo : x ∉ out) : ∃ y ∈ ids l, above l y y 9 = true := by
  have hstep : ∀ y : Int, ∃ z : Int, y ∈ ids l → y ∉ out → Edge l y z ∧ z ∈ ids l ∧ z ∉ out := by
    intro y
    by_cases hy : y ∈ ids l ∧ y ∉ out
    · obtain ⟨n, h1, h2, h3⟩ := find_of_mem hy.1
      obtain ⟨f, hf, hfo⟩ := nextS_none hn n h2 (by rw [h3]; exact hy.2)
      exact ⟨f, fun _ _ => ⟨⟨n, h1, hf⟩, hfr n h2 f hf, hfo⟩⟩
    · exact ⟨0, fun h1 h2 => absurd ⟨h1, h2⟩ hy⟩
  obtain ⟨g, hg⟩ := Classical.axiomOfChoice hstep
  let p : Nat → Int := fun i => Nat.rec x (fun _ y => g y) i
  have hp : ∀ i, p i ∈ ids l ∧ p i ∉ out := by
    intro i
    induction i with
    | zero => exact ⟨hx, hxo⟩
    | succ i ih => exact (hg (p i) ih.1 ih.2).2
  have hw : ∀ k, Way l p k := fun k i _ => (hg (p i) (hp i).1 (hp i).2).1
  have hnd : ¬ ((List.range 9).map p).Nodup := fun hnd => by
    have := hnd.length_le_of_subset (l₂ := ids l) (fun y hy => by
      obtain ⟨i, -, rfl⟩ := List.mem_map.1 hy
      exact (hp i).1)
    unfold ids at this
    simp at this
    omega
  have hex : ∃ i j, i < j ∧ j < 9 ∧ p i = p j := by
    refine Classical.byContradiction fun hne => hnd ?_
    rw [List.Nodup, List.pairwise_iff_getElem]
    intro i j hi hj hij he
    simp at hi hj
    simp at he
    exact hne ⟨i, j, hij, hj, he⟩
  obtain ⟨i, j, hij, hj, he⟩ := hex
  have ha := (hw 9).above (j - i - 1) i (by omega)
  rw [show i + (j - i - 1) + 1 = j by omega, ← he] at ha
  exact ⟨p i, (hp i).1, above_le (by omega) ha⟩
/-- an order that takes in all: none lies above itself -/
theorem no_cycle {l : List Nd} {out : List Int} (h : Ord l out) (hu : (ids l).Nodup) (hlen : out.length = l.length) : ∀ (k : Nat) (x z : Int) (i : Nat), out[i]? = some x → above l x z k = true → ∃ j, j < i ∧ out[j]? = some z
  | 0, x, z, i, hi, ha => by simp [above] at ha
  | k + 1, x, z, i, hi, ha => by
    obtain ⟨y, ⟨n, h1, h2⟩, h3⟩ := above_succ.1 ha
    obtain ⟨m, hm, hid, hf⟩ := h.dn i x hi
    have hnm : n = m := by
      obtain ⟨n', h4, h5, h6⟩ := find_of_mem (l := l) (x := x) (List.mem_map.2 ⟨m, hm, hid⟩)
      rw [h1] at h4
      cases h4
      obtain ⟨a, ha', e1⟩ := List.mem_iff_getElem.1 h5
      obtain ⟨b, hb', e2⟩ := List.mem_iff_getElem.1 hm
      have hab : a = b := by
        refine Classical.byContradiction fun hne => ?_
        have hp := List.pairwise_iff_getElem.1 hu
        rcases Nat.lt_or_gt_of_ne hne with hlt | hlt
        · refine hp a b (by simpa [ids] using ha') (by simpa [ids] using hb') hlt ?_
          simp [ids, e1, e2, h6, hid]
        · refine hp b a (by simpa [ids] using hb') (by simpa [ids] using ha') hlt ?_
          simp [ids, e1, e2, h6, hid]
      subst hab
      rw [← e1, ← e2]
    subst hnm
    obtain ⟨j, hj, h4⟩ := hf y h2
    rcases h3 with rfl | h3
    · exact ⟨j, hj, h4⟩
    · obtain ⟨j', hj', h5⟩ := no_cycle h hu hlen k y z j h4 h3
      exact ⟨j', by omega, h5⟩
theorem sort_all {l : List Nd} (h8 : l.length ≤ 8) (hu : (ids l).Nodup) (hfr : ∀ n ∈ l, ∀ f ∈ n.frm, f ∈ ids l) : (sortG l (l.length + 1) []).length = l.length ↔ ∀ n ∈ l, above l n.id n.id 9 = false := by
  have ho := sortG_ord (l.length + 1) [] (Ord.nil l)
  have hend := sortG_end (l.length + 1) [] (Ord.nil l) (by simp)
  generalize sortG l (l.length + 1) [] = out at *
  have hin : out.length = l.length → ∀ x ∈ ids l, x ∈ out := by
    intro hlen x hx
    refine Classical.byContradiction fun hxo => ?_
    have := (List.nodup_cons.2 ⟨hxo, ho.nd⟩).length_le_of_subset (l₂ := ids l) (fun y hy => by
      rcases List.mem_cons.1 hy with rfl | h1
      · exact hx
      · exact ho.sub y h1)
    unfold ids at this
    simp at this
    omega
  constructor
  · intro hlen n hn
    cases ha : above l n.id n.id 9 with
    | false => rfl
    | true =>
      exfalso
      obtain ⟨i, hi, e⟩ := List.mem_iff_getElem.1 (hin hlen n.id (List.mem_map.2 ⟨n, hn, rfl⟩))
      obtain ⟨j, hj, e2⟩ := no_cycle ho hu hlen 9 n.id n.id i (by rw [List.getElem?_eq_getElem hi, e]) ha
      have hj' : j < out.length := by omega
      rw [List.getElem?_eq_getElem hj'] at e2
      have := List.pairwise_iff_getElem.1 ho.nd j i hj' hi hj
      exact this (by rw [e]; exact Option.some.inj e2)
  · intro hall
    refine Classical.byContradiction fun hne => ?_
    have hlt : out.length < l.length := by have := ho.le; omega
    have hex : ∃ x ∈ ids l, x ∉ out := by
      refine Classical.byContradiction fun hno => ?_
      have := hu.length_le_of_subset (l₂ := out) (fun x hx => Classical.byContradiction fun hxo => hno ⟨x, hx, hxo⟩)
      unfold ids at this
      simp at this
      omega
    obtain ⟨x, hx, hxo⟩ := hex
    obtain ⟨y, hy, ha⟩ := cycle_of h8 hend hfr hx hxo
    obtain ⟨n, hn, rfl⟩ := List.mem_map.1 hy
    rw [hall n hn] at ha
    cases ha
end Gr

/-! Graphs: what the document calls right, and what the program does: the same. -/
namespace Gr
set_option linter.unusedSimpArgs false
set_option linter.unusedVariables false

/-- a node among others, by the document -/
structure OkR (l : List Nd) (i : Nat) (n : Nd) : Prop where
  id0 : 0 ≤ n.id
  id7 : n.id ≤ 7
  fst : find l n.id = some i
  kd0 : 0 ≤ n.kind
  kd2 : n.kind ≤ 2
  pr1 : 1 ≤ n.par
  pr3 : n.par ≤ 3
  fr3 : n.frm.length ≤ 3
  src : n.id = 0 ↔ n.kind = 0
  rt : ∀ g ∈ n.route, 0 ≤ g ∧ g < n.par
  f0 : n.kind = 0 → n.frm.length = 0
  f1 : n.kind = 1 → n.frm.length = 1
  f2 : n.kind = 2 → n.frm.length ≠ 0
  p1 : n.kind = 1 → Vm.safe n.prog = true
  p0 : n.kind ≠ 1 → n.prog.length = 0
  fr : ∀ k f, n.frm[k]? = some f → (∃ j m, find l f = some j ∧ l[j]? = some m ∧ m.kind ≠ 2) ∧ f ∉ n.frm.take k
/-- .. and a graph -/
structure RightR (l : List Nd) : Prop where
  len : l.length ≤ 8
  ok : ∀ i n, l[i]? = some n → OkR l i n
  one : l.countP (fun n => n.kind == 0) = 1
  ac : ∀ n ∈ l, above l n.id n.id 9 = false
/-- a node among others, by the program -/
structure OkP (l : List Nd) (n : Nd) : Prop where
  id0 : 0 ≤ n.id
  id7 : n.id < 8
  kd : (n.kind = 0 ∧ n.id = 0 ∧ n.frm.length = 0 ∧ n.prog.length = 0) ∨ (n.kind = 1 ∧ n.id ≠ 0 ∧ n.frm.length = 1 ∧ Vm.safe n.prog = true) ∨ (n.kind = 2 ∧ n.id ≠ 0 ∧ 1 ≤ n.frm.length ∧ n.frm.length ≤ 3 ∧ n.frm.Nodup ∧ n.prog.length = 0)
  pr1 : 1 ≤ n.par
  pr3 : n.par ≤ 3
  rt : ∀ g ∈ n.route, 0 ≤ g ∧ g < n.par
  fr : ∀ f ∈ n.frm, ∃ j m, find l f = some j ∧ l[j]? = some m ∧ m.kind ≠ 2
structure RightP (l l' : List Nd) : Prop where
  len : l.length ≤ 8
  ok : ∀ n ∈ l, OkP l n
  un : (ids l).Nodup
  z : (0 : Int) ∈ ids l
  so : (sortG l' (l'.length + 1) []).length = l.length

theorem perm_ids {l l' : List Nd} (hp : l.Perm l') : (ids l).Perm (ids l') := hp.map _
theorem nodup_take {l : List Int} : l.Nodup ↔ ∀ k f, l[k]? = some f → f ∉ l.take k := by
  rw [List.Nodup, List.pairwise_iff_getElem]
  constructor
  · intro h k f hk hf
    obtain ⟨j, hj, e⟩ := List.mem_iff_getElem.1 hf
    rw [List.length_take] at hj
    rw [List.getElem_take] at e
    obtain ⟨hk', e2⟩ := List.getElem?_eq_some_iff.1 hk
    exact h j k (by omega) hk' (by omega) (by rw [e, e2])
  · intro h i j hi hj hij he
    refine h j l[j] (List.getElem?_eq_getElem hj) ?_
    rw [← he]
    exact List.mem_iff_getElem.2 ⟨i, by rw [List.length_take]; omega, by rw [List.getElem_take]⟩
theorem find_some {l : List Nd} {x : Int} {j : Nat} (h : find l x = some j) : ∃ m, l[j]? = some m ∧ m.id = x := by
  unfold find at h
  obtain ⟨hi, h1, -⟩ := List.findIdx?_eq_some_iff_getElem.1 h
  exact ⟨l[j], List.getElem?_eq_getElem hi, by simpa using h1⟩
/-- each is the first of its number: the numbers are unlike -/
theorem ids_nodup {l : List Nd} : (∀ i n, l[i]? = some n → find l n.id = some i) ↔ (ids l).Nodup := by
  rw [List.Nodup, List.pairwise_iff_getElem]
  constructor
  · intro h i j hi hj hij he
    have hi' : i < l.length := by simpa [ids] using hi
    have hj' : j < l.length := by simpa [ids] using hj
    have h1 := h i l[i] (List.getElem?_eq_getElem hi')
    have h2 := h j l[j] (List.getElem?_eq_getElem hj')
    simp [ids] at he
    rw [he, h2] at h1
    have := Option.some.inj h1
    omega
  · intro h i n hn
    obtain ⟨hi, e⟩ := List.getElem?_eq_some_iff.1 hn
    unfold find
    refine List.findIdx?_eq_some_iff_getElem.2 ⟨hi, by simp [e], fun j hji => ?_⟩
    have := h j i (by simp [ids]; omega) (by simp [ids]; omega) hji
    simp [ids, e] at this
    simpa using this
theorem bind_find {l : List Nd} (hu : (ids l).Nodup) {n : Nd} (hn : n ∈ l) : ((find l n.id).bind fun i => l[i]?) = some n := by
  obtain ⟨i, hi, e⟩ := List.mem_iff_getElem.1 hn
  have h1 := ids_nodup.2 hu i n (by rw [List.getElem?_eq_getElem hi, e])
  rw [h1, Option.bind_some, List.getElem?_eq_getElem hi, e]
theorem bind_perm {l l' : List Nd} (hp : l.Perm l') (hu : (ids l).Nodup) (x : Int) : ((find l x).bind fun i => l[i]?) = ((find l' x).bind fun i => l'[i]?) := by
  have hu' : (ids l').Nodup := (perm_ids hp).nodup_iff.1 hu
  by_cases h : x ∈ ids l
  · obtain ⟨n, hn, rfl⟩ := List.mem_map.1 h
    rw [bind_find hu hn, bind_find hu' (hp.mem_iff.1 hn)]
  · have h' : x ∉ ids l' := fun q => h ((perm_ids hp).mem_iff.2 q)
    have hno : ∀ (l : List Nd), x ∉ ids l → find l x = none := fun l hl => by
      unfold find
      rw [List.findIdx?_eq_none_iff]
      intro n hn
      have : n.id ≠ x := fun e => hl (List.mem_map.2 ⟨n, hn, e⟩)
      simpa using this
    rw [hno l h, hno l' h']
    rfl
theorem above_perm {l l' : List Nd} (hp : l.Perm l') (hu : (ids l).Nodup) : ∀ (k : Nat) (x z : Int), above l x z k = above l' x z k
  | 0, x, z => rfl
  | k + 1, x, z => by
    rw [above, above, bind_perm hp hu x]
    cases (find l' x).bind fun i => l'[i]? with
    | none => rfl
    | some n =>
      simp only
      congr 1
      funext f
      rw [above_perm hp hu k f z]
theorem zero_one {l : List Nd} (hu : (ids l).Nodup) (hs : ∀ n ∈ l, n.id = 0 ↔ n.kind = 0) : l.countP (fun n => n.kind == 0) = 1 ↔ (0 : Int) ∈ ids l := by
  have h1 : l.countP (fun n => n.kind == 0) = (ids l).count 0 := by
    unfold ids
    rw [List.count, List.countP_map]
    refine List.countP_congr fun n hn => ?_
    have := hs n hn
    simp only [Function.comp, beq_iff_eq]
    exact this.symm
  rw [h1]
  constructor
  · intro h
    exact List.count_pos_iff.1 (by omega)
  · intro h
    have h2 := List.count_pos_iff.2 h
    have h3 := List.nodup_iff_count.1 hu 0
    omega
theorem mem_ids_of_find {l : List Nd} {f : Int} {j : Nat} (h : find l f = some j) : f ∈ ids l := by
  obtain ⟨m, hm, e⟩ := find_some h
  exact List.mem_map.2 ⟨m, List.mem_of_getElem? hm, e⟩
/-- THE LAW: what the program calls right is what the document calls so. -/
theorem right_iff {l l' : List Nd} (hp : l.Perm l') : RightR l ↔ RightP l l' := by
  constructor
  · intro h
    have hu : (ids l).Nodup := ids_nodup.1 fun i n hn => (h.ok i n hn).fst
    have hok : ∀ n ∈ l, ∃ i, OkR l i n := fun n hn => by
      obtain ⟨i, hi, e⟩ := List.mem_iff_getElem.1 hn
      exact ⟨i, h.ok i n (by rw [List.getElem?_eq_getElem hi, e])⟩
    have hfr : ∀ n ∈ l, ∀ f ∈ n.frm, ∃ j m, find l f = some j ∧ l[j]? = some m ∧ m.kind ≠ 2 := fun n hn f hf => by
      obtain ⟨i, hr⟩ := hok n hn
      obtain ⟨k, hk, e⟩ := List.mem_iff_getElem.1 hf
      exact (hr.fr k f (by rw [List.getElem?_eq_getElem hk, e])).1
    refine ⟨h.len, fun n hn => ?_, hu, (zero_one hu fun n hn => (hok n hn).elim fun i hr => hr.src).1 h.one, ?_⟩
    · obtain ⟨i, hr⟩ := hok n hn
      refine ⟨hr.id0, by have := hr.id7; omega, ?_, hr.pr1, hr.pr3, hr.rt, hfr n hn⟩
      have hk0 := hr.kd0
      have hk2 := hr.kd2
      have hs := hr.src
      rcases (show n.kind = 0 ∨ n.kind = 1 ∨ n.kind = 2 by omega) with e | e | e
      · exact .inl ⟨e, hs.2 e, hr.f0 e, hr.p0 (by omega)⟩
      · exact .inr (.inl ⟨e, fun q => by have := hs.1 q; omega, hr.f1 e, hr.p1 e⟩)
      · exact .inr (.inr ⟨e, fun q => by have := hs.1 q; omega, by have := hr.f2 e; omega, hr.fr3, nodup_take.2 fun k f hk => (hr.fr k f hk).2, hr.p0 (by omega)⟩)
    · rw [hp.length_eq]
      refine (sort_all (by rw [← hp.length_eq]; exact h.len) ((perm_ids hp).nodup_iff.1 hu) (fun n hn f hf => ?_)).2 fun n hn => ?_
      · obtain ⟨j, m, h1, _⟩ := hfr n (hp.mem_iff.2 hn) f hf
        exact (perm_ids hp).mem_iff.1 (mem_ids_of_find h1)
      · rw [← above_perm hp hu]
        exact h.ac n (hp.mem_iff.2 hn)
  · intro h
    have hu := h.un
    refine ⟨h.len, fun i n hn => ?_, (zero_one hu fun n hn => ?_).2 h.z, fun n hn => ?_⟩
    · have hr := h.ok n (List.mem_of_getElem? hn)
      have hkd := hr.kd
      refine ⟨hr.id0, by have := hr.id7; omega, ids_nodup.2 hu i n hn, by omega, by omega, hr.pr1, hr.pr3, by omega, by omega, hr.rt, by omega, by omega, by omega, ?_, by omega, fun k f hk => ⟨hr.fr f (List.mem_of_getElem? hk), ?_⟩⟩
      · intro e
        rcases hkd with h1 | h1 | h1
        · omega
        · exact h1.2.2.2
        · omega
      · have hnd : n.frm.Nodup := by
          rcases hkd with h1 | h1 | h1
          · rw [List.length_eq_zero_iff.1 h1.2.2.1]; exact List.nodup_nil
          · obtain ⟨a, e⟩ := List.length_eq_one_iff.1 h1.2.2.1
            rw [e]; simp
          · exact h1.2.2.2.2.1
        exact nodup_take.1 hnd k f hk
    · have hkd := (h.ok n hn).kd
      omega
    · rw [above_perm hp hu]
      refine (sort_all (l := l') (by rw [← hp.length_eq]; exact h.len) ((perm_ids hp).nodup_iff.1 hu) (fun n hn f hf => ?_)).1 (h.so.trans hp.length_eq) n (hp.mem_iff.1 hn)
      obtain ⟨j, m, h1, _⟩ := (h.ok n (hp.mem_iff.2 hn)).fr f hf
      exact (perm_ids hp).mem_iff.1 (mem_ids_of_find h1)
end Gr

/-! Graphs: the nodes by their numbers: whatever sorts them makes the list that the document writes. -/
namespace Gr
set_option linter.unusedSimpArgs false
set_option linter.unusedVariables false

def nodeOf (l : List Nd) (x : Int) : Option Nd := (find l x).bind fun i => l[i]?
end Gr

/-! Graphs as bytes: what is written is read again, and what is read was written: plain laws. -/
namespace Gr
open Oc (be bes)
set_option linter.unusedSimpArgs false
set_option linter.unusedVariables false

/-- what Within does: the number, the error, what is left -/
def wn (s : List UInt8) (a b : Int) : Int × Int × List UInt8 := if s.length < 4 then (0, 3, s) else if Oc.num s < a ∨ b < Oc.num s then (0, 2, s) else (Oc.num s, 0, s.drop 4)
/-- a reader that keeps its first error -/
abbrev Rs := List UInt8 × Int
def numS (a b : Int) (s : Rs) : Int × Rs := if s.2 ≠ 0 then (0, s) else ((wn s.1 a b).1, ((wn s.1 a b).2.2, (wn s.1 a b).2.1))
theorem wn_put {a b n : Int} (h1 : a ≤ n) (h2 : n ≤ b) (hf : Oc.fitsN n = true) (t : List UInt8) : wn (be n ++ t) a b = (n, 0, t) := by
  unfold wn
  rw [if_neg (by rw [List.length_append, Oc.be_len]; omega), Oc.num_be n hf, if_neg (by omega)]
  rfl
theorem wn_can {s t : List UInt8} {a b n : Int} (h : wn s a b = (n, 0, t)) : s = be n ++ t ∧ a ≤ n ∧ n ≤ b := by
  unfold wn at h
  by_cases h4 : s.length < 4
  · rw [if_pos h4] at h
    simp at h
  · rw [if_neg h4] at h
    by_cases hr : Oc.num s < a ∨ b < Oc.num s
    · rw [if_pos hr] at h
      simp at h
    · rw [if_neg hr] at h
      simp only [Prod.mk.injEq, true_and] at h
      obtain ⟨rfl, rfl⟩ := h
      match s, h4 with
      | x :: y :: z :: u :: s, _ =>
        refine ⟨?_, by omega, by omega⟩
        rw [Oc.be_num]
        rfl
      | [], h4 => simp at h4
      | [_], h4 => simp at h4
      | [_, _], h4 => simp at h4
      | [_, _, _], h4 => simp at h4
theorem numS_put {a b n : Int} (h1 : a ≤ n) (h2 : n ≤ b) (hf : Oc.fitsN n = true) (t : List UInt8) : numS a b (be n ++ t, 0) = (n, (t, 0)) := by
  unfold numS
  rw [if_neg (by simp)]
  simp only
  rw [wn_put h1 h2 hf]
theorem numS_can {a b n : Int} {s : Rs} {t : List UInt8} (h : numS a b s = (n, (t, 0))) : s.2 = 0 ∧ s.1 = be n ++ t ∧ a ≤ n ∧ n ≤ b := by
  obtain ⟨s, e⟩ := s
  unfold numS at h
  by_cases he : e = 0
  · subst he
    rw [if_neg (by simp)] at h
    simp only at h
    have hw : wn s a b = (n, 0, t) := by
      generalize wn s a b = w at h
      obtain ⟨x, y, z⟩ := w
      simp only [Prod.mk.injEq] at h
      obtain ⟨rfl, rfl, rfl⟩ := h
      rfl
    exact ⟨rfl, wn_can hw⟩
  · rw [if_pos he] at h
    simp only [Prod.mk.injEq] at h
    exact absurd h.2.2 he
theorem numS_err (a b : Int) {s : Rs} (h : s.2 ≠ 0) : numS a b s = (0, s) := by unfold numS; rw [if_pos h]

def listS (a b : Int) : Nat → Rs → List Int × Rs
  | 0, s => ([], s)
  | k + 1, s => ((numS a b s).1 :: (listS a b k (numS a b s).2).1, (listS a b k (numS a b s).2).2)
theorem listS_put {a b : Int} (ha : -2147483648 ≤ a) (hb : b ≤ 2147483647) : ∀ (l : List Int) (t : List UInt8), (∀ x ∈ l, a ≤ x ∧ x ≤ b) → listS a b l.length (bes l ++ t, 0) = (l, (t, 0))
  | [], t, _ => rfl
  | x :: l, t, h => by
    have hx := h x (List.mem_cons_self ..)
    have h1 : numS a b (bes (x :: l) ++ t, 0) = (x, (bes l ++ t, 0)) := by
      show numS a b ((be x ++ bes l) ++ t, 0) = _
      rw [List.append_assoc]
      exact numS_put hx.1 hx.2 (by unfold Oc.fitsN; simp; omega) _
    rw [List.length_cons, listS, h1]
    simp only
    rw [listS_put ha hb l t fun y hy => h y (List.mem_cons_of_mem _ hy)]
theorem listS_can {a b : Int} : ∀ (k : Nat) {s : Rs} {l : List Int} {t : List UInt8}, listS a b k s = (l, (t, 0)) → s.2 = 0 ∧ s.1 = bes l ++ t ∧ l.length = k ∧ ∀ x ∈ l, a ≤ x ∧ x ≤ b
  | 0, s, l, t, h => by
    unfold listS at h
    simp only [Prod.mk.injEq] at h
    obtain ⟨rfl, rfl⟩ := h
    exact ⟨rfl, rfl, rfl, fun x hx => (by cases hx)⟩
  | k + 1, s, l, t, h => by
    rw [listS] at h
    simp only [Prod.mk.injEq] at h
    obtain ⟨rfl, h2⟩ := h
    have ih := listS_can k (l := (listS a b k (numS a b s).2).1) (t := t) (by rw [← h2])
    obtain ⟨i1, i2, i3, i4⟩ := ih
    have hn := numS_can (a := a) (b := b) (n := (numS a b s).1) (s := s) (t := (numS a b s).2.1) (by
      generalize numS a b s = w at *
      obtain ⟨x, y, z⟩ := w
      simp only at i1
      subst i1
      rfl)
    obtain ⟨n1, n2, n3, n4⟩ := hn
    refine ⟨n1, ?_, by rw [List.length_cons, i3], fun x hx => ?_⟩
    · rw [n2, i2]
      show _ = (be _ ++ bes _) ++ t
      rw [List.append_assoc]
    · rcases List.mem_cons.1 hx with rfl | h3
      · exact ⟨n3, n4⟩
      · exact i4 x h3

/-- what is asked of a program's bytes -/
structure Codec (gp : List UInt8 → List Vm.Ins × Int × List UInt8) (pp : List Vm.Ins → List UInt8) (fits : List Vm.Ins → Prop) : Prop where
  put : ∀ l t, fits l → gp (pp l ++ t) = (l, 0, t)
  can : ∀ s l t, gp s = (l, 0, t) → s = pp l ++ t ∧ fits l
section
variable (gp : List UInt8 → List Vm.Ins × Int × List UInt8) (pp : List Vm.Ins → List UInt8) (fits : List Vm.Ins → Prop)
def progS (s : Rs) : List Vm.Ins × Rs := if s.2 ≠ 0 then ([], s) else ((gp s.1).1, ((gp s.1).2.2, (gp s.1).2.1))
def putNd (n : Nd) : List UInt8 := be n.id ++ (be n.kind ++ (be n.frm.length ++ (bes n.frm ++ (pp n.prog ++ (be n.par ++ bes n.route)))))
def nodeS (lp : Int) (s : Rs) : Nd × Rs :=
  let a := numS 0 7 s
  let b := numS 0 2 a.2
  let m := numS 0 3 b.2
  let f := listS 0 7 m.1.toNat m.2
  let p := progS gp f.2
  let r := numS lp 3 p.2
  let o := listS 0 2 8 r.2
  (⟨a.1, b.1, f.1, p.1, r.1, o.1⟩, o.2)
structure OkB (lp : Int) (n : Nd) : Prop where
  i : 0 ≤ n.id ∧ n.id ≤ 7
  k : 0 ≤ n.kind ∧ n.kind ≤ 2
  m : n.frm.length ≤ 3
  f : ∀ x ∈ n.frm, 0 ≤ x ∧ x ≤ 7
  p : fits n.prog
  r : lp ≤ n.par ∧ n.par ≤ 3
  ol : n.route.length = 8
  o : ∀ x ∈ n.route, 0 ≤ x ∧ x ≤ 2
end
section
variable {gp : List UInt8 → List Vm.Ins × Int × List UInt8} {pp : List Vm.Ins → List UInt8} {fits : List Vm.Ins → Prop}
theorem progS_put (hc : Codec gp pp fits) {l : List Vm.Ins} (h : fits l) (t : List UInt8) : progS gp (pp l ++ t, 0) = (l, (t, 0)) := by
  unfold progS
  rw [if_neg (by simp)]
  simp only
  rw [hc.put l t h]
theorem progS_can (hc : Codec gp pp fits) {s : Rs} {l : List Vm.Ins} {t : List UInt8} (h : progS gp s = (l, (t, 0))) : s.2 = 0 ∧ s.1 = pp l ++ t ∧ fits l := by
  obtain ⟨s, e⟩ := s
  unfold progS at h
  by_cases he : e = 0
  · subst he
    rw [if_neg (by simp)] at h
    simp only at h
    have hw : gp s = (l, 0, t) := by
      generalize gp s = w at h
      obtain ⟨x, y, z⟩ := w
      simp only [Prod.mk.injEq] at h
      obtain ⟨rfl, rfl, rfl⟩ := h
      rfl
    exact ⟨rfl, hc.can s l t hw⟩
  · rw [if_pos he] at h
    simp only [Prod.mk.injEq] at h
    exact absurd h.2.2 he
theorem eta {α : Type} (x : α × Rs) (h : x.2.2 = 0) : x = (x.1, (x.2.1, 0)) := by
  obtain ⟨a, b, c⟩ := x
  simp only at h
  subst h
  rfl
theorem nodeS_put (hc : Codec gp pp fits) {lp : Int} (hlp : -2147483648 ≤ lp) {n : Nd} (h : OkB fits lp n) (t : List UInt8) : nodeS gp lp (putNd pp n ++ t, 0) = (n, (t, 0)) := by
  obtain ⟨id, kind, frm, prog, par, route⟩ := n
  obtain ⟨h1, h2, h3, h4, h5, h6, h7, h8⟩ := h
  simp only at h1 h2 h3 h4 h5 h6 h7 h8
  unfold nodeS putNd
  simp only [List.append_assoc]
  rw [numS_put h1.1 h1.2 (by unfold Oc.fitsN; simp; omega)]
  simp only
  rw [numS_put h2.1 h2.2 (by unfold Oc.fitsN; simp; omega)]
  simp only
  rw [numS_put (by omega) (by omega) (by unfold Oc.fitsN; simp; omega)]
  simp only [Int.toNat_natCast]
  rw [listS_put (by decide) (by decide) frm _ h4]
  simp only
  rw [progS_put hc h5]
  simp only
  rw [numS_put h6.1 h6.2 (by unfold Oc.fitsN; simp; omega)]
  simp only
  have h9 := listS_put (a := 0) (b := 2) (by decide) (by decide) route t h8
  rw [h7] at h9
  rw [h9]
theorem nodeS_can (hc : Codec gp pp fits) {lp : Int} {s : Rs} {n : Nd} {t : List UInt8} (h : nodeS gp lp s = (n, (t, 0))) : s.2 = 0 ∧ s.1 = putNd pp n ++ t ∧ OkB fits lp n := by
  unfold nodeS at h
  simp only [Prod.mk.injEq] at h
  obtain ⟨rfl, h⟩ := h
  generalize ha : numS 0 7 s = a at *
  generalize hb : numS 0 2 a.2 = b at *
  generalize hm : numS 0 3 b.2 = m at *
  generalize hf : listS 0 7 m.1.toNat m.2 = f at *
  generalize hp : progS gp f.2 = p at *
  generalize hr : numS lp 3 p.2 = r at *
  generalize ho : listS 0 2 8 r.2 = o at *
  obtain ⟨o1, o2⟩ := o
  simp only at h
  subst h
  obtain ⟨o3, o4, o5, o6⟩ := listS_can 8 ho
  obtain ⟨r3, r4, r5, r6⟩ := numS_can (hr.trans (eta r o3))
  obtain ⟨p3, p4, p5⟩ := progS_can hc (hp.trans (eta p r3))
  obtain ⟨f3, f4, f5, f6⟩ := listS_can _ (hf.trans (eta f p3))
  obtain ⟨m3, m4, m5, m6⟩ := numS_can (hm.trans (eta m f3))
  obtain ⟨b3, b4, b5, b6⟩ := numS_can (hb.trans (eta b m3))
  obtain ⟨a3, a4, a5, a6⟩ := numS_can (ha.trans (eta a b3))
  refine ⟨a3, ?_, ⟨⟨a5, a6⟩, ⟨b5, b6⟩, by simp only; omega, f6, p5, ⟨r5, r6⟩, o5, o6⟩⟩
  unfold putNd
  simp only [List.append_assoc]
  rw [a4, b4, m4, f4, p4, r4, o4, show ((f.1.length : Nat) : Int) = m.1 by omega]
end
end Gr

/-! A graph as bytes: what is put is got, and what is got was put: plain laws. -/
namespace Gr
open Oc (be bes)
set_option linter.unusedSimpArgs false
set_option linter.unusedVariables false

section
variable {gp : List UInt8 → List Vm.Ins × Int × List UInt8} {pp : List Vm.Ins → List UInt8} {fits : List Vm.Ins → Prop}
theorem RightR.ids {l : List Nd} (h : RightR l) : (ids l).Nodup := ids_nodup.1 fun i n hn => (h.ok i n hn).fst
theorem RightR.at {l : List Nd} (h : RightR l) {n : Nd} (hn : n ∈ l) : ∃ i, OkR l i n := by
  obtain ⟨i, hi, e⟩ := List.mem_iff_getElem.1 hn
  exact ⟨i, h.ok i n (by rw [List.getElem?_eq_getElem hi, e])⟩
theorem RightR.r7 {l : List Nd} (h : RightR l) : ∀ n ∈ l, 0 ≤ n.id ∧ n.id ≤ 7 := fun n hn => by
  obtain ⟨i, hr⟩ := h.at hn
  exact ⟨hr.id0, hr.id7⟩
theorem RightR.okB {l : List Nd} (h : RightR l) (h0 : fits []) (hs : ∀ p, Vm.safe p = true → fits p) (hl : ∀ n ∈ l, n.route.length = 8) : ∀ n ∈ l, OkB fits 1 n := fun n hn => by
  obtain ⟨i, hr⟩ := h.at hn
  refine ⟨⟨hr.id0, hr.id7⟩, ⟨hr.kd0, hr.kd2⟩, hr.fr3, fun x hx => ?_, ?_, ⟨hr.pr1, hr.pr3⟩, hl n hn, fun x hx => ?_⟩
  · obtain ⟨k, hk, e⟩ := List.mem_iff_getElem.1 hx
    obtain ⟨⟨j, m, h1, h2, -⟩, -⟩ := hr.fr k x (by rw [List.getElem?_eq_getElem hk, e])
    obtain ⟨m', h3, h4⟩ := find_some h1
    rw [h2] at h3
    cases h3
    rw [← h4]
    exact h.r7 m (List.mem_of_getElem? h2)
  · by_cases e : n.kind = 1
    · exact hs _ (hr.p1 e)
    · rw [List.length_eq_zero_iff.1 (hr.p0 e)]
      exact h0
  · have := hr.rt x hx
    have := hr.pr3
    omega
/-- the same nodes in another order are right too -/
theorem RightR.perm {l l' : List Nd} (hp : l.Perm l') (h : RightR l) : RightR l' := by
  have hq := (right_iff hp).1 h
  refine (right_iff (List.Perm.refl l')).2 ⟨by rw [← hp.length_eq]; exact hq.len, fun n hn => ?_, (perm_ids hp).nodup_iff.1 hq.un, (perm_ids hp).mem_iff.1 hq.z, by rw [← hp.length_eq, hp.length_eq]; exact hq.so.trans hp.length_eq⟩
  have ho := hq.ok n (hp.mem_iff.2 hn)
  refine ⟨ho.id0, ho.id7, ho.kd, ho.pr1, ho.pr3, ho.rt, fun f hf => ?_⟩
  obtain ⟨j, m, h1, h2, h3⟩ := ho.fr f hf
  have hb := bind_perm hp hq.un f
  rw [h1, Option.bind_some, h2] at hb
  cases hf' : find l' f with
  | none => rw [hf'] at hb; cases hb
  | some j' =>
    rw [hf', Option.bind_some] at hb
    exact ⟨j', m, rfl, hb.symm, h3⟩
end
end Gr

/-! Plans as bytes: plain laws. -/
namespace Gr
open Oc (be bes)
set_option linter.unusedSimpArgs false
set_option linter.unusedVariables false

structure Stp where
  kind : Int
  nd : Nd
  reset : Bool
def zeros : List Int := List.replicate 8 0
/-- a step without what doesn't matter -/
def cleanS (s : Stp) : Stp :=
  if s.kind = 1 then ⟨1, ⟨s.nd.id, 0, [], s.nd.prog, 0, zeros⟩, s.reset⟩
  else if s.kind = 2 then ⟨2, s.nd, false⟩
  else if s.kind = 3 then ⟨3, ⟨s.nd.id, 0, [], [], 0, zeros⟩, false⟩
  else if s.kind = 4 then ⟨4, ⟨s.nd.id, 0, [], [], s.nd.par, s.nd.route⟩, false⟩
  else if s.kind = 5 then ⟨5, ⟨s.nd.id, 0, s.nd.frm, [], 0, zeros⟩, false⟩
  else ⟨0, ⟨0, 0, [], [], 0, zeros⟩, false⟩
theorem clean_kind {s : Stp} (h : 1 ≤ s.kind ∧ s.kind ≤ 5) : (cleanS s).kind = s.kind := by
  unfold cleanS
  rcases (show s.kind = 1 ∨ s.kind = 2 ∨ s.kind = 3 ∨ s.kind = 4 ∨ s.kind = 5 by omega) with e | e | e | e | e <;> simp [e]
theorem kind_clean {s : Stp} (h : 1 ≤ (cleanS s).kind) : 1 ≤ s.kind ∧ s.kind ≤ 5 := by
  by_cases h1 : s.kind = 1 ∨ s.kind = 2 ∨ s.kind = 3 ∨ s.kind = 4 ∨ s.kind = 5
  · omega
  · exfalso
    unfold cleanS at h
    rw [if_neg (by omega), if_neg (by omega), if_neg (by omega), if_neg (by omega), if_neg (by omega)] at h
    simp at h
theorem clean_clean (s : Stp) : cleanS (cleanS s) = cleanS s := by
  by_cases h1 : s.kind = 1
  · simp [cleanS, h1]
  by_cases h2 : s.kind = 2
  · simp [cleanS, h2]
  by_cases h3 : s.kind = 3
  · simp [cleanS, h3]
  by_cases h4 : s.kind = 4
  · simp [cleanS, h4]
  by_cases h5 : s.kind = 5
  · simp [cleanS, h5]
  · simp [cleanS, h1, h2, h3, h4, h5]
section
variable (gp : List UInt8 → List Vm.Ins × Int × List UInt8) (pp : List Vm.Ins → List UInt8) (fits : List Vm.Ins → Prop)
def putSt (s : Stp) : List UInt8 := be (cleanS s).kind ++ (be (if (cleanS s).reset then 1 else 0) ++ putNd pp (cleanS s).nd)
def putPl (p : List Stp) : List UInt8 := be p.length ++ p.flatMap (putSt pp)
def OkS (s : Stp) : Prop := (1 ≤ s.kind ∧ s.kind ≤ 5) ∧ OkB fits 0 (cleanS s).nd
def OkPl (p : List Stp) : Prop := 1 ≤ p.length ∧ p.length ≤ 6 ∧ ∀ s ∈ p, OkS fits s
def stepS (s : Rs) : Stp × Rs :=
  let k := numS 1 5 s
  let r := numS 0 1 k.2
  let n := nodeS gp 0 r.2
  (⟨k.1, n.1, r.1 == 1⟩, n.2)
def stepsS : Nat → Rs → List Stp × Rs
  | 0, s => ([], s)
  | k + 1, s => ((stepS gp s).1 :: (stepsS k (stepS gp s).2).1, (stepsS k (stepS gp s).2).2)
def planS (s : List UInt8) : List Stp × Rs := stepsS gp (numS 1 6 (s, 0)).1.toNat (numS 1 6 (s, 0)).2
open Classical in
noncomputable def getPl (s : List UInt8) : List Stp × Int :=
  if (planS gp s).2.2 ≠ 0 then ([], (planS gp s).2.2)
  else if 0 < (planS gp s).2.1.length ∨ ¬ ∀ x ∈ (planS gp s).1, cleanS x = x then ([], 4)
  else ((planS gp s).1, 0)
end
section
variable {gp : List UInt8 → List Vm.Ins × Int × List UInt8} {pp : List Vm.Ins → List UInt8} {fits : List Vm.Ins → Prop}
theorem stepS_put (hc : Codec gp pp fits) {s : Stp} (h : OkS fits s) (t : List UInt8) : stepS gp (putSt pp s ++ t, 0) = (cleanS s, (t, 0)) := by
  obtain ⟨hk, hn⟩ := h
  have hk2 := clean_kind hk
  unfold putSt stepS
  generalize cleanS s = c at *
  obtain ⟨ck, cn, cr⟩ := c
  simp only at hk2 hn
  subst hk2
  simp only [List.append_assoc]
  rw [numS_put hk.1 hk.2 (by unfold Oc.fitsN; simp; omega)]
  simp only
  rw [numS_put (by split <;> omega) (by split <;> omega) (by cases cr <;> rfl)]
  simp only
  rw [nodeS_put hc (by decide) hn]
  cases cr <;> rfl
theorem stepS_can (hc : Codec gp pp fits) {s : Rs} {x : Stp} {t : List UInt8} (h : stepS gp s = (x, (t, 0))) : s.2 = 0 ∧ s.1 = be x.kind ++ (be (if x.reset then 1 else 0) ++ (putNd pp x.nd ++ t)) ∧ (1 ≤ x.kind ∧ x.kind ≤ 5) ∧ OkB fits 0 x.nd := by
  unfold stepS at h
  simp only [Prod.mk.injEq] at h
  obtain ⟨rfl, h⟩ := h
  generalize hk : numS 1 5 s = k at *
  generalize hr : numS 0 1 k.2 = r at *
  generalize hn : nodeS gp 0 r.2 = n at *
  obtain ⟨n1, n2⟩ := n
  simp only at h
  subst h
  obtain ⟨n3, n4, n5⟩ := nodeS_can hc hn
  obtain ⟨r3, r4, r5, r6⟩ := numS_can (hr.trans (eta r n3))
  obtain ⟨k3, k4, k5, k6⟩ := numS_can (hk.trans (eta k r3))
  refine ⟨k3, ?_, ⟨k5, k6⟩, n5⟩
  rw [k4, r4, n4]
  rcases (show r.1 = 0 ∨ r.1 = 1 by omega) with e | e <;> simp [e]
theorem stepsS_put (hc : Codec gp pp fits) : ∀ (p : List Stp) (t : List UInt8), (∀ s ∈ p, OkS fits s) → stepsS gp p.length (p.flatMap (putSt pp) ++ t, 0) = (p.map cleanS, (t, 0))
  | [], t, _ => rfl
  | s :: p, t, h => by
    have h1 : stepS gp ((s :: p).flatMap (putSt pp) ++ t, 0) = (cleanS s, (p.flatMap (putSt pp) ++ t, 0)) := by
      rw [List.flatMap_cons, List.append_assoc]
      exact stepS_put hc (h s (List.mem_cons_self ..)) _
    rw [List.length_cons, stepsS, h1]
    simp only
    rw [stepsS_put hc p t fun y hy => h y (List.mem_cons_of_mem _ hy)]
    rfl
theorem stepsS_can (hc : Codec gp pp fits) : ∀ (k : Nat) {s : Rs} {p : List Stp} {t : List UInt8}, stepsS gp k s = (p, (t, 0)) → (∀ x ∈ p, cleanS x = x) → s.2 = 0 ∧ s.1 = p.flatMap (putSt pp) ++ t ∧ p.length = k ∧ ∀ x ∈ p, OkS fits x
  | 0, s, p, t, h, _ => by
    unfold stepsS at h
    simp only [Prod.mk.injEq] at h
    obtain ⟨rfl, rfl⟩ := h
    exact ⟨rfl, rfl, rfl, fun x hx => (by cases hx)⟩
  | k + 1, s, p, t, h, hcl => by
    rw [stepsS] at h
    simp only [Prod.mk.injEq] at h
    obtain ⟨rfl, h2⟩ := h
    obtain ⟨i1, i2, i3, i4⟩ := stepsS_can hc k (p := (stepsS gp k (stepS gp s).2).1) (t := t) (by rw [← h2]) fun x hx => hcl x (List.mem_cons_of_mem _ hx)
    obtain ⟨n1, n2, n3, n4⟩ := stepS_can hc (eta (stepS gp s) i1)
    have hx := hcl _ (List.mem_cons_self ..)
    refine ⟨n1, ?_, by rw [List.length_cons, i3], fun x hx2 => ?_⟩
    · rw [n2, i2, List.flatMap_cons, List.append_assoc]
      show _ = putSt pp _ ++ _
      unfold putSt
      rw [hx]
      simp only [List.append_assoc]
    · rcases List.mem_cons.1 hx2 with rfl | h3
      · exact ⟨n3, by rw [hx]; exact n4⟩
      · exact i4 x h3
theorem map_clean {p : List Stp} (h : ∀ x ∈ p, cleanS x = x) : p.map cleanS = p := by
  rw [List.map_congr_left (g := id) h, List.map_id]
/-- what is put is got, without what doesn't matter -/
theorem getPl_put (hc : Codec gp pp fits) {p : List Stp} (h : OkPl fits p) : getPl gp (putPl pp p) = (p.map cleanS, 0) := by
  obtain ⟨h1, h6, hs⟩ := h
  have hg : planS gp (putPl pp p) = (p.map cleanS, ([], 0)) := by
    unfold planS putPl
    rw [numS_put (by omega) (by omega) (by unfold Oc.fitsN; simp; omega)]
    simp only [Int.toNat_natCast]
    have := stepsS_put hc p [] hs
    rw [List.append_nil] at this
    exact this
  unfold getPl
  rw [hg]
  simp only
  rw [if_neg (by simp), if_neg]
  rintro (h | h)
  · simp at h
  · refine h fun x hx => ?_
    obtain ⟨y, -, rfl⟩ := List.mem_map.1 hx
    exact clean_clean y
/-- what is got was put, and may be told -/
theorem getPl_can (hc : Codec gp pp fits) {s : List UInt8} {q : List Stp} (h : getPl gp s = (q, 0)) : OkPl fits q ∧ putPl pp q = s ∧ ∀ x ∈ q, cleanS x = x := by
  unfold getPl at h
  by_cases h1 : (planS gp s).2.2 = 0
  · rw [if_neg (by simpa using h1)] at h
    by_cases h2 : 0 < (planS gp s).2.1.length ∨ ¬ ∀ x ∈ (planS gp s).1, cleanS x = x
    · rw [if_pos h2] at h
      simp at h
    · rw [if_neg h2] at h
      simp only [Prod.mk.injEq, and_true] at h
      have hcl : ∀ x ∈ q, cleanS x = x := by
        rw [← h]
        exact Classical.not_not.1 fun r => h2 (.inr r)
      have hnil : (planS gp s).2.1 = [] := List.length_eq_zero_iff.1 (by omega)
      have hg : planS gp s = (q, ([], 0)) := by
        generalize planS gp s = g at *
        obtain ⟨a, b, c⟩ := g
        simp only at h h1 hnil
        subst h h1 hnil
        rfl
      unfold planS at hg
      obtain ⟨i1, i2, i3, i4⟩ := stepsS_can hc _ hg hcl
      obtain ⟨n1, n2, n3, n4⟩ := numS_can (eta (numS 1 6 (s, 0)) i1)
      refine ⟨⟨by omega, by omega, i4⟩, ?_, hcl⟩
      unfold putPl
      have e1 : (numS 1 6 (s, 0)).2.1 = q.flatMap (putSt pp) := by rw [i2, List.append_nil]
      rw [← e1, show ((q.length : Nat) : Int) = (numS 1 6 (s, 0)).1 by omega]
      exact n2.symm
  · rw [if_pos (by simpa using h1)] at h
    simp only [Prod.mk.injEq] at h
    exact absurd h.2 h1
theorem getPl_bad {s : List UInt8} (h : (getPl gp s).2 ≠ 0) : (getPl gp s).1 = [] := by
  unfold getPl at *
  split
  · rfl
  · split
    · rfl
    · rename_i h1 h2
      rw [if_neg h1, if_neg h2] at h
      exact absurd rfl h
end
end Gr

/-! Manifests as bytes: plain laws. -/
namespace Gr
open Oc (be bes)
open Ga Tab
set_option linter.unusedSimpArgs false
set_option linter.unusedVariables false

end Gr

/-! A manifest as bytes: what is put is got, and what is got was put: plain laws. -/
namespace Gr
open Oc (be bes)
open Ga Tab
set_option linter.unusedSimpArgs false
set_option linter.unusedVariables false

structure Ln where
  sink : Int
  frm : Int
  key : Int
  v : Val
structure Mf where
  epoch : Int
  plans : Int
  offs : List Int
  graph : List Nd
  ents : List En
  out : List Ln
  plan : List Stp
def okV (v : Int × Int) : Prop := (-2147483648 ≤ v.1 ∧ v.1 ≤ 2147483647) ∧ (-2147483648 ≤ v.2 ∧ v.2 ≤ 2147483647)
def okE (x : En) : Prop := (((0 ≤ x.node ∧ x.node ≤ 7) ∧ (0 ≤ x.key ∧ x.key ≤ 63)) ∧ okV x.c0) ∧ okV x.c1
def okLn (x : Ln) : Prop := (((0 ≤ x.sink ∧ x.sink ≤ 7) ∧ (0 ≤ x.frm ∧ x.frm ≤ 7)) ∧ (0 ≤ x.key ∧ x.key ≤ 63)) ∧ okV x.v
section
variable (gp : List UInt8 → List Vm.Ins × Int × List UInt8) (pp : List Vm.Ins → List UInt8) (fits : List Vm.Ins → Prop)
def okP (p : List Stp) : Prop := p = [] ∨ OkPl fits p ∧ (∀ x ∈ p, cleanS x = x) ∧ ((putPl pp p).length : Int) ≤ 8000
def okM (m : Mf) : Prop := (0 ≤ m.epoch ∧ m.epoch ≤ 2147483647) ∧ (0 ≤ m.plans ∧ m.plans ≤ 2147483647) ∧ ((m.offs.length : Int) ≤ 3 ∧ ∀ x ∈ m.offs, 0 ≤ x ∧ x ≤ 400) ∧ ((m.graph.length : Int) ≤ 8 ∧ ∀ n ∈ m.graph, OkB fits 1 n) ∧ ((m.ents.length : Int) ≤ 512 ∧ ∀ x ∈ m.ents, okE x) ∧ ((m.out.length : Int) ≤ 4000 ∧ ∀ x ∈ m.out, okLn x) ∧ okP pp fits m.plan
end
section
variable {gp : List UInt8 → List Vm.Ins × Int × List UInt8} {pp : List Vm.Ins → List UInt8} {fits : List Vm.Ins → Prop}
end
end Gr

/-! Right manifests: plain laws. -/
namespace Gr
open Oc (be bes)
open Ga Tab
set_option linter.unusedSimpArgs false
set_option linter.unusedVariables false

/-- a manifest that may be, by the document -/
structure RightM (fits : List Vm.Ins → Prop) (m : Mf) : Prop where
  ep : 0 ≤ m.epoch ∧ m.epoch ≤ 2147483647
  pl : 0 ≤ m.plans ∧ m.plans ≤ 2147483647
  gr : RightR m.graph
  so : m.graph.Pairwise fun a b => a.id < b.id
  of : ∃ n, m.graph.head? = some n ∧ (m.offs.length : Int) = n.par
  o4 : ∀ x ∈ m.offs, 0 ≤ x ∧ x ≤ 400
  en : ∀ x ∈ m.ents, (0 ≤ x.node ∧ x.node < 8) ∧ (0 ≤ x.key ∧ x.key < 64) ∧ rightV x.c0 = true ∧ rightV x.c1 = true ∧ nz x = true
  ei : m.ents.Pairwise fun a b => num a < num b
  ek : ∀ x ∈ m.ents, ∃ n, nodeOf m.graph x.node = some n ∧ n.kind = 1
  ol : m.out.length ≤ 4000
  ou : ∀ x ∈ m.out, (0 ≤ x.sink ∧ x.sink ≤ 7) ∧ (0 ≤ x.frm ∧ x.frm ≤ 7) ∧ (0 ≤ x.key ∧ x.key < 64) ∧ rightV x.v = true
  pn : m.plan = [] ∨ OkPl fits m.plan ∧ ∀ x ∈ m.plan, cleanS x = x
theorem okV_of {v : Val} (h : rightV v = true) : okV v := by
  unfold rightV at h
  simp only [Bool.and_eq_true, decide_eq_true_eq] at h
  have h1 := into_range v.1
  have h2 := into_range v.2
  unfold okV
  omega
theorem ents_len {l : List En} (h : ∀ x ∈ l, (0 ≤ x.node ∧ x.node < 8) ∧ (0 ≤ x.key ∧ x.key < 64)) (hs : l.Pairwise fun a b => num a < num b) : l.length ≤ 512 := by
  have hnd : (l.map fun x => (num x).toNat).Nodup := by
    rw [List.Nodup, List.pairwise_map]
    refine hs.imp_of_mem fun {a b} ha hb hlt => ?_
    have h1 := h a ha
    have h2 := h b hb
    unfold num at hlt ⊢
    omega
  have := hnd.length_le_of_subset (l₂ := List.range 512) (fun y hy => by
    obtain ⟨x, hx, rfl⟩ := List.mem_map.1 hy
    have h1 := h x hx
    rw [List.mem_range]
    unfold num
    omega)
  simpa using this
section
variable {gp : List UInt8 → List Vm.Ins × Int × List UInt8} {pp : List Vm.Ins → List UInt8} {fits : List Vm.Ins → Prop}
theorem putNd_len (hl : ∀ l, fits l → (pp l).length ≤ 200) {lp : Int} {n : Nd} (h : OkB fits lp n) : (putNd pp n).length ≤ 260 := by
  unfold putNd
  simp only [List.length_append, Oc.be_len, Oc.bes_len]
  have := hl _ h.p
  have := h.m
  have := h.ol
  omega
theorem flat_len {α : Type} {f : α → List UInt8} {k : Nat} : ∀ (l : List α), (∀ x ∈ l, (f x).length ≤ k) → (l.flatMap f).length ≤ l.length * k
  | [], _ => Nat.zero_le _
  | x :: l, h => by
    rw [List.flatMap_cons, List.length_append, List.length_cons, Nat.add_mul, Nat.one_mul]
    have h1 := h x (List.mem_cons_self ..)
    have h2 := flat_len l fun y hy => h y (List.mem_cons_of_mem _ hy)
    omega
theorem putPl_len (hl : ∀ l, fits l → (pp l).length ≤ 200) {p : List Stp} (h : OkPl fits p) : (putPl pp p).length ≤ 8000 := by
  unfold putPl
  rw [List.length_append, Oc.be_len]
  have h1 := flat_len (f := putSt pp) (k := 268) p fun s hs => by
    unfold putSt
    simp only [List.length_append, Oc.be_len]
    have := putNd_len hl (h.2.2 s hs).2
    omega
  have := h.2.1
  have h2 : p.length * 268 ≤ 6 * 268 := Nat.mul_le_mul_right _ this
  omega
theorem RightM.okM {m : Mf} (h : RightM fits m) (h0 : fits []) (hs : ∀ p, Vm.safe p = true → fits p) (hr : ∀ n ∈ m.graph, n.route.length = 8) (hl : ∀ l, fits l → (pp l).length ≤ 200) : okM pp fits m := by
  refine ⟨h.ep, h.pl, ⟨?_, h.o4⟩, ⟨by have := h.gr.len; omega, h.gr.okB h0 hs hr⟩, ⟨?_, fun x hx => ?_⟩, ⟨by have := h.ol; omega, fun x hx => ?_⟩, ?_⟩
  · obtain ⟨n, hn, e⟩ := h.of
    have hm : n ∈ m.graph := List.mem_of_mem_head? hn
    obtain ⟨i, hk⟩ := h.gr.at hm
    have := hk.pr3
    omega
  · have := ents_len (fun x hx => ⟨(h.en x hx).1, (h.en x hx).2.1⟩) h.ei
    omega
  · obtain ⟨h1, h2, h3, h4, -⟩ := h.en x hx
    exact ⟨⟨⟨by omega, by omega⟩, okV_of h3⟩, okV_of h4⟩
  · obtain ⟨h1, h2, h3, h4⟩ := h.ou x hx
    exact ⟨⟨⟨h1, h2⟩, by omega⟩, okV_of h4⟩
  · rcases h.pn with e | ⟨h1, h2⟩
    · exact .inl e
    · exact .inr ⟨h1, h2, by have := putPl_len hl h1; omega⟩
end
end Gr

/-! Right manifests: the program's answer is the document's: plain laws. -/
namespace Gr
open Oc (be bes)
open Ga Tab
set_option linter.unusedSimpArgs false
set_option linter.unusedVariables false

end Gr

/-! What each task begins with: plain laws. -/
namespace Gr
open Tab Ga
set_option linter.unusedSimpArgs false
set_option linter.unusedVariables false

/-- a key's task at a node -/
def taskOf (n : Nd) (k : Int) : Int := n.route.getD (k % 8).toNat 0
def partE (n : Nd) (t : Int) (l : List En) : List En := l.filter fun x => x.node == n.id && taskOf n x.key == t
def many (g : List Nd) (l : List En) : Nat := (g.map fun n => ((List.range n.par.toNat).map fun t => (partE n (t : Nat) l).length).sum).sum
end Gr

/-! Nodes and steps as lines: plain laws. -/
namespace Li
set_option linter.unusedSimpArgs false
set_option linter.unusedVariables false
open Go.Lib

/-! ### pieces -/
theorem splitK_join (sep : List UInt8) (hs : sep ≠ []) : ∀ (xs : List (List UInt8)), xs ≠ [] → (∀ x ∈ xs, index x sep = -1) → (∀ x ∈ xs, ∀ t, index (x ++ sep ++ t) sep = x.length) → count (join xs sep) sep + 1 = xs.length ∧ splitK sep 0 (count (join xs sep) sep) (join xs sep) = xs
  | [], h, _, _ => absurd rfl h
  | [x], _, h1, _ => by
    have := h1 x (by simp)
    rw [join_one, count_miss this]
    exact ⟨rfl, rfl⟩
  | x :: y :: r, _, h1, h2 => by
    have e : join (x :: y :: r) sep = x ++ sep ++ join (y :: r) sep := by
      rw [join_cons, join_cons, List.append_assoc]
      simp [joinTail]
    have hi := h2 x (by simp) (join (y :: r) sep)
    obtain ⟨i1, i2⟩ := splitK_join sep hs (y :: r) (by simp) (fun z hz => h1 z (List.mem_cons_of_mem _ hz)) (fun z hz => h2 z (List.mem_cons_of_mem _ hz))
    have hd : (x ++ sep ++ join (y :: r) sep).drop (x.length + sep.length) = join (y :: r) sep := by
      rw [show x.length + sep.length = (x ++ sep).length by simp, List.drop_left]
    have hc : count (join (x :: y :: r) sep) sep = 1 + count (join (y :: r) sep) sep := by
      rw [e, count_hit hs hi, hd]
    refine ⟨by rw [hc, List.length_cons]; omega, ?_⟩
    rw [hc, show 1 + count (join (y :: r) sep) sep = count (join (y :: r) sep) sep + 1 by omega, splitK, e, hi]
    rw [if_neg (by simp), Int.toNat_natCast, hd, Nat.add_zero, i2, List.append_assoc, List.take_left]
theorem split_join (sep : List UInt8) (hs : sep ≠ []) (xs : List (List UInt8)) (hx : xs ≠ []) (h1 : ∀ x ∈ xs, index x sep = -1) (h2 : ∀ x ∈ xs, ∀ t, index (x ++ sep ++ t) sep = x.length) : split (join xs sep) sep = xs := (splitK_join sep hs xs hx h1 h2).2
theorem split_join1 (c : UInt8) (r : List UInt8) (xs : List (List UInt8)) (hx : xs ≠ []) (h : ∀ x ∈ xs, ∀ b ∈ x, b ≠ c) : split (join xs (c :: r)) (c :: r) = xs :=
  split_join _ (by simp) xs hx (fun x hm => Co.index_clean c r x (h x hm)) (fun x hm t => Co.index_first c r t x (h x hm))
theorem split_one (c : UInt8) (x : List UInt8) (h : ∀ b ∈ x, b ≠ c) : split x [c] = [x] := by
  have := split_join1 c [] [x] (by simp) (by simpa using h)
  rwa [join_one] at this
def between : List UInt8 := [32, 124, 32]
theorem pre_bar (b : UInt8) (l t : List UInt8) (h : ∀ c ∈ l, c ≠ 124) : between.isPrefixOf (b :: (l ++ t)) = true → b = 32 → l = [] ∧ between.isPrefixOf (32 :: t) = true := by
  intro hp hb
  subst hb
  cases l with
  | nil => exact ⟨rfl, hp⟩
  | cons c l =>
    exfalso
    simp [between, List.isPrefixOf] at hp
    exact h c (by simp) hp.1.symm
theorem index_bar : ∀ (l : List UInt8), (∀ b ∈ l, b ≠ 124) → index l between = -1
  | [], _ => rfl
  | b :: l, h => by
    have ih := index_bar l fun c hc => h c (List.mem_cons_of_mem _ hc)
    have hp : between.isPrefixOf (b :: l) = false := by
      rw [Bool.eq_false_iff]
      intro hp
      have := pre_bar b l [] (fun c hc => h c (List.mem_cons_of_mem _ hc)) (by simpa using hp) (by simp [between, List.isPrefixOf] at hp; exact hp.1.symm)
      exact absurd this.2 (by decide)
    rw [index, hp, ih]; rfl
theorem index_barAt (t : List UInt8) : ∀ (l : List UInt8), (∀ b ∈ l, b ≠ 124) → index (l ++ between ++ t) between = l.length
  | [], _ => by
    have hp : between.isPrefixOf ([] ++ between ++ t) = true := by rw [List.isPrefixOf_iff_prefix]; simp
    show index (32 :: (124 :: 32 :: t)) between = 0
    have hp' : between.isPrefixOf (32 :: (124 :: 32 :: t)) = true := by simp [between, List.isPrefixOf]
    rw [index, hp']; rfl
  | b :: l, h => by
    have ih := index_barAt t l fun c hc => h c (List.mem_cons_of_mem _ hc)
    have hp : between.isPrefixOf (b :: (l ++ between ++ t)) = false := by
      rw [Bool.eq_false_iff]
      intro hp
      rw [List.append_assoc] at hp
      have := pre_bar b l (between ++ t) (fun c hc => h c (List.mem_cons_of_mem _ hc)) hp (by simp [between, List.isPrefixOf] at hp; exact hp.1.symm)
      have h2 := this.2
      simp [between, List.isPrefixOf] at h2
    show index (b :: (l ++ between ++ t)) between = _
    rw [index, hp, ih]
    have hn : ((l.length : Int) == -1) = false := by rw [beq_eq_false_iff_ne]; omega
    rw [hn]; simp
theorem split_bar (xs : List (List UInt8)) (hx : xs ≠ []) (h : ∀ x ∈ xs, ∀ b ∈ x, b ≠ 124) : split (join xs between) between = xs :=
  split_join _ (by decide) xs hx (fun x hm => index_bar x (h x hm)) (fun x hm t => index_barAt t x (h x hm))
theorem join_mem {xs : List (List UInt8)} {sep : List UInt8} {b : UInt8} (h : b ∈ join xs sep) : b ∈ sep ∨ ∃ x ∈ xs, b ∈ x := by
  cases xs with
  | nil => cases h
  | cons x r =>
    rw [join_cons] at h
    rcases List.mem_append.1 h with h | h
    · exact .inr ⟨x, by simp, h⟩
    · unfold joinTail at h
      obtain ⟨y, hy, hb⟩ := List.mem_flatten.1 h
      obtain ⟨z, hz, rfl⟩ := List.mem_map.1 hy
      rcases List.mem_append.1 hb with hb | hb
      · exact .inl hb
      · exact .inr ⟨z, List.mem_cons_of_mem _ hz, hb⟩

/-! ### numbers -/
def num (n : Int) : Bool := decide (-1000000 ≤ n) && decide (n ≤ 1000000)
theorem num_iff {n : Int} : num n = true ↔ -1000000 ≤ n ∧ n ≤ 1000000 := by unfold num; simp
/-- digits and the sign -/
def dig (b : UInt8) : Prop := b = 45 ∨ Tx.isDig b = true
theorem dig_ne {b : UInt8} (h : dig b) : b ≠ 32 ∧ b ≠ 44 ∧ b ≠ 58 ∧ b ≠ 124 ∧ b ≠ 10 := by
  rcases h with rfl | h
  · decide
  · unfold Tx.isDig at h
    simp only [Bool.and_eq_true, decide_eq_true_eq] at h
    refine ⟨?_, ?_, ?_, ?_, ?_⟩
    · rintro rfl; exact absurd h.1 (by decide)
    · rintro rfl; exact absurd h.1 (by decide)
    · rintro rfl; exact absurd h.2 (by decide)
    · rintro rfl; exact absurd h.2 (by decide)
    · rintro rfl; exact absurd h.1 (by decide)
theorem itoa_dig (n : Int) : ∀ b ∈ itoa n, dig b := by
  intro b hb
  unfold itoa at hb
  split at hb
  · rcases List.mem_cons.1 hb with rfl | h
    · exact .inl rfl
    · exact .inr (Tx.dec_dig _ b h)
  · exact .inr (Tx.dec_dig _ b hb)
theorem itoa_len8 {n : Int} (h : num n = true) : (itoa n).length ≤ 8 := by
  have h := num_iff.1 h
  unfold itoa
  split
  · have := Tx.dec_len n.natAbs 6 (by omega); simp; omega
  · have := Tx.dec_len n.toNat 6 (by omega); omega
theorem atoi_num {n : Int} (h : num n = true) : Co.atoiVal (itoa n) = n := by
  have := itoa_len8 h
  unfold Co.atoiVal
  rw [atoiAll_short _ (by omega), Tx.atoi_itoa]
  rfl
theorem itoa_ne (n : Int) : itoa n ≠ [] := fun e => by have := Tx.itoa_pos n; rw [e] at this; simp at this
theorem itoa_dash (n : Int) : itoa n ≠ [45] := by
  intro e
  have h1 := Tx.atoi_itoa n
  have h2 : atoi [45] = none := by decide
  rw [e, h2] at h1
  cases h1
/-- a list's word -/
def listT (l : List Int) : List UInt8 := if l = [] then [45] else join (l.map itoa) [44]
/-- the numbers of a word -/
def numsP (s : List UInt8) : List Int := if s = [45] then [] else (split s [44]).map Co.atoiVal
theorem listT_ne {l : List Int} (h : l ≠ []) : listT l ≠ [45] := by
  unfold listT
  rw [if_neg h]
  intro e
  cases l with
  | nil => exact h rfl
  | cons n r =>
    rw [List.map_cons, join_cons] at e
    cases r with
    | nil => simp [joinTail] at e; exact itoa_dash n e
    | cons m r =>
      have h1 := Tx.itoa_pos n
      have h2 := congrArg List.length e
      simp [joinTail] at h2
      omega
theorem numsP_listT {l : List Int} (h : ∀ n ∈ l, num n = true) : numsP (listT l) = l := by
  by_cases hl : l = []
  · subst hl; rfl
  · unfold numsP
    rw [if_neg (listT_ne hl)]
    unfold listT
    rw [if_neg hl, split_join1 44 [] (l.map itoa) (by simpa using hl) fun x hx b hb => by
      obtain ⟨n, -, rfl⟩ := List.mem_map.1 hx
      exact (dig_ne (itoa_dig n b hb)).2.1, List.map_map]
    exact (List.map_congr_left fun n hn => atoi_num (h n hn)).trans (List.map_id _)
theorem listT_mem {l : List Int} {b : UInt8} (h : b ∈ listT l) : b = 44 ∨ dig b := by
  unfold listT at h
  split at h
  · right; left; simpa using h
  · rcases join_mem h with h | ⟨x, hx, hb⟩
    · left; simpa using h
    · obtain ⟨n, -, rfl⟩ := List.mem_map.1 hx
      exact .inr (itoa_dig n b hb)

/-! ### routes -/
def rbt (t : Int) : UInt8 := UInt8.ofNat (48 + t.toNat)
def rtx (r : List Int) : List UInt8 := r.map rbt
def rt3 (r : List Int) : Bool := r.all fun t => decide (0 ≤ t) && decide (t < 3)
theorem rt3_iff {r : List Int} : rt3 r = true ↔ ∀ t ∈ r, 0 ≤ t ∧ t < 3 := by unfold rt3; simp
def rbP (b : UInt8) : Int := (b.toNat : Int) - 48
def routeP (s : List UInt8) : List Int := if s.length = 8 ∧ rt3 (s.map rbP) = true then s.map rbP else Gr.zeros
theorem rbP_rbt {t : Int} (h : 0 ≤ t ∧ t < 3) : rbP (rbt t) = t := by
  rcases (show t = 0 ∨ t = 1 ∨ t = 2 by omega) with rfl | rfl | rfl <;> decide
theorem rbt_dig {t : Int} (h : 0 ≤ t ∧ t < 3) : dig (rbt t) := by
  rcases (show t = 0 ∨ t = 1 ∨ t = 2 by omega) with rfl | rfl | rfl <;> exact .inr (by decide)
theorem routeP_rtx {r : List Int} (h8 : r.length = 8) (h : rt3 r = true) : routeP (rtx r) = r := by
  have hm : (rtx r).map rbP = r := by
    unfold rtx
    rw [List.map_map]
    exact (List.map_congr_left fun t ht => rbP_rbt (rt3_iff.1 h t ht)).trans (List.map_id _)
  unfold routeP
  rw [hm, if_pos ⟨by simpa [rtx] using h8, h⟩]
theorem rtx_dig {r : List Int} (h : rt3 r = true) : ∀ b ∈ rtx r, dig b := by
  intro b hb
  obtain ⟨t, ht, rfl⟩ := List.mem_map.1 hb
  exact rbt_dig (rt3_iff.1 h t ht)

/-! ### programs' words -/
theorem word_no {i : Co.Ins} (h : Co.rightI i = true) : ∀ b ∈ Co.word i, b ≠ 58 ∧ b ≠ 124 ∧ b ≠ 10 := by
  have key : ∀ n ∈ Co.namesL, ∀ b ∈ n, b ≠ 58 ∧ b ≠ 124 ∧ b ≠ 10 := by decide
  obtain ⟨h0, h1, -, -⟩ := Co.right_parts h
  intro b hb
  unfold Co.word at hb
  rcases List.mem_append.1 hb with h | h
  · exact key _ (Co.nameOf_mem h0 h1) b h
  · split at h
    · rcases List.mem_cons.1 h with rfl | h
      · decide
      · have := dig_ne (itoa_dig _ b h)
        exact ⟨this.2.2.1, this.2.2.2.1, this.2.2.2.2⟩
    · cases h
theorem textI_no {l : List Co.Ins} (h : Co.fitsI l = true) : ∀ b ∈ Co.textI l, b ≠ 58 ∧ b ≠ 124 ∧ b ≠ 10 := by
  intro b hb
  unfold Co.textI at hb
  rcases join_mem hb with h2 | ⟨x, hx, hb⟩
  · simp [Co.sep] at h2
    rcases h2 with rfl | rfl <;> decide
  · obtain ⟨i, hi, rfl⟩ := List.mem_map.1 hx
    exact word_no ((Co.fits_parts h).2 i hi) b hb

/-! ### nodes -/
def fitsN (n : Gr.Nd) : Bool := num n.id && (num n.par && (n.frm.all num && (decide (n.frm.length ≤ 60) && (rt3 n.route && Co.fitsI n.prog))))
theorem fitsN_iff {n : Gr.Nd} : fitsN n = true ↔ num n.id = true ∧ num n.par = true ∧ (∀ f ∈ n.frm, num f = true) ∧ n.frm.length ≤ 60 ∧ rt3 n.route = true ∧ Co.fitsI n.prog = true := by
  unfold fitsN; simp
def sSOURCE : List UInt8 := [83, 79, 85, 82, 67, 69]
def sOP : List UInt8 := [79, 80]
def sSINK : List UInt8 := [83, 73, 78, 75]
def behind : List UInt8 := [58, 32]
def placeT (n : Gr.Nd) : List UInt8 := itoa n.par ++ 32 :: rtx n.route
def nodeT (n : Gr.Nd) : List UInt8 :=
  if fitsN n = true then
    if n.kind = 0 ∧ n.frm = [] ∧ n.prog = [] then itoa n.id ++ 32 :: (sSOURCE ++ 32 :: placeT n)
    else if n.kind = 1 then itoa n.id ++ 32 :: (sOP ++ 32 :: (listT n.frm ++ 32 :: (placeT n ++ (behind ++ Co.textI n.prog))))
    else if n.kind = 2 ∧ n.prog = [] then itoa n.id ++ 32 :: (sSINK ++ 32 :: (listT n.frm ++ 32 :: placeT n))
    else []
  else []
def wordsP (s : List UInt8) : List (List UInt8) × List Co.Ins := (split (cut s behind).1 [32], (Co.parseI (cut s behind).2.1).1)
def nodeP (w : List (List UInt8)) (p : List Co.Ins) : Gr.Nd :=
  if w.length = 4 ∧ w.getD 1 [] = sSOURCE then ⟨Co.atoiVal (w.getD 0 []), 0, [], p, Co.atoiVal (w.getD 2 []), routeP (w.getD 3 [])⟩
  else if w.length = 5 ∧ (w.getD 1 [] = sOP ∨ w.getD 1 [] = sSINK) then ⟨Co.atoiVal (w.getD 0 []), if w.getD 1 [] = sSINK then 2 else 1, numsP (w.getD 2 []), p, Co.atoiVal (w.getD 3 []), routeP (w.getD 4 [])⟩
  else ⟨0, -1, [], [], 0, Gr.zeros⟩
/-- words with a blank between, and no colon -/
def Word (x : List UInt8) : Prop := ∀ b ∈ x, b ≠ 32 ∧ b ≠ 58 ∧ b ≠ 124 ∧ b ≠ 10
theorem word_itoa (n : Int) : Word (itoa n) := fun b hb => by
  have := dig_ne (itoa_dig n b hb)
  exact ⟨this.1, this.2.2⟩
theorem word_list (l : List Int) : Word (listT l) := fun b hb => by
  rcases listT_mem hb with rfl | h
  · decide
  · have := dig_ne h
    exact ⟨this.1, this.2.2⟩
theorem word_rtx {r : List Int} (h : rt3 r = true) : Word (rtx r) := fun b hb => by
  have := dig_ne (rtx_dig h b hb)
  exact ⟨this.1, this.2.2⟩
theorem words_join {ws : List (List UInt8)} (hw : ws ≠ []) (h : ∀ x ∈ ws, Word x) : wordsP (join ws [32]) = (ws, []) := by
  have hc : cut (join ws [32]) behind = (join ws [32], [], false) := Co.cut_clean 58 [32] _ fun b hb => by
    rcases join_mem hb with h2 | ⟨x, hx, hb⟩
    · simp at h2; subst h2; decide
    · exact (h x hx b hb).2.1
  unfold wordsP
  rw [hc]
  simp only
  rw [split_join1 32 [] ws hw fun x hx b hb => (h x hx b hb).1]
  rfl
theorem words_prog {ws : List (List UInt8)} (hw : ws ≠ []) (h : ∀ x ∈ ws, Word x) {p : List Co.Ins} (hp : Co.fitsI p = true) : wordsP (join ws [32] ++ (behind ++ Co.textI p)) = (ws, p) := by
  have hc : cut (join ws [32] ++ (behind ++ Co.textI p)) behind = (join ws [32], Co.textI p, true) := by
    rw [← List.append_assoc]
    exact Co.cut_first 58 [32] _ _ fun b hb => by
      rcases join_mem hb with h2 | ⟨x, hx, hb⟩
      · simp at h2; subst h2; decide
      · exact (h x hx b hb).2.1
  unfold wordsP
  rw [hc]
  simp only
  rw [split_join1 32 [] ws hw fun x hx b hb => (h x hx b hb).1, Co.parse_text hp]
theorem join2 (a b sep : List UInt8) : join [a, b] sep = a ++ (sep ++ b) := by rw [join_cons]; simp [joinTail]
theorem join3 (a b c sep : List UInt8) : join [a, b, c] sep = a ++ (sep ++ (b ++ (sep ++ c))) := by rw [join_cons]; simp [joinTail]
theorem join4 (a b c d sep : List UInt8) : join [a, b, c, d] sep = a ++ (sep ++ (b ++ (sep ++ (c ++ (sep ++ d))))) := by rw [join_cons]; simp [joinTail]
theorem join5 (a b c d e sep : List UInt8) : join [a, b, c, d, e] sep = a ++ (sep ++ (b ++ (sep ++ (c ++ (sep ++ (d ++ (sep ++ e))))))) := by rw [join_cons]; simp [joinTail]
theorem nodeT_ne {n : Gr.Nd} (h : nodeT n ≠ []) : fitsN n = true ∧ ((n.kind = 0 ∧ n.frm = [] ∧ n.prog = []) ∨ n.kind = 1 ∨ (n.kind = 2 ∧ n.prog = [])) := by
  unfold nodeT at h
  split at h
  · rename_i hf
    refine ⟨hf, ?_⟩
    split at h
    · left; assumption
    · split at h
      · right; left; assumption
      · split at h
        · right; right; assumption
        · exact absurd rfl h
  · exact absurd rfl h
theorem nodeP_ws {n : Gr.Nd} (h8 : n.route.length = 8) (h : nodeT n ≠ []) : nodeP (wordsP (nodeT n)).1 (wordsP (nodeT n)).2 = n := by
  obtain ⟨hf, hk⟩ := nodeT_ne h
  obtain ⟨h1, h2, h3, h4, h5, h6⟩ := fitsN_iff.1 hf
  obtain ⟨id, kind, frm, prog, par, route⟩ := n
  simp only at *
  rcases hk with ⟨rfl, rfl, rfl⟩ | rfl | ⟨rfl, rfl⟩
  · have e : nodeT ⟨id, 0, [], [], par, route⟩ = join [itoa id, sSOURCE, itoa par, rtx route] [32] := by
      unfold nodeT
      rw [if_pos hf, if_pos (by simp), join4]
      simp [placeT]
    rw [e, words_join (by simp) (by
      intro x hx
      simp at hx
      rcases hx with rfl | rfl | rfl | rfl
      · exact word_itoa _
      · unfold Word; decide
      · exact word_itoa _
      · exact word_rtx h5)]
    unfold nodeP
    rw [if_pos (by simp)]
    simp only [List.getD_cons_zero, List.getD_cons_succ, atoi_num h1, atoi_num h2, routeP_rtx h8 h5]
  · have e : nodeT ⟨id, 1, frm, prog, par, route⟩ = join [itoa id, sOP, listT frm, itoa par, rtx route] [32] ++ (behind ++ Co.textI prog) := by
      unfold nodeT
      rw [if_pos hf, if_neg (by simp), if_pos rfl, join5]
      simp [placeT]
    rw [e, words_prog (by simp) (by
      intro x hx
      simp at hx
      rcases hx with rfl | rfl | rfl | rfl | rfl
      · exact word_itoa _
      · unfold Word; decide
      · exact word_list _
      · exact word_itoa _
      · exact word_rtx h5) h6]
    unfold nodeP
    rw [if_neg (by simp), if_pos (by simp)]
    simp only [List.getD_cons_zero, List.getD_cons_succ, atoi_num h1, atoi_num h2, routeP_rtx h8 h5, numsP_listT h3]
    rw [if_neg (by decide)]
  · have e : nodeT ⟨id, 2, frm, [], par, route⟩ = join [itoa id, sSINK, listT frm, itoa par, rtx route] [32] := by
      unfold nodeT
      rw [if_pos hf, if_neg (by simp), if_neg (by simp), if_pos (by simp), join5]
      simp [placeT]
    rw [e, words_join (by simp) (by
      intro x hx
      simp at hx
      rcases hx with rfl | rfl | rfl | rfl | rfl
      · exact word_itoa _
      · unfold Word; decide
      · exact word_list _
      · exact word_itoa _
      · exact word_rtx h5)]
    unfold nodeP
    rw [if_neg (by simp), if_pos (by simp)]
    simp only [List.getD_cons_zero, List.getD_cons_succ, atoi_num h1, atoi_num h2, routeP_rtx h8 h5, numsP_listT h3]
    rw [if_pos trivial]
theorem placeT_no {n : Gr.Nd} (h : rt3 n.route = true) : ∀ b ∈ placeT n, b ≠ 58 ∧ b ≠ 124 ∧ b ≠ 10 := by
  intro b hb
  unfold placeT at hb
  rcases List.mem_append.1 hb with h2 | h2
  · exact (word_itoa _ b h2).2
  · rcases List.mem_cons.1 h2 with rfl | h2
    · decide
    · exact (word_rtx h b h2).2
theorem nodeT_no (n : Gr.Nd) : ∀ b ∈ nodeT n, b ≠ 124 ∧ b ≠ 10 := by
  intro b hb
  have hne : nodeT n ≠ [] := fun e => by rw [e] at hb; cases hb
  obtain ⟨hf, hk⟩ := nodeT_ne hne
  obtain ⟨h1, h2, h3, h4, h5, h6⟩ := fitsN_iff.1 hf
  have hp := placeT_no h5
  have hi := word_itoa n.id
  have hl := word_list n.frm
  have ht := textI_no h6
  unfold nodeT at hb
  rw [if_pos hf] at hb
  have c1 : ∀ b ∈ sSOURCE, b ≠ 124 ∧ b ≠ 10 := by decide
  have c2 : ∀ b ∈ sOP, b ≠ 124 ∧ b ≠ 10 := by decide
  have c3 : ∀ b ∈ sSINK, b ≠ 124 ∧ b ≠ 10 := by decide
  have c4 : ∀ b ∈ behind, b ≠ 124 ∧ b ≠ 10 := by decide
  have c5 : (32 : UInt8) ≠ 124 ∧ (32 : UInt8) ≠ 10 := by decide
  split at hb
  · simp only [List.mem_append, List.mem_cons] at hb
    rcases hb with hb | rfl | hb | rfl | hb
    · exact (hi b hb).2.2
    · exact c5
    · exact c1 b hb
    · exact c5
    · exact (hp b hb).2
  · split at hb
    · simp only [List.mem_append, List.mem_cons] at hb
      rcases hb with hb | rfl | hb | rfl | hb | rfl | hb | hb | hb
      · exact (hi b hb).2.2
      · exact c5
      · exact c2 b hb
      · exact c5
      · exact (hl b hb).2.2
      · exact c5
      · exact (hp b hb).2
      · exact c4 b hb
      · exact (ht b hb).2
    · split at hb
      · simp only [List.mem_append, List.mem_cons] at hb
        rcases hb with hb | rfl | hb | rfl | hb | rfl | hb
        · exact (hi b hb).2.2
        · exact c5
        · exact c3 b hb
        · exact c5
        · exact (hl b hb).2.2
        · exact c5
        · exact (hp b hb).2
      · cases hb

/-! ### steps -/
def sSWAP : List UInt8 := [83, 87, 65, 80]
def sADD : List UInt8 := [65, 68, 68]
def sREMOVE : List UInt8 := [82, 69, 77, 79, 86, 69]
def sROUTE : List UInt8 := [82, 79, 85, 84, 69]
def sLINK : List UInt8 := [76, 73, 78, 75]
def sKEEP : List UInt8 := [75, 69, 69, 80]
def sRESET : List UInt8 := [82, 69, 83, 69, 84]
def stepT (s : Gr.Stp) : List UInt8 :=
  if s.kind = 1 then sSWAP ++ 32 :: (itoa s.nd.id ++ 32 :: ((if s.reset = true then sRESET else sKEEP) ++ (behind ++ Co.textI s.nd.prog)))
  else if s.kind = 2 then sADD ++ 32 :: nodeT s.nd
  else if s.kind = 3 then sREMOVE ++ 32 :: itoa s.nd.id
  else if s.kind = 4 then sROUTE ++ 32 :: (itoa s.nd.id ++ 32 :: placeT s.nd)
  else sLINK ++ 32 :: (itoa s.nd.id ++ 32 :: listT s.nd.frm)
def Told (s : Gr.Stp) : Prop := (1 ≤ s.kind ∧ s.kind ≤ 5) ∧ fitsN s.nd = true ∧ (s.kind = 2 → nodeT s.nd ≠ []) ∧ Gr.cleanS s = s
open Classical in
noncomputable def planT (p : List Gr.Stp) : List UInt8 := if 1 ≤ p.length ∧ p.length ≤ 6 ∧ ∀ s ∈ p, Told s then join (p.map stepT) between else []
def stepQ (v : List UInt8) (w : List (List UInt8) × List Co.Ins) (id : Int) : Gr.Stp :=
  if v = sSWAP ∧ w.1.length = 2 then ⟨1, ⟨id, 0, [], w.2, 0, Gr.zeros⟩, w.1.getD 1 [] == sRESET⟩
  else if v = sADD then ⟨2, nodeP w.1 w.2, false⟩
  else if v = sREMOVE then ⟨3, ⟨id, 0, [], [], 0, Gr.zeros⟩, false⟩
  else if v = sROUTE ∧ w.1.length = 3 then ⟨4, ⟨id, 0, [], [], Co.atoiVal (w.1.getD 1 []), routeP (w.1.getD 2 [])⟩, false⟩
  else if v = sLINK ∧ w.1.length = 2 then ⟨5, ⟨id, 0, numsP (w.1.getD 1 []), [], 0, Gr.zeros⟩, false⟩
  else ⟨0, ⟨id, 0, [], [], 0, Gr.zeros⟩, false⟩
def stepP (s : List UInt8) : Gr.Stp := stepQ (cut s [32]).1 (wordsP (cut s [32]).2.1) (Co.atoiVal ((wordsP (cut s [32]).2.1).1.getD 0 []))
def stepsP (s : List UInt8) : List Gr.Stp := (split s between).map stepP
/-- lines.ParsePlan -/
noncomputable def parseP (s : List UInt8) : List Gr.Stp × Int := if s ≠ [] ∧ planT (stepsP s) = s then (stepsP s, 0) else ([], 4)
theorem cut_verb {v : List UInt8} (h : ∀ b ∈ v, b ≠ 32) (t : List UInt8) : cut (v ++ 32 :: t) [32] = (v, t, true) := by
  have := Co.cut_first 32 [] v t h
  rwa [List.append_assoc] at this
theorem stepP_at {v t : List UInt8} {w : List (List UInt8)} {p : List Co.Ins} (h : ∀ b ∈ v, b ≠ 32) (hw : wordsP t = (w, p)) : stepP (v ++ 32 :: t) = stepQ v (w, p) (Co.atoiVal (w.getD 0 [])) := by
  unfold stepP
  rw [cut_verb h, hw]
theorem stepP_step {s : Gr.Stp} (h8 : s.nd.route.length = 8) (h : Told s) : stepP (stepT s) = s := by
  obtain ⟨hk, hf, h2, hc⟩ := h
  obtain ⟨f1, f2, f3, f4, f5, f6⟩ := fitsN_iff.1 hf
  obtain ⟨kind, ⟨id, nk, frm, prog, par, route⟩, reset⟩ := s
  simp only at *
  rcases (show kind = 1 ∨ kind = 2 ∨ kind = 3 ∨ kind = 4 ∨ kind = 5 by omega) with rfl | rfl | rfl | rfl | rfl
  · simp [Gr.cleanS] at hc
    obtain ⟨rfl, rfl, rfl, rfl⟩ := hc
    have hw : wordsP (itoa id ++ 32 :: ((if reset = true then sRESET else sKEEP) ++ (behind ++ Co.textI prog))) = ([itoa id, if reset = true then sRESET else sKEEP], prog) := by
      have := words_prog (ws := [itoa id, if reset = true then sRESET else sKEEP]) (by simp) (by
        intro x hx
        simp at hx
        rcases hx with rfl | rfl
        · exact word_itoa _
        · cases reset <;> (unfold Word; decide)) f6
      rw [join2] at this
      simpa using this
    have e : stepT ⟨1, ⟨id, 0, [], prog, 0, Gr.zeros⟩, reset⟩ = _ := if_pos rfl
    rw [e]
    simp only
    rw [stepP_at (by decide) hw]
    unfold stepQ
    rw [if_pos (by simp)]
    simp only [List.getD_cons_zero, List.getD_cons_succ, atoi_num f1]
    cases reset <;> rfl
  · have hn := h2 rfl
    simp [Gr.cleanS] at hc
    subst hc
    have e : stepT ⟨2, ⟨id, nk, frm, prog, par, route⟩, false⟩ = _ := (if_neg (by simp)).trans (if_pos rfl)
    rw [e]
    simp only
    rw [stepP_at (w := (wordsP (nodeT ⟨id, nk, frm, prog, par, route⟩)).1) (p := (wordsP (nodeT ⟨id, nk, frm, prog, par, route⟩)).2) (by decide) rfl]
    unfold stepQ
    rw [if_neg (by simp [sADD, sSWAP]), if_pos rfl]
    simp only
    rw [nodeP_ws h8 hn]
  · simp [Gr.cleanS] at hc
    obtain ⟨⟨rfl, rfl, rfl, rfl, rfl⟩, rfl⟩ := hc
    have hw : wordsP (itoa id) = ([itoa id], []) := by
      have := words_join (ws := [itoa id]) (by simp) (by simpa using word_itoa id)
      rwa [join_one] at this
    have e : stepT ⟨3, ⟨id, 0, [], [], 0, Gr.zeros⟩, false⟩ = _ := (if_neg (by simp)).trans ((if_neg (by simp)).trans (if_pos rfl))
    rw [e]
    simp only
    rw [stepP_at (by decide) hw]
    unfold stepQ
    rw [if_neg (by simp [sREMOVE, sSWAP]), if_neg (by simp [sREMOVE, sADD]), if_pos rfl]
    simp only [List.getD_cons_zero, atoi_num f1]
  · simp [Gr.cleanS] at hc
    obtain ⟨⟨rfl, rfl, rfl⟩, rfl⟩ := hc
    have hw : wordsP (itoa id ++ 32 :: (itoa par ++ 32 :: rtx route)) = ([itoa id, itoa par, rtx route], []) := by
      have := words_join (ws := [itoa id, itoa par, rtx route]) (by simp) (by
        intro x hx
        simp at hx
        rcases hx with rfl | rfl | rfl
        · exact word_itoa _
        · exact word_itoa _
        · exact word_rtx f5)
      rw [join3] at this
      simpa using this
    have e : stepT ⟨4, ⟨id, 0, [], [], par, route⟩, false⟩ = _ := (if_neg (by simp)).trans ((if_neg (by simp)).trans ((if_neg (by simp)).trans (if_pos rfl)))
    rw [e]
    simp only [placeT]
    rw [stepP_at (by decide) hw]
    unfold stepQ
    rw [if_neg (by simp [sROUTE, sSWAP]), if_neg (by simp [sROUTE, sADD]), if_neg (by simp [sROUTE, sREMOVE]), if_pos (by simp)]
    simp only [List.getD_cons_zero, List.getD_cons_succ, atoi_num f1, atoi_num f2, routeP_rtx h8 f5]
  · simp [Gr.cleanS] at hc
    obtain ⟨⟨rfl, rfl, rfl, rfl⟩, rfl⟩ := hc
    have hw : wordsP (itoa id ++ 32 :: listT frm) = ([itoa id, listT frm], []) := by
      have := words_join (ws := [itoa id, listT frm]) (by simp) (by
        intro x hx
        simp at hx
        rcases hx with rfl | rfl
        · exact word_itoa _
        · exact word_list _)
      rw [join2] at this
      simpa using this
    have e : stepT ⟨5, ⟨id, 0, frm, [], 0, Gr.zeros⟩, false⟩ = _ := (if_neg (by simp)).trans ((if_neg (by simp)).trans ((if_neg (by simp)).trans (if_neg (by simp))))
    rw [e]
    simp only
    rw [stepP_at (by decide) hw]
    unfold stepQ
    rw [if_neg (by simp [sLINK, sSWAP]), if_neg (by simp [sLINK, sADD]), if_neg (by simp [sLINK, sREMOVE]), if_neg (by simp [sLINK, sROUTE]), if_pos (by simp)]
    simp only [List.getD_cons_zero, List.getD_cons_succ, atoi_num f1, numsP_listT f3]
theorem stepT_no {s : Gr.Stp} (h : Told s) : ∀ b ∈ stepT s, b ≠ 124 := by
  obtain ⟨hk, hf, h2, hc⟩ := h
  obtain ⟨f1, f2, f3, f4, f5, f6⟩ := fitsN_iff.1 hf
  have hi := word_itoa s.nd.id
  have hl := word_list s.nd.frm
  have hp := placeT_no f5
  have ht := textI_no f6
  have hn := nodeT_no s.nd
  intro b hb
  have c5 : (32 : UInt8) ≠ 124 := by decide
  unfold stepT at hb
  split at hb
  · simp only [List.mem_append, List.mem_cons] at hb
    rcases hb with hb | rfl | hb | rfl | hb | hb | hb
    · exact (by decide : ∀ b ∈ sSWAP, b ≠ 124) b hb
    · exact c5
    · exact (hi b hb).2.2.1
    · exact c5
    · cases hr : s.reset <;> rw [hr] at hb
      · exact (by decide : ∀ b ∈ sKEEP, b ≠ 124) b hb
      · exact (by decide : ∀ b ∈ sRESET, b ≠ 124) b hb
    · exact (by decide : ∀ b ∈ behind, b ≠ 124) b hb
    · exact (ht b hb).2.1
  · split at hb
    · simp only [List.mem_append, List.mem_cons] at hb
      rcases hb with hb | rfl | hb
      · exact (by decide : ∀ b ∈ sADD, b ≠ 124) b hb
      · exact c5
      · exact (hn b hb).1
    · split at hb
      · simp only [List.mem_append, List.mem_cons] at hb
        rcases hb with hb | rfl | hb
        · exact (by decide : ∀ b ∈ sREMOVE, b ≠ 124) b hb
        · exact c5
        · exact (hi b hb).2.2.1
      · split at hb
        · simp only [List.mem_append, List.mem_cons] at hb
          rcases hb with hb | rfl | hb | rfl | hb
          · exact (by decide : ∀ b ∈ sROUTE, b ≠ 124) b hb
          · exact c5
          · exact (hi b hb).2.2.1
          · exact c5
          · exact (hp b hb).2.1
        · simp only [List.mem_append, List.mem_cons] at hb
          rcases hb with hb | rfl | hb | rfl | hb
          · exact (by decide : ∀ b ∈ sLINK, b ≠ 124) b hb
          · exact c5
          · exact (hi b hb).2.2.1
          · exact c5
          · exact (hl b hb).2.2.1
theorem planT_ne {p : List Gr.Stp} (h : planT p ≠ []) : (1 ≤ p.length ∧ p.length ≤ 6 ∧ ∀ s ∈ p, Told s) ∧ planT p = join (p.map stepT) between := by
  unfold planT at h ⊢
  split
  · exact ⟨by assumption, rfl⟩
  · rename_i hn
    rw [if_neg hn] at h
    exact absurd rfl h
theorem planT_some {p : List Gr.Stp} (h : 1 ≤ p.length ∧ p.length ≤ 6 ∧ ∀ s ∈ p, Told s) : planT p = join (p.map stepT) between := by unfold planT; exact if_pos h
theorem planT_none {p : List Gr.Stp} (h : ¬ (1 ≤ p.length ∧ p.length ≤ 6 ∧ ∀ s ∈ p, Told s)) : planT p = [] := by unfold planT; exact if_neg h
theorem stepsP_plan {p : List Gr.Stp} (h8 : ∀ s ∈ p, s.nd.route.length = 8) (h : planT p ≠ []) : stepsP (planT p) = p := by
  obtain ⟨⟨h1, h6, ht⟩, e⟩ := planT_ne h
  unfold stepsP
  rw [e, split_bar (p.map stepT) (by intro q; cases p with | nil => simp at h1 | cons => simp at q) fun x hx b hb => by
    obtain ⟨s, hs, rfl⟩ := List.mem_map.1 hx
    exact stepT_no (ht s hs) b hb, List.map_map]
  exact (List.map_congr_left fun s hs => stepP_step (h8 s hs) (ht s hs)).trans (List.map_id _)
theorem parseP_plan {p : List Gr.Stp} (h8 : ∀ s ∈ p, s.nd.route.length = 8) (h : planT p ≠ []) : parseP (planT p) = (p, 0) := by
  unfold parseP
  rw [stepsP_plan h8 h, if_pos ⟨h, rfl⟩]
end Li

/-! Events as lines: plain laws. -/
namespace Li
set_option linter.unusedSimpArgs false
set_option linter.unusedVariables false
open Go.Lib

structure Ev where
  kind : Int
  a : Int
  b : Int
  recs : List (Int × Int × Int)
  plan : List UInt8
  keep : List Bool
  cut : Int
def ev0 : Ev := ⟨0, 0, 0, [], [], [], 0⟩
def okRec (r : Int × Int × Int) : Prop := (0 ≤ r.1 ∧ r.1 < 64) ∧ (-524288 ≤ r.2.1 ∧ r.2.1 < 524288) ∧ (-524288 ≤ r.2.2 ∧ r.2.2 < 524288)
def recW (r : Int × Int × Int) : List UInt8 := itoa r.1 ++ 58 :: Tx.textL r.2.1 r.2.2
def recsT (l : List (Int × Int × Int)) : List UInt8 := join (l.map recW) [32]
def bitB (b : Bool) : UInt8 := if b then 49 else 48
def bitsT (l : List Bool) : List UInt8 := if l = [] then [45] else l.map bitB
def truthsP (s : List UInt8) : List Bool := if s = [45] then [] else s.map (· == 49)
def namesE : List (List UInt8) := [[], [65, 80, 80, 69, 78, 68], [83, 85, 66, 77, 73, 84], [84, 82, 73, 71, 71, 69, 82], [80, 73, 67, 75], [68, 69, 76, 73, 86, 69, 82], [76, 79, 83, 69], [84, 87, 73, 67, 69], [84, 85, 82, 78], [84, 73, 67, 75], [70, 85, 83, 69], [67, 82, 65, 83, 72], [82, 79, 85, 78, 68, 83], [83, 69, 84, 84, 76, 69]]
def nameE (k : Int) : List UInt8 := namesE.getD k.toNat []
def kindOf (n : List UInt8) : Int := if n ∈ namesE then (namesE.idxOf n : Int) else -1
/-- has its line the number A alone? -/
def hasA1 (k : Int) : Prop := k = 4 ∨ k = 5 ∨ k = 6 ∨ k = 7 ∨ k = 10 ∨ k = 12
instance (k : Int) : Decidable (hasA1 k) := by unfold hasA1; exact inferInstance
section
variable (gp : List UInt8 → List Gr.Stp × Int) (pk : List Gr.Stp → List UInt8 × Int) (gv : List UInt8 → Int × Int)
def Bare (v : Ev) : Prop := (num v.a = true ∧ num v.b = true ∧ num v.cut = true ∧ v.recs.length ≤ 60 ∧ v.keep.length ≤ 60) ∧ (¬ (hasA1 v.kind ∨ v.kind = 8) → v.a = 0) ∧ (v.kind ≠ 8 → v.b = 0) ∧ (v.kind ≠ 11 → v.cut = 0 ∧ v.keep = []) ∧ (v.kind ≠ 1 → v.recs = []) ∧ (v.kind ≠ 2 → v.plan = []) ∧ (v.kind = 2 → planT (gp v.plan).1 ≠ []) ∧ ∀ r ∈ v.recs, okRec r
/-- the words behind the name -/
noncomputable def wordsE (v : Ev) : List (List UInt8) :=
  if v.kind = 1 then (if v.recs = [] then [] else [recsT v.recs])
  else if v.kind = 2 then [planT (gp v.plan).1]
  else if v.kind = 8 then [itoa v.a, itoa v.b]
  else if v.kind = 11 then [bitsT v.keep, itoa v.cut]
  else if hasA1 v.kind then [itoa v.a]
  else []
open Classical in
/-- lines.Event -/
noncomputable def eventT (v : Ev) : List UInt8 := if (1 ≤ v.kind ∧ v.kind ≤ 13) ∧ Bare gp v then join (nameE v.kind :: wordsE gp v) [32] else []
def recP (x : List UInt8) : Int × Int × Int := (Co.atoiVal (cut x [58]).1, gv (cut x [58]).2.1)
/-- lines.read -/
noncomputable def readE (s : List UInt8) : Ev :=
  if kindOf (cut s [32]).1 < 1 ∨ (cut s [32]).2.2 = false then { ev0 with kind := kindOf (cut s [32]).1 }
  else if kindOf (cut s [32]).1 = 1 then { ev0 with kind := 1, recs := (split (cut s [32]).2.1 [32]).map (recP gv) }
  else if kindOf (cut s [32]).1 = 2 then { ev0 with kind := 2, plan := (pk (parseP (cut s [32]).2.1).1).1 }
  else if kindOf (cut s [32]).1 = 8 then { ev0 with kind := 8, a := Co.atoiVal ((split (cut s [32]).2.1 [32]).getD 0 []), b := if 1 < (split (cut s [32]).2.1 [32]).length then Co.atoiVal ((split (cut s [32]).2.1 [32]).getD 1 []) else 0 }
  else if kindOf (cut s [32]).1 = 11 then { ev0 with kind := 11, keep := truthsP ((split (cut s [32]).2.1 [32]).getD 0 []), cut := if 1 < (split (cut s [32]).2.1 [32]).length then Co.atoiVal ((split (cut s [32]).2.1 [32]).getD 1 []) else 0 }
  else if hasA1 (kindOf (cut s [32]).1) then { ev0 with kind := kindOf (cut s [32]).1, a := Co.atoiVal ((split (cut s [32]).2.1 [32]).getD 0 []) }
  else { ev0 with kind := kindOf (cut s [32]).1 }
open Classical in
/-- lines.Parse -/
noncomputable def parseE (s : List UInt8) : Ev × Int := if s ≠ [] ∧ eventT gp (readE pk gv s) = s then (readE pk gv s, 0) else (ev0, 4)
end

/-! ### words -/
theorem name_no : ∀ n ∈ namesE, ∀ b ∈ n, b ≠ 32 := by decide
theorem nameE_mem {k : Int} (h : 1 ≤ k ∧ k ≤ 13) : nameE k ∈ namesE := by
  unfold nameE
  have : k.toNat < namesE.length := by show k.toNat < 14; omega
  rw [List.getD_eq_getElem?_getD, List.getElem?_eq_getElem this]
  exact List.getElem_mem _
theorem kindOf_name {k : Int} (h : 1 ≤ k ∧ k ≤ 13) : kindOf (nameE k) = k := by
  have key : ∀ n : Nat, n < 14 → kindOf (nameE (n : Int)) = n := by decide +kernel
  obtain ⟨n, rfl⟩ : ∃ n : Nat, k = n := ⟨k.toNat, by omega⟩
  exact key n (by omega)
theorem kindOf_range (n : List UInt8) : -1 ≤ kindOf n ∧ kindOf n ≤ 13 := by
  unfold kindOf
  split
  · rename_i h
    have := List.idxOf_lt_length_of_mem h
    have h2 : namesE.length = 14 := rfl
    omega
  · omega
theorem text_no (r i : Int) : ∀ b ∈ Tx.textL r i, b ≠ 32 ∧ b ≠ 58 := by
  intro b hb
  unfold Tx.textL at hb
  simp only [List.mem_append] at hb
  rcases hb with ((h | h) | h) | h
  · have := dig_ne (itoa_dig r b h); exact ⟨this.1, this.2.2.1⟩
  · split at h
    · cases h
    · rw [List.mem_singleton] at h; subst h; decide
  · have := dig_ne (itoa_dig i b h); exact ⟨this.1, this.2.2.1⟩
  · rw [List.mem_singleton] at h; subst h; decide
theorem recW_no (r : Int × Int × Int) : ∀ b ∈ recW r, b ≠ 32 := by
  intro b hb
  unfold recW at hb
  rcases List.mem_append.1 hb with h | h
  · exact (dig_ne (itoa_dig _ b h)).1
  · rcases List.mem_cons.1 h with rfl | h
    · decide
    · exact (text_no _ _ b h).1
theorem recP_recW {gv : List UInt8 → Int × Int} (hv : ∀ x y : Int, (-524288 ≤ x ∧ x < 524288) → (-524288 ≤ y ∧ y < 524288) → gv (Tx.textL x y) = (x, y)) {r : Int × Int × Int} (h : okRec r) : recP gv (recW r) = r := by
  obtain ⟨h1, h2, h3⟩ := h
  have hc : cut (recW r) [58] = (itoa r.1, Tx.textL r.2.1 r.2.2, true) := by
    have := Co.cut_first 58 [] (itoa r.1) (Tx.textL r.2.1 r.2.2) fun b hb => (dig_ne (itoa_dig _ b hb)).2.2.1
    rw [List.append_assoc] at this
    exact this
  unfold recP
  rw [hc]
  simp only
  rw [atoi_num (num_iff.2 (by omega)), hv _ _ h2 h3]
theorem recsT_ne {l : List (Int × Int × Int)} (h : l ≠ []) : recsT l ≠ [] := by
  cases l with
  | nil => exact absurd rfl h
  | cons r l =>
    unfold recsT
    rw [List.map_cons, join_cons]
    unfold recW
    simp
theorem split_recs {l : List (Int × Int × Int)} (h : l ≠ []) : split (recsT l) [32] = l.map recW :=
  split_join1 32 [] _ (by simpa using h) fun x hx b hb => by
    obtain ⟨r, -, rfl⟩ := List.mem_map.1 hx
    exact recW_no r b hb
theorem bitsT_no (l : List Bool) : ∀ b ∈ bitsT l, b ≠ 32 := by
  intro b hb
  unfold bitsT at hb
  split at hb
  · simp at hb; subst hb; decide
  · obtain ⟨x, -, rfl⟩ := List.mem_map.1 hb
    cases x <;> decide
theorem bitsT_ne (l : List Bool) : bitsT l ≠ [] := by
  unfold bitsT
  split
  · decide
  · simpa using ‹¬ l = []›
theorem truths_bits (l : List Bool) : truthsP (bitsT l) = l := by
  by_cases hl : l = []
  · subst hl; rfl
  · unfold truthsP bitsT
    rw [if_neg hl, if_neg]
    · rw [List.map_map]
      exact (List.map_congr_left fun b _ => by cases b <;> decide).trans (List.map_id _)
    · intro e
      cases l with
      | nil => exact hl rfl
      | cons b l =>
        simp at e
        cases b <;> simp [bitB] at e
theorem cut_name {k : Int} (h : 1 ≤ k ∧ k ≤ 13) (t : List UInt8) : cut (nameE k ++ 32 :: t) [32] = (nameE k, t, true) := cut_verb (name_no _ (nameE_mem h)) t
theorem cut_bare {k : Int} (h : 1 ≤ k ∧ k ≤ 13) : cut (nameE k) [32] = (nameE k, [], false) := Co.cut_clean 32 [] _ (name_no _ (nameE_mem h))
section
variable {gp : List UInt8 → List Gr.Stp × Int} {pk : List Gr.Stp → List UInt8 × Int} {gv : List UInt8 → Int × Int}
theorem eventT_ne {v : Ev} (h : eventT gp v ≠ []) : ((1 ≤ v.kind ∧ v.kind ≤ 13) ∧ Bare gp v) ∧ eventT gp v = join (nameE v.kind :: wordsE gp v) [32] := by
  unfold eventT at h ⊢
  split
  · exact ⟨by assumption, rfl⟩
  · rename_i hn
    rw [if_neg hn] at h
    exact absurd rfl h
theorem eventT_some {v : Ev} (h : (1 ≤ v.kind ∧ v.kind ≤ 13) ∧ Bare gp v) : eventT gp v = join (nameE v.kind :: wordsE gp v) [32] := by unfold eventT; exact if_pos h
theorem eventT_none {v : Ev} (h : ¬ ((1 ≤ v.kind ∧ v.kind ≤ 13) ∧ Bare gp v)) : eventT gp v = [] := by unfold eventT; exact if_neg h
/-- what is told is read as it was -/
theorem readE_event (hg : ∀ s, planT (gp s).1 ≠ [] → (∀ x ∈ (gp s).1, x.nd.route.length = 8) ∧ (pk (gp s).1).1 = s) (hv : ∀ x y : Int, (-524288 ≤ x ∧ x < 524288) → (-524288 ≤ y ∧ y < 524288) → gv (Tx.textL x y) = (x, y)) {v : Ev} (h : eventT gp v ≠ []) : readE pk gv (eventT gp v) = v := by
  obtain ⟨⟨hk, hb⟩, e⟩ := eventT_ne h
  obtain ⟨⟨b1, b2, b3, b4, b5⟩, b6, b7, b8, b9, b10, b11, b12⟩ := hb
  rw [e]
  clear e h
  obtain ⟨kind, a, b, recs, plan, keep, ct⟩ := v
  simp only at *
  have hA : ∀ {t : List UInt8}, readE pk gv (nameE kind ++ 32 :: t) = if kind = 1 then { ev0 with kind := 1, recs := (split t [32]).map (recP gv) }
      else if kind = 2 then { ev0 with kind := 2, plan := (pk (parseP t).1).1 }
      else if kind = 8 then { ev0 with kind := 8, a := Co.atoiVal ((split t [32]).getD 0 []), b := if 1 < (split t [32]).length then Co.atoiVal ((split t [32]).getD 1 []) else 0 }
      else if kind = 11 then { ev0 with kind := 11, keep := truthsP ((split t [32]).getD 0 []), cut := if 1 < (split t [32]).length then Co.atoiVal ((split t [32]).getD 1 []) else 0 }
      else if hasA1 kind then { ev0 with kind := kind, a := Co.atoiVal ((split t [32]).getD 0 []) }
      else { ev0 with kind := kind } := by
    intro t
    unfold readE
    rw [cut_name hk, kindOf_name hk, if_neg (by simp; omega)]
  have hB : readE pk gv (nameE kind) = { ev0 with kind := kind } := by
    unfold readE
    rw [cut_bare hk, kindOf_name hk, if_pos (.inr rfl)]
  by_cases k1 : kind = 1
  · subst k1
    obtain ⟨rfl, rfl⟩ := b8 (by decide)
    have ra := b6 (by decide); have rb := b7 (by decide); have rp := b10 (by decide)
    subst ra rb rp
    by_cases hr : recs = []
    · subst hr
      show readE pk gv (join [nameE 1] [32]) = _
      rw [join_one, hB]
      rfl
    · have hw : wordsE gp ⟨1, 0, 0, recs, [], [], 0⟩ = [recsT recs] := (if_pos rfl).trans (if_neg hr)
      rw [hw, join2]
      show readE pk gv (nameE 1 ++ 32 :: recsT recs) = _
      have hm : (recs.map recW).map (recP gv) = recs := by
        rw [List.map_map]
        exact (List.map_congr_left fun r hr2 => recP_recW hv (b12 r hr2)).trans (List.map_id _)
      rw [hA, if_pos rfl, split_recs hr, hm]
      rfl
  have rr := b9 k1
  subst rr
  by_cases k2 : kind = 2
  · subst k2
    obtain ⟨rfl, rfl⟩ := b8 (by decide)
    have ra := b6 (by decide); have rb := b7 (by decide)
    subst ra rb
    obtain ⟨h8, hp⟩ := hg plan (b11 rfl)
    have hw : wordsE gp ⟨2, 0, 0, [], plan, [], 0⟩ = [planT (gp plan).1] := by simp [wordsE]
    rw [hw, join2]
    show readE pk gv (nameE 2 ++ 32 :: planT (gp plan).1) = _
    rw [hA, if_neg (by decide), if_pos rfl, parseP_plan h8 (b11 rfl)]
    simp only
    rw [hp]
    rfl
  have rp := b10 k2
  subst rp
  by_cases k8 : kind = 8
  · subst k8
    obtain ⟨rfl, rfl⟩ := b8 (by decide)
    have hw : wordsE gp ⟨8, a, b, [], [], [], 0⟩ = [itoa a, itoa b] := by simp [wordsE]
    have hs : split (itoa a ++ 32 :: itoa b) [32] = [itoa a, itoa b] := by
      have := split_join1 32 [] [itoa a, itoa b] (by simp) (by
        intro x hx c hc
        simp at hx
        rcases hx with rfl | rfl
        · exact (dig_ne (itoa_dig _ c hc)).1
        · exact (dig_ne (itoa_dig _ c hc)).1)
      rw [join2] at this
      simpa using this
    rw [hw, join3]
    show readE pk gv (nameE 8 ++ 32 :: (itoa a ++ 32 :: itoa b)) = _
    rw [hA, if_neg (by decide), if_neg (by decide), if_pos rfl, hs]
    simp only [List.getD_cons_zero, List.getD_cons_succ, atoi_num b1, atoi_num b2]
    rfl
  have rb := b7 k8
  subst rb
  by_cases k11 : kind = 11
  · subst k11
    have ra := b6 (by decide)
    subst ra
    have hw : wordsE gp ⟨11, 0, 0, [], [], keep, ct⟩ = [bitsT keep, itoa ct] := by simp [wordsE]
    have hs : split (bitsT keep ++ 32 :: itoa ct) [32] = [bitsT keep, itoa ct] := by
      have := split_join1 32 [] [bitsT keep, itoa ct] (by simp) (by
        intro x hx c hc
        simp at hx
        rcases hx with rfl | rfl
        · exact bitsT_no _ c hc
        · exact (dig_ne (itoa_dig _ c hc)).1)
      rw [join2] at this
      simpa using this
    rw [hw, join3]
    show readE pk gv (nameE 11 ++ 32 :: (bitsT keep ++ 32 :: itoa ct)) = _
    rw [hA, if_neg (by decide), if_neg (by decide), if_neg (by decide), if_pos rfl, hs]
    simp only [List.getD_cons_zero, List.getD_cons_succ, atoi_num b3, truths_bits]
    rfl
  obtain ⟨rc, rk⟩ := b8 k11
  subst rc rk
  have hw0 : wordsE gp ⟨kind, a, 0, [], [], [], 0⟩ = if hasA1 kind then [itoa a] else [] := (if_neg k1).trans ((if_neg k2).trans ((if_neg k8).trans (if_neg k11)))
  by_cases kA : hasA1 kind
  · rw [hw0, if_pos kA, join2]
    show readE pk gv (nameE kind ++ 32 :: itoa a) = _
    rw [hA, if_neg k1, if_neg k2, if_neg k8, if_neg k11, if_pos kA, split_one 32 _ fun c hc => (dig_ne (itoa_dig _ c hc)).1]
    simp only [List.getD_cons_zero, atoi_num b1]
    rfl
  · have ra := b6 fun h => h.elim kA k8
    subst ra
    rw [hw0, if_neg kA, join_one, hB]
    rfl
theorem parseE_event (hg : ∀ s, planT (gp s).1 ≠ [] → (∀ x ∈ (gp s).1, x.nd.route.length = 8) ∧ (pk (gp s).1).1 = s) (hv : ∀ x y : Int, (-524288 ≤ x ∧ x < 524288) → (-524288 ≤ y ∧ y < 524288) → gv (Tx.textL x y) = (x, y)) {v : Ev} (h : eventT gp v ≠ []) : parseE gp pk gv (eventT gp v) = (v, 0) := by
  unfold parseE
  rw [readE_event hg hv h, if_pos ⟨h, rfl⟩]
end
end Li

/-! What is known of a program stays within bounds. -/
namespace Vm
set_option linter.unusedSimpArgs false
set_option linter.unusedVariables false
open Ga
def Inv (s : Cst) : Prop := (∀ k, s.depth.getD k (-1) = -1 ∨ (0 ≤ s.depth.getD k (-1) ∧ s.depth.getD k (-1) ≤ 8)) ∧ ∀ k, 0 ≤ s.emits.getD k 0 ∧ s.emits.getD k 0 ≤ 4
theorem getD_set {α : Type} (l : List α) (k j : Nat) (d z : α) : (l.set k d).getD j z = if j = k ∧ k < l.length then d else l.getD j z := by
  rw [List.getD_eq_getElem?_getD, List.getD_eq_getElem?_getD, List.getElem?_set]
  by_cases h : k = j
  · subst h
    by_cases h2 : k < l.length
    · simp [h2]
    · simp [h2]
  · have h' : ¬ j = k := fun e => h e.symm
    rw [if_neg h, if_neg (fun x => h' x.1)]
theorem Inv.come {s : Cst} (h : Inv s) {n k : Nat} {d e : Int} (hd : 0 ≤ d) (he : 0 ≤ e) : Inv (Vm.come n s k d e).1 := by
  unfold Vm.come
  split
  · exact h
  split
  · exact h
  split
  · exact h
  · refine ⟨fun j => ?_, fun j => ?_⟩
    · show (s.depth.set k d).getD j (-1) = -1 ∨ _
      simp only [getD_set]
      split
      · right; omega
      · exact h.1 j
    · show 0 ≤ (s.emits.set k _).getD j 0 ∧ (s.emits.set k _).getD j 0 ≤ 4
      simp only [getD_set]
      split
      · have := h.2 k; omega
      · exact h.2 j
theorem Inv.comes {n : Nat} {d e : Int} (hd : 0 ≤ d) (he : 0 ≤ e) : ∀ (l : List Nat) {s : Cst}, Inv s → Inv (Vm.comes n d e l s).1
  | [], s, h => h
  | k :: l, s, h => by
    rw [Vm.comes]
    split
    · exact Inv.comes hd he l (h.come hd he)
    · exact h.come hd he
theorem Inv.uses {s : Cst} (h : Inv s) (i : Ins) : Inv (Vm.uses s i) := by
  unfold Vm.uses
  split
  · split <;> exact h
  · exact h
theorem Inv.step {p : List Ins} {s : Cst} (h : Inv s) {k : Nat} {i : Ins} (hk : s.depth.getD k (-1) ≠ -1) : Inv (Vm.stepC p s k i).1 := by
  unfold Vm.stepC
  split
  · exact h
  · rename_i ht
    have h1 := (h.1 k).resolve_left hk
    have h2 := h.2 k
    have : (0 : Int) ≤ if i.1 = 14 then 1 else 0 := by split <;> omega
    exact Inv.comes (by omega) (by omega) _ (h.uses i)
theorem Inv.zero (n : Nat) : Inv ⟨List.replicate n (-1), List.replicate n 0, 0, 0, false, false⟩ := by
  refine ⟨fun k => .inl ?_, fun k => ?_⟩
  · show (List.replicate n (-1 : Int)).getD k (-1) = -1
    rw [List.getD_eq_getElem?_getD, List.getElem?_replicate]
    split <;> rfl
  · show 0 ≤ (List.replicate n (0 : Int)).getD k 0 ∧ (List.replicate n (0 : Int)).getD k 0 ≤ 4
    rw [List.getD_eq_getElem?_getD, List.getElem?_replicate]
    split <;> decide
theorem Inv.start (n : Nat) : Inv (Vm.start n) := (Inv.zero n).come (Int.le_refl _) (Int.le_refl _)
end Vm

/-! Insertion sort, as the library does it: plain laws. -/
namespace Gr
set_option linter.unusedSimpArgs false
set_option linter.unusedVariables false
section
variable {α : Type} (key : α → Int)
/-- two that stand side by side change places -/
def swapAt (l : List α) (j : Nat) : List α := match l[j]?, l[j + 1]? with
  | some x, some y => (l.set j y).set (j + 1) x
  | _, _ => l
theorem swapAt_eq {l : List α} {j : Nat} (h : j + 1 < l.length) : swapAt l j = (l.set j (l[j + 1]'h)).set (j + 1) (l[j]'(by omega)) := by
  unfold swapAt
  rw [List.getElem?_eq_getElem (show j < l.length by omega), List.getElem?_eq_getElem h]
theorem swapAt_len (l : List α) (j : Nat) : (swapAt l j).length = l.length := by
  unfold swapAt
  split
  · rw [List.length_set, List.length_set]
  · rfl
theorem swapAt_get {l : List α} {j : Nat} (h : j + 1 < l.length) (a : Nat) (ha : a < l.length) : (swapAt l j)[a]'(by rw [swapAt_len]; exact ha) = if a = j then l[j + 1]'h else if a = j + 1 then l[j]'(by omega) else l[a] := by
  have e := swapAt_eq h
  have e2 : (swapAt l j)[a]? = some (if a = j then l[j + 1]'h else if a = j + 1 then l[j]'(by omega) else l[a]) := by
    rw [e, List.getElem?_set, List.length_set, List.getElem?_set]
    by_cases h1 : a = j + 1
    · subst h1
      rw [if_pos rfl, if_pos h, if_neg (by omega), if_pos rfl]
    · rw [if_neg (fun q => h1 q.symm)]
      by_cases h2 : a = j
      · subst h2
        rw [if_pos rfl, if_pos (by omega), if_pos rfl]
      · rw [if_neg (fun q => h2 q.symm), if_neg h2, if_neg h1, List.getElem?_eq_getElem ha]
  rw [List.getElem?_eq_getElem (by rw [swapAt_len]; exact ha)] at e2
  exact Option.some.inj e2
/-- the first n stand by their keys -/
def Upto (l : List α) (n : Nat) : Prop := ∀ (a b : Nat) (ha : a < l.length) (hb : b < l.length), a < b → b < n → key l[a] ≤ key l[b]
/-- while the one at j is let down: all up to i but it stand by their keys; it is less than those above -/
structure Down (l : List α) (i j : Nat) : Prop where
  ji : j ≤ i
  il : i < l.length
  so : ∀ (a b : Nat) (ha : a < l.length) (hb : b < l.length), a < b → b ≤ i → a ≠ j → b ≠ j → key l[a] ≤ key l[b]
  lt : ∀ (b : Nat) (hj : j < l.length) (hb : b < l.length), j < b → b ≤ i → key l[j] < key l[b]
variable {key}
theorem Down.start {l : List α} {i : Nat} (h : Upto key l i) (hi : i < l.length) : Down key l i i :=
  ⟨Nat.le_refl _, hi, fun a b ha hb hab hbi _ hbj => h a b ha hb hab (by omega), fun b _ hb h1 h2 => by omega⟩
theorem Down.step {l : List α} {i j : Nat} (h : Down key l i (j + 1)) (h1 : j < l.length) (h2 : j + 1 < l.length) (hlt : key l[j + 1] < key l[j]) : Down key (swapAt l j) i j := by
  have hji := h.ji
  refine ⟨by omega, by rw [swapAt_len]; exact h.il, fun a b ha hb hab hbi haj hbj => ?_, fun b hj hb hab hbi => ?_⟩
  · rw [swapAt_len] at ha hb
    rw [swapAt_get h2 a ha, swapAt_get h2 b hb, if_neg haj, if_neg hbj]
    by_cases e1 : a = j + 1
    · rw [if_pos e1, if_neg (by omega)]
      exact h.so j b h1 hb (by omega) hbi (by omega) (by omega)
    · rw [if_neg e1]
      by_cases e2 : b = j + 1
      · rw [if_pos e2]
        exact h.so a j ha h1 (by omega) (by omega) e1 (by omega)
      · rw [if_neg e2]
        exact h.so a b ha hb hab hbi e1 e2
  · rw [swapAt_len] at hj hb
    rw [swapAt_get h2 j hj, swapAt_get h2 b hb, if_pos rfl, if_neg (by omega)]
    by_cases e2 : b = j + 1
    · rw [if_pos e2]
      exact hlt
    · rw [if_neg e2]
      exact h.lt b h2 hb (by omega) hbi
end
theorem Upto.sorted {l : List Nd} (h : Upto (·.id) l l.length) : l.Pairwise fun a b => a.id ≤ b.id :=
  List.pairwise_iff_getElem.2 fun i j hi hj hij => h i j hi hj hij hj
end Gr

/-! Right values stay right while a program runs. -/
namespace Vm
set_option linter.unusedSimpArgs false
set_option linter.unusedVariables false
open Ga

theorem right_of {x y : Int} (hx : -524288 ≤ x ∧ x < 524288) (hy : -524288 ≤ y ∧ y < 524288) : rightV (x, y) = true := by
  unfold rightV; simp only [into_id hx, into_id hy, decide_true, Bool.and_self]
theorem right_into (x y : Int) : rightV (into x, into y) = true := right_of (into_range x) (into_range y)
theorem right_two (op : Int) (x y : Val) : rightV (two op x y) = true := by
  unfold two addV subV mulV
  (repeat' split) <;> first | exact right_into _ _ | exact right_of (by decide) (by decide)
def AllRight (s : St) : Prop := rightV s.c0 = true ∧ rightV s.c1 = true ∧ ∀ v ∈ s.stack, rightV v = true
theorem AllRight.push {s : St} (h : AllRight s) {v : Val} (hv : rightV v = true) : AllRight (push1 s v) := by
  refine ⟨h.1, h.2.1, fun u hu => ?_⟩
  rcases List.mem_append.1 hu with e | e
  · exact h.2.2 u e
  · rw [List.mem_singleton] at e; rw [e]; exact hv
theorem AllRight.pop {s : St} (h : AllRight s) : AllRight (pop1 s) :=
  ⟨h.1, h.2.1, fun u hu => h.2.2 u (List.dropLast_subset _ hu)⟩
theorem AllRight.top {s : St} (h : AllRight s) : rightV (top1 s) = true := by
  unfold top1
  rw [List.getLastD_eq_getLast?]
  cases e : s.stack.getLast? with
  | none => exact right_of (by decide) (by decide)
  | some v => exact h.2.2 v (List.mem_of_getLast? e)
theorem AllRight.cell {s : St} (h : AllRight s) (a : Int) : rightV (cellAt s a) = true := by
  unfold cellAt; split
  · exact h.1
  · exact h.2.1
theorem AllRight.setCell {s : St} (h : AllRight s) (a : Int) {v : Val} (hv : rightV v = true) : AllRight (setCellAt s a v) := by
  unfold setCellAt; split
  · exact ⟨hv, h.2.1, h.2.2⟩
  · exact ⟨h.1, hv, h.2.2⟩
theorem AllRight.jump {s : St} (h : AllRight s) (k : Int) : AllRight (jump1 s k) := h
theorem AllRight.emit {s : St} (h : AllRight s) (v : Val) : AllRight (emit1 s v) := h
theorem AllRight.fetch {s : St} (h : AllRight s) : AllRight (fetch s) := h
theorem ite_all {α : Type} {P : α → Prop} {c : Prop} [Decidable c] {a b : α} (ha : P a) (hb : P b) : P (if c then a else b) := by
  by_cases h : c
  · rw [if_pos h]; exact ha
  · rw [if_neg h]; exact hb
theorem AllRight.effect {s : St} (h : AllRight s) {inp : Val} (hin : rightV inp = true) {i : Ins} (hi : -524288 ≤ i.2 ∧ i.2 < 524288) : AllRight (effect inp i s) := by
  unfold Vm.effect
  refine ite_all (P := AllRight) (h.push (right_of hi (by decide))) ?_
  refine ite_all (P := AllRight) (h.push (right_of (by decide) hi)) ?_
  refine ite_all (P := AllRight) (h.push hin) ?_
  refine ite_all (P := AllRight) (h.push (h.cell _)) ?_
  refine ite_all (P := AllRight) (h.pop.setCell _ h.top) ?_
  refine ite_all (P := AllRight) (ite_all (P := AllRight) (h.pop.jump _) h.pop) ?_
  refine ite_all (P := AllRight) (h.jump _) ?_
  refine ite_all (P := AllRight) (h.pop.pop.push (right_two _ _ _)) ?_
  refine ite_all (P := AllRight) (h.pop.push (right_into _ _)) ?_
  refine ite_all (P := AllRight) (h.pop.push (right_into _ _)) ?_
  refine ite_all (P := AllRight) ((h.pop.push h.top).push h.top) ?_
  refine ite_all (P := AllRight) ((h.pop.pop.push h.top).push h.pop.top) ?_
  exact ite_all (P := AllRight) (h.pop.emit _) h.pop
theorem AllRight.exec {p : List Ins} {inp : Val} (hin : rightV inp = true) (hp : ∀ i ∈ p, -524288 ≤ i.2 ∧ i.2 < 524288) : ∀ (f : Nat) (s : St), AllRight s → AllRight (Vm.exec p inp f s)
  | 0, s, h => h
  | f + 1, s, h => by
    rw [Vm.exec]
    cases e : p[s.pc]? with
    | none => exact h
    | some i =>
      simp only
      split
      · exact h.fetch
      · exact AllRight.exec hin hp f _ (h.fetch.effect hin (hp i (List.mem_of_getElem? e)))
/-! ### each step leads on, so that as many rounds as the program is long are enough -/
theorem effect_gt {p : List Ins} {s : St} {o a : Int} (ho : 1 ≤ o ∧ o ≤ 17) (inp : Val) : s.pc < (effect inp (o, a) (fetch s)).pc := by
  rw [effect_pc ho, fetch_pc]
  repeat' split
  all_goals omega
theorem exec_enough {p : List Ins} (hp : ∀ i ∈ p, 0 ≤ i.1 ∧ i.1 ≤ 17) {inp : Val} : ∀ (f : Nat) (s : St), p.length - s.pc < f → exec p inp (f + 1) s = exec p inp f s
  | 0, s, h => absurd h (Nat.not_lt_zero _)
  | f + 1, s, h => by
    rw [exec, exec]
    cases e : p[s.pc]? with
    | none => rfl
    | some i =>
      obtain ⟨o, a⟩ := i
      simp only
      split
      · rfl
      · rename_i h0
        have hm := hp _ (List.mem_of_getElem? e)
        simp only at hm
        have hlt : s.pc < p.length := (List.getElem?_eq_some_iff.1 e).1
        have hg := effect_gt (p := p) (s := s) (o := o) (a := a) (by omega) inp
        exact exec_enough hp f _ (by omega)
theorem fits_op {p : List Ins} (h : Co.fitsI p = true) : ∀ i ∈ p, 0 ≤ i.1 ∧ i.1 ≤ 17 := by
  intro i hi
  unfold Co.fitsI at h
  rw [Bool.and_eq_true] at h
  have h2 := List.all_eq_true.1 h.2 i hi
  unfold Co.rightI at h2
  simp only [Bool.and_eq_true, decide_eq_true_eq] at h2
  omega
/-- where it ends -/
def done (p : List Ins) (inp : Val) (s : St) : St := exec p inp (p.length + 1) s
theorem done_step {p : List Ins} (hp : ∀ i ∈ p, 0 ≤ i.1 ∧ i.1 ≤ 17) {inp : Val} {s : St} {i : Ins} (h : p[s.pc]? = some i) (h0 : i.1 ≠ 0) : done p inp s = done p inp (effect inp i (fetch s)) := by
  obtain ⟨o, a⟩ := i
  have hm := hp _ (List.mem_of_getElem? h)
  simp only at hm h0
  have hlt : s.pc < p.length := (List.getElem?_eq_some_iff.1 h).1
  have hg := effect_gt (p := p) (s := s) (o := o) (a := a) (by omega) inp
  have e1 : done p inp s = exec p inp p.length (effect inp (o, a) (fetch s)) := by
    unfold done; rw [exec, h]; exact if_neg h0
  rw [e1]
  exact (exec_enough hp _ _ (by omega)).symm

/-! ### one input after the other -/
structure Res where
  out : List Val
  c0 : Val
  c1 : Val
  steps : Int
def stOf (r : Res) : St := ⟨r.out, r.c0, r.c1, r.steps, 0, []⟩
def resOf (s : St) : Res := ⟨s.out, s.c0, s.c1, s.steps⟩
def go (p : List Ins) (r : Res) (inp : Val) : Res := resOf (exec p inp (p.length + 1) (stOf r))
def each (p : List Ins) (r : Res) (l : List Val) : Res := l.foldl (go p) r
/-! ### bounds -/
theorem setCellAt_steps (s a v) : (setCellAt s a v).steps = s.steps ∧ (setCellAt s a v).out = s.out := by unfold setCellAt; split <;> exact ⟨rfl, rfl⟩
theorem emit1_out (s v) : (emit1 s v).out.length = s.out.length + 1 := by unfold emit1; simp
theorem effect_bounds (inp : Val) (i : Ins) (s : St) : (effect inp i s).steps = s.steps ∧ (effect inp i s).out.length ≤ s.out.length + 1 := by
  unfold Vm.effect
  have P0 : ∀ t : St, t.steps = s.steps → t.out = s.out → t.steps = s.steps ∧ t.out.length ≤ s.out.length + 1 := fun t h1 h2 => ⟨h1, by rw [h2]; omega⟩
  refine ite_all (P := fun t : St => t.steps = s.steps ∧ t.out.length ≤ s.out.length + 1) (P0 _ rfl rfl) ?_
  refine ite_all (P := fun t : St => t.steps = s.steps ∧ t.out.length ≤ s.out.length + 1) (P0 _ rfl rfl) ?_
  refine ite_all (P := fun t : St => t.steps = s.steps ∧ t.out.length ≤ s.out.length + 1) (P0 _ rfl rfl) ?_
  refine ite_all (P := fun t : St => t.steps = s.steps ∧ t.out.length ≤ s.out.length + 1) (P0 _ rfl rfl) ?_
  refine ite_all (P := fun t : St => t.steps = s.steps ∧ t.out.length ≤ s.out.length + 1) (P0 _ (setCellAt_steps ..).1 (setCellAt_steps ..).2) ?_
  refine ite_all (P := fun t : St => t.steps = s.steps ∧ t.out.length ≤ s.out.length + 1) (ite_all (P := fun t : St => t.steps = s.steps ∧ t.out.length ≤ s.out.length + 1) (P0 _ rfl rfl) (P0 _ rfl rfl)) ?_
  refine ite_all (P := fun t : St => t.steps = s.steps ∧ t.out.length ≤ s.out.length + 1) (P0 _ rfl rfl) ?_
  refine ite_all (P := fun t : St => t.steps = s.steps ∧ t.out.length ≤ s.out.length + 1) (P0 _ rfl rfl) ?_
  refine ite_all (P := fun t : St => t.steps = s.steps ∧ t.out.length ≤ s.out.length + 1) (P0 _ rfl rfl) ?_
  refine ite_all (P := fun t : St => t.steps = s.steps ∧ t.out.length ≤ s.out.length + 1) (P0 _ rfl rfl) ?_
  refine ite_all (P := fun t : St => t.steps = s.steps ∧ t.out.length ≤ s.out.length + 1) (P0 _ rfl rfl) ?_
  refine ite_all (P := fun t : St => t.steps = s.steps ∧ t.out.length ≤ s.out.length + 1) (P0 _ rfl rfl) ?_
  refine ite_all (P := fun t : St => t.steps = s.steps ∧ t.out.length ≤ s.out.length + 1) ⟨rfl, by rw [emit1_out]; exact Nat.le_refl _⟩ (P0 _ rfl rfl)
end Vm

/-! What holds at each round of a run. -/
namespace Vm
set_option linter.unusedSimpArgs false
set_option linter.unusedVariables false
open Ga

theorem goC_inv {p : List Ins} {c : Cst} : ∀ (l : List Ins) (k : Nat) (s : Cst), goC p l k s = some c → Inv s → Inv c
  | [], _, s, h, hi => by cases h; exact hi
  | i :: l, k, s, h, hi => by
    rw [goC] at h
    split at h
    · rename_i hk
      split at h
      · exact goC_inv l _ _ h (hi.step hk)
      · cases h
    · exact goC_inv l _ _ h hi
theorem checkC_inv {p : List Ins} {c : Cst} (h : checkC p = some c) : Inv c := by
  unfold checkC at h
  split at h
  · exact goC_inv p 0 _ h (Inv.start _)
  · cases h
theorem checkC_fits {p : List Ins} {c : Cst} (h : checkC p = some c) : Co.fitsI p = true := by
  unfold checkC at h
  split at h
  · assumption
  · cases h

/-- At each fetch. -/
structure At (l : List Ins) (c : Cst) (inp : Val) (s0 : St) (st : St) : Prop where
  dn : done l inp st = done l inp s0
  gd : Good l c st
  ot : st.out.length ≤ s0.out.length + st.pc
  s1 : s0.steps ≤ st.steps
  s2 : st.steps ≤ s0.steps + st.pc
  pc : st.pc ≤ 48
theorem At.len {l : List Ins} {c : Cst} (hc : checkC l = some c) {inp : Val} {s0 st : St} (h : At l c inp s0 st) (hp : st.pc < l.length) : st.stack.length ≤ 8 := by
  have h1 := h.gd hp
  have h2 := (checkC_inv hc).1 st.pc
  omega
theorem right_parts' {l : List Ins} {c : Cst} (hc : checkC l = some c) {k : Nat} {x a : Int} (hi : l[k]? = some (x, a)) : 0 ≤ x ∧ x ≤ 17 ∧ -524288 ≤ a ∧ a ≤ 524287 ∧ (x = 15 ∨ x = 16 → 1 ≤ a ∧ a ≤ 24) ∧ (x = 4 ∨ x = 5 → a = 0 ∨ a = 1) := by
  have hf := checkC_fits hc
  have h := (Co.fits_parts hf).2 _ (List.mem_of_getElem? hi)
  unfold Co.rightI Co.lo Co.hi at h
  simp only [Bool.and_eq_true, decide_eq_true_eq] at h
  grind
theorem At.next {l : List Ins} {c : Cst} (hc : checkC l = some c) {inp : Val} {s0 st : St} (h : At l c inp s0 st) {x a : Int} (hi : l[st.pc]? = some (x, a)) (hx : x ≠ 0) :
    takes x ≤ st.stack.length ∧ At l c inp s0 (effect inp (x, a) (fetch st)) ∧ st.pc < (effect inp (x, a) (fetch st)).pc := by
  have hf := checkC_fits hc
  obtain ⟨r0, r1, r2, r3, r4, r5⟩ := right_parts' hc hi
  have hlt : st.pc < l.length := (List.getElem?_eq_some_iff.1 hi).1
  have h24 := (Co.fits_parts hf).1
  obtain ⟨g1, g2⟩ := good_effect hc h.gd hi ⟨by omega, r1⟩ inp
  have hpc := effect_pc (s := fetch st) (a := a) ⟨show 1 ≤ x by omega, r1⟩ inp
  have hgt := effect_gt (p := l) (s := st) (a := a) ⟨show 1 ≤ x by omega, r1⟩ inp
  have hb := effect_bounds inp (x, a) (fetch st)
  have e1 : (fetch st).steps = st.steps + 1 := rfl
  have e2 : (fetch st).out = st.out := rfl
  have e3 : (fetch st).pc = st.pc + 1 := rfl
  rw [e1, e2] at hb
  rw [e3] at hpc
  have hle : (effect inp (x, a) (fetch st)).pc ≤ st.pc + 25 := by
    rw [hpc]
    by_cases h16 : x = 16
    · have := r4 (.inr h16); rw [if_pos h16]; omega
    · by_cases h15 : x = 15
      · have := r4 (.inl h15); rw [if_neg h16, if_pos h15]; split <;> omega
      · rw [if_neg h16, if_neg h15]; omega
  have := h.ot
  have := h.s1
  have := h.s2
  exact ⟨g1, ⟨(done_step (fits_op hf) hi hx).symm.trans h.dn, g2, by omega, by omega, by omega, by omega⟩, hgt⟩
end Vm

/-! One input after the other: what the law says. -/
namespace Vm
set_option linter.unusedSimpArgs false
set_option linter.unusedVariables false
open Ga
/-- what holds before input k -/
def Upto (l : List Ins) (c0 c1 : Val) (ins : List Val) (k : Nat) : Prop := 0 < k → safe l = true ∧ ([c0, c1].all rightV) = true ∧ (ins.take k).all rightV = true
/-! the document's example -/
end Vm

/-! What no run exceeds: plain laws. -/
namespace Vm
set_option linter.unusedSimpArgs false
set_option linter.unusedVariables false
open Ga

/-! ### the steps -/
/-! ### what is put out is right -/
/-! ### the cells of a program that stores nothing -/
/-! ### no more than four are put out -/
theorem come_emits_other {n : Nat} {s : Cst} {k : Nat} {d e : Int} {j : Nat} (h : j ≠ k) : (come n s k d e).1.emits.getD j 0 = s.emits.getD j 0 := by
  unfold come
  split
  · rfl
  split
  · rfl
  split
  · rfl
  · show (s.emits.set k _).getD j 0 = _
    rw [getD_set, if_neg fun x => h x.1]
theorem come_emits_le {n : Nat} {s : Cst} {k : Nat} {d e : Int} {j : Nat} : s.emits.getD j 0 ≤ (come n s k d e).1.emits.getD j 0 := by
  unfold come
  split
  · exact Int.le_refl _
  split
  · exact Int.le_refl _
  split
  · exact Int.le_refl _
  · show _ ≤ (s.emits.set k _).getD j 0
    rw [getD_set]
    split
    · rename_i h; rw [h.1]; omega
    · exact Int.le_refl _
theorem come_emits_set {n : Nat} {s : Cst} {k : Nat} {d e : Int} (hb : (come n s k d e).2 = true) (hk : k < n) (hl : s.emits.length = n) : e ≤ (come n s k d e).1.emits.getD k 0 := by
  unfold come at hb ⊢
  split at hb
  · cases hb
  split at hb
  · omega
  split at hb
  · cases hb
  · rename_i h1 h2 h3
    rw [if_neg h1, if_neg h2, if_neg h3]
    show e ≤ (s.emits.set k _).getD k 0
    rw [getD_set, if_pos ⟨rfl, by omega⟩]
    omega
theorem come_ok {n : Nat} {s : Cst} {k : Nat} {d e : Int} (hb : (come n s k d e).2 = true) : e ≤ 4 := by
  unfold come at hb
  split at hb
  · cases hb
  · omega
theorem come_elen (n : Nat) (s : Cst) (k : Nat) (d e : Int) : (come n s k d e).1.emits.length = s.emits.length := by
  unfold come
  split
  · rfl
  split
  · rfl
  split
  · rfl
  · exact List.length_set ..
theorem comes_elen (n : Nat) (d e : Int) : ∀ (l : List Nat) (s : Cst), (comes n d e l s).1.emits.length = s.emits.length
  | [], s => rfl
  | k :: l, s => by
    rw [comes]; split
    · exact (comes_elen n d e l _).trans (come_elen ..)
    · exact come_elen ..
theorem comes_emits_le {n : Nat} {d e : Int} {j : Nat} : ∀ (l : List Nat) (s : Cst), s.emits.getD j 0 ≤ (comes n d e l s).1.emits.getD j 0
  | [], s => Int.le_refl _
  | k :: l, s => by
    rw [comes]; split
    · exact Int.le_trans come_emits_le (comes_emits_le l _)
    · exact come_emits_le
theorem comes_emits_low {n : Nat} {d e : Int} {j : Nat} : ∀ (l : List Nat) (s : Cst), (∀ k ∈ l, j < k) → (comes n d e l s).1.emits.getD j 0 = s.emits.getD j 0
  | [], s, _ => rfl
  | k :: l, s, h => by
    have hk := h k (List.mem_cons_self ..)
    rw [comes]; split
    · exact (comes_emits_low l _ fun a ha => h a (List.mem_cons_of_mem _ ha)).trans (come_emits_other (by omega))
    · exact come_emits_other (by omega)
theorem comes_emits_set {n : Nat} {d e : Int} : ∀ (l : List Nat) (s : Cst), s.emits.length = n → (comes n d e l s).2 = true → ∀ k ∈ l, e ≤ 4 ∧ (k < n → e ≤ (comes n d e l s).1.emits.getD k 0)
  | [], s, _, _, k, hk => by cases hk
  | a :: l, s, hl, hb, k, hk => by
    rw [comes] at hb ⊢
    split at hb
    · rename_i ha
      rw [if_pos ha]
      rcases List.mem_cons.1 hk with e1 | e1
      · subst e1
        exact ⟨come_ok ha, fun hn => Int.le_trans (come_emits_set ha hn hl) (comes_emits_le l _)⟩
      · exact comes_emits_set l _ ((come_elen ..).trans hl) hb k e1
    · cases hb
theorem uses_emits (s : Cst) (i : Ins) : (uses s i).emits = s.emits := by
  unfold uses; split
  · split <;> rfl
  · rfl
theorem stepC_elen (p : List Ins) (s : Cst) (k : Nat) (i : Ins) : (stepC p s k i).1.emits.length = s.emits.length := by
  unfold stepC; split
  · rfl
  · rw [comes_elen, uses_emits]
theorem stepC_emits_le {p : List Ins} {s : Cst} {k : Nat} {i : Ins} {j : Nat} : s.emits.getD j 0 ≤ (stepC p s k i).1.emits.getD j 0 := by
  unfold stepC; split
  · exact Int.le_refl _
  · have := comes_emits_le (n := p.length) (d := s.depth.getD k (-1) - takes i.1 + leaves i.1) (e := s.emits.getD k 0 + if i.1 = 14 then 1 else 0) (j := j) (next p k i) (uses s i)
    rw [uses_emits] at this
    exact this
theorem stepC_emits_low {p : List Ins} {s : Cst} {k : Nat} {i : Ins} {j : Nat} (hk : k < p.length) (hj : j ≤ k) : (stepC p s k i).1.emits.getD j 0 = s.emits.getD j 0 := by
  unfold stepC; split
  · rfl
  · rw [comes_emits_low _ _ (fun a ha => by have := next_gt hk a ha; omega), uses_emits]
theorem goC_emits_le {p : List Ins} {c : Cst} {j : Nat} : ∀ (l : List Ins) (k : Nat) (s : Cst), goC p l k s = some c → s.emits.getD j 0 ≤ c.emits.getD j 0
  | [], _, s, h => by cases h; exact Int.le_refl _
  | i :: l, k, s, h => by
    rw [goC] at h
    split at h
    · split at h
      · exact Int.le_trans stepC_emits_le (goC_emits_le l _ _ h)
      · cases h
    · exact goC_emits_le l _ _ h
theorem goC_emits_low {p : List Ins} {c : Cst} {j : Nat} : ∀ (l : List Ins) (k : Nat) (s : Cst), goC p l k s = some c → k + l.length = p.length → j < k → c.emits.getD j 0 = s.emits.getD j 0
  | [], _, s, h, _, _ => by cases h; rfl
  | i :: l, k, s, h, hl, hj => by
    rw [List.length_cons] at hl
    rw [goC] at h
    split at h
    · split at h
      · exact (goC_emits_low l _ _ h (by omega) (by omega)).trans (stepC_emits_low (by omega) (by omega))
      · cases h
    · exact goC_emits_low l _ _ h (by omega) (by omega)
def ESound (p : List Ins) (c : Cst) (k : Nat) (i : Ins) : Prop :=
  c.depth.getD k (-1) ≠ -1 → ∀ a ∈ next p k i, c.emits.getD k 0 + (if i.1 = 14 then 1 else 0) ≤ 4 ∧ (a < p.length → c.emits.getD k 0 + (if i.1 = 14 then 1 else 0) ≤ c.emits.getD a 0)
theorem goC_esound {p : List Ins} {c : Cst} : ∀ (l : List Ins) (k : Nat) (s : Cst), goC p l k s = some c → k + l.length = p.length → s.emits.length = p.length → ∀ j i, l[j]? = some i → ESound p c (k + j) i
  | [], _, s, _, _, _, j, i, hj => by simp at hj
  | i0 :: l, k, s, h, hl, hd, j, i, hj => by
    rw [List.length_cons] at hl
    rw [goC] at h
    cases j with
    | succ j =>
      rw [List.getElem?_cons_succ] at hj
      have e : k + (j + 1) = k + 1 + j := by omega
      rw [e]
      split at h
      · split at h
        · exact goC_esound l _ _ h (by omega) ((stepC_elen ..).trans hd) j i hj
        · cases h
      · exact goC_esound l _ _ h (by omega) hd j i hj
    | zero =>
      rw [List.getElem?_cons_zero] at hj
      cases hj
      intro hk
      rw [Nat.add_zero] at hk ⊢
      split at h
      · rename_i hs
        split at h
        · rename_i hb
          have e1 : c.emits.getD k 0 = s.emits.getD k 0 := (goC_emits_low l _ _ h (by omega) (by omega)).trans (stepC_emits_low (by omega) (by omega))
          rw [e1]
          intro a ha
          have hb' := hb
          unfold stepC at hb'
          split at hb'
          · cases hb'
          · rename_i ht
            obtain ⟨h1, h2⟩ := comes_emits_set (next p k i0) (uses s i0) (by rw [uses_emits]; exact hd) hb' a ha
            refine ⟨h1, fun hal => Int.le_trans ?_ (goC_emits_le l _ _ h)⟩
            have e2 : (stepC p s k i0).1 = (comes p.length (s.depth.getD k (-1) - takes i0.1 + leaves i0.1) (s.emits.getD k 0 + if i0.1 = 14 then 1 else 0) (next p k i0) (uses s i0)).1 := by
              unfold stepC; rw [if_neg ht]
            rw [e2]
            exact h2 hal
        · cases h
      · rename_i hs
        exact absurd ((goC_low l _ _ h (by omega) (by omega)).trans (Classical.byContradiction fun x => hs x)) hk
theorem checkC_esound {p : List Ins} {c : Cst} (h : checkC p = some c) {k : Nat} {i : Ins} (hi : p[k]? = some i) : ESound p c k i := by
  unfold checkC at h
  split at h
  · have := goC_esound p 0 _ h (by omega) ((come_elen ..).trans List.length_replicate) k i hi
    rwa [Nat.zero_add] at this
  · cases h
end Vm

/-! Programs that may run, by all their ways: plain laws. -/
namespace Vm
set_option linter.unusedSimpArgs false
set_option linter.unusedVariables false
open Ga

/-- A set of places, each with a depth and what was put out, that nothing leads out of. -/
structure Closed (l : List Ins) (M : Nat → Int → Int → Prop) : Prop where
  zero : M 0 0 0
  ok : ∀ k d e, M k d e → d ≤ 8 ∧ 0 ≤ e ∧ e ≤ 4 ∧ k ≤ l.length
  one : ∀ k d e d' e', M k d e → M k d' e' → k < l.length → d = d'
  enough : ∀ k d e i, M k d e → l[k]? = some i → (takes i.1 : Int) ≤ d
  next : ∀ k d e i, M k d e → l[k]? = some i → ∀ a ∈ next l k i, M a (d - takes i.1 + leaves i.1) (e + if i.1 = 14 then 1 else 0)
/-- All that is known is so on some way. -/
structure Real (n : Nat) (M : Nat → Int → Int → Prop) (s : Cst) : Prop where
  dl : s.depth.length = n
  el : s.emits.length = n
  m : ∀ j, s.depth.getD j (-1) ≠ -1 → M j (s.depth.getD j (-1)) (s.emits.getD j 0)
  z : ∀ j, s.depth.getD j (-1) = -1 → s.emits.getD j 0 = 0
theorem Real.come {l : List Ins} {M : Nat → Int → Int → Prop} (h : Closed l M) {s : Cst} (hr : Real l.length M s) {k : Nat} {d e : Int} (hm : M k d e) (hd : 0 ≤ d) : (come l.length s k d e).2 = true ∧ Real l.length M (come l.length s k d e).1 := by
  obtain ⟨h1, h2, h3, h4⟩ := h.ok k d e hm
  unfold Vm.come
  rw [if_neg (by omega)]
  by_cases hk : k = l.length
  · rw [if_pos hk]
    exact ⟨rfl, hr.dl, hr.el, hr.m, hr.z⟩
  rw [if_neg hk]
  have hkl : k < l.length := by omega
  have hone : ¬ (s.depth.getD k (-1) ≠ -1 ∧ s.depth.getD k (-1) ≠ d) := fun hh => hh.2 (h.one k _ _ _ _ (hr.m k hh.1) hm hkl)
  rw [if_neg hone]
  refine ⟨rfl, by simp [hr.dl], by simp [hr.el], fun j hj => ?_, fun j hj => ?_⟩
  · show M j ((s.depth.set k d).getD j (-1)) ((s.emits.set k (max (s.emits.getD k 0) e)).getD j 0)
    have hj' : (s.depth.set k d).getD j (-1) ≠ -1 := hj
    rw [getD_set] at hj' ⊢
    rw [getD_set]
    by_cases hjk : j = k
    · subst hjk
      rw [if_pos ⟨rfl, by rw [hr.dl]; exact hkl⟩, if_pos ⟨rfl, by rw [hr.el]; exact hkl⟩]
      by_cases hu : s.depth.getD j (-1) = -1
      · rw [hr.z j hu, show max 0 e = e by omega]; exact hm
      · have hd2 : s.depth.getD j (-1) = d := Classical.byContradiction fun x => hone ⟨hu, x⟩
        have := hr.m j hu
        rw [hd2] at this
        rcases Int.le_total (s.emits.getD j 0) e with x | x
        · rw [show max (s.emits.getD j 0) e = e by omega]; exact hm
        · rw [show max (s.emits.getD j 0) e = s.emits.getD j 0 by omega]; exact this
    · rw [if_neg (fun x => hjk x.1)] at hj' ⊢
      rw [if_neg (fun x => hjk x.1)]
      exact hr.m j hj'
  · show (s.emits.set k (max (s.emits.getD k 0) e)).getD j 0 = 0
    have hj' : (s.depth.set k d).getD j (-1) = -1 := hj
    rw [getD_set] at hj'
    rw [getD_set]
    by_cases hjk : j = k
    · subst hjk
      rw [if_pos ⟨rfl, by rw [hr.dl]; exact hkl⟩] at hj'
      omega
    · rw [if_neg (fun x => hjk x.1)] at hj' ⊢
      exact hr.z j hj'
theorem Real.comes {l : List Ins} {M : Nat → Int → Int → Prop} (h : Closed l M) {d e : Int} (hd : 0 ≤ d) : ∀ (bs : List Nat) {s : Cst}, Real l.length M s → (∀ a ∈ bs, M a d e) → (comes l.length d e bs s).2 = true ∧ Real l.length M (comes l.length d e bs s).1
  | [], s, hr, _ => ⟨rfl, hr⟩
  | a :: bs, s, hr, ha => by
    obtain ⟨h1, h2⟩ := hr.come h (ha a (List.mem_cons_self ..)) hd
    rw [Vm.comes, if_pos h1]
    exact Real.comes h hd bs h2 fun b hb => ha b (List.mem_cons_of_mem _ hb)
theorem Real.uses {n : Nat} {M : Nat → Int → Int → Prop} {s : Cst} (hr : Real n M s) (i : Ins) : Real n M (uses s i) := by
  have h1 := uses_depth s i
  have h2 := uses_emits s i
  exact ⟨by rw [h1]; exact hr.dl, by rw [h2]; exact hr.el, by rw [h1, h2]; exact hr.m, by rw [h1, h2]; exact hr.z⟩
theorem Real.step {l : List Ins} {M : Nat → Int → Int → Prop} (h : Closed l M) {s : Cst} (hr : Real l.length M s) {k : Nat} {i : Ins} (hi : l[k]? = some i) (hk : s.depth.getD k (-1) ≠ -1) : (stepC l s k i).2 = true ∧ Real l.length M (stepC l s k i).1 := by
  have hm := hr.m k hk
  have he := h.enough k _ _ i hm hi
  unfold stepC
  rw [if_neg (by omega)]
  exact (hr.uses i).comes h (by omega) (Vm.next l k i) fun a ha => h.next k _ _ i hm hi a ha
theorem goC_real {l : List Ins} {M : Nat → Int → Int → Prop} (h : Closed l M) : ∀ (r : List Ins) (k : Nat) (s : Cst), (∀ j i, r[j]? = some i → l[k + j]? = some i) → Real l.length M s → (goC l r k s).isSome = true
  | [], k, s, _, _ => rfl
  | i :: r, k, s, hl, hr => by
    have hi : l[k]? = some i := by have := hl 0 i rfl; rwa [Nat.add_zero] at this
    have hn : ∀ j i', r[j]? = some i' → l[k + 1 + j]? = some i' := fun j i' hj => by
      have := hl (j + 1) i' (by rw [List.getElem?_cons_succ]; exact hj)
      rwa [show k + (j + 1) = k + 1 + j by omega] at this
    rw [goC]
    split
    · rename_i hk
      obtain ⟨h1, h2⟩ := hr.step h hi hk
      rw [if_pos h1]
      exact goC_real h r (k + 1) _ hn h2
    · exact goC_real h r (k + 1) _ hn hr
theorem safe_of_closed {l : List Ins} (hf : Co.fitsI l = true) {M : Nat → Int → Int → Prop} (h : Closed l M) : safe l = true := by
  unfold safe checkC
  rw [if_pos hf]
  refine goC_real h l 0 (start l.length) (fun j i hj => by rwa [Nat.zero_add]) ?_
  have h0 : Real l.length M ⟨List.replicate l.length (-1), List.replicate l.length 0, 0, 0, false, false⟩ := by
    have e1 : ∀ j, (List.replicate l.length (-1 : Int)).getD j (-1) = -1 := fun j => by
      rw [List.getD_eq_getElem?_getD, List.getElem?_replicate]; split <;> rfl
    have e2 : ∀ j, (List.replicate l.length (0 : Int)).getD j 0 = 0 := fun j => by
      rw [List.getD_eq_getElem?_getD, List.getElem?_replicate]; split <;> rfl
    exact ⟨List.length_replicate, List.length_replicate, fun j hj => absurd (e1 j) hj, fun j _ => e2 j⟩
  exact (h0.come h h.zero (Int.le_refl _)).2

/-! ### and where it is safe, each way stays within what is known -/
def Snd (l : List Ins) (c : Cst) (k : Nat) (d e : Int) : Prop := 0 ≤ e ∧ d ≤ 8 ∧ e ≤ 4 ∧ k ≤ l.length ∧ (k < l.length → c.depth.getD k (-1) = d ∧ 0 ≤ d ∧ e ≤ c.emits.getD k 0)
theorem come_deep {n : Nat} {s : Cst} {k : Nat} {d e : Int} (hb : (come n s k d e).2 = true) : d ≤ 8 := by
  unfold come at hb
  split at hb
  · cases hb
  · omega
theorem comes_deep {n : Nat} {d e : Int} : ∀ (l : List Nat) (s : Cst), (comes n d e l s).2 = true → ∀ k ∈ l, d ≤ 8
  | [], s, _, k, hk => by cases hk
  | a :: l, s, hb, k, hk => by
    rw [comes] at hb
    split at hb
    · rename_i ha
      exact come_deep ha
    · cases hb
def DSound (p : List Ins) (c : Cst) (k : Nat) (i : Ins) : Prop := c.depth.getD k (-1) ≠ -1 → ∀ a ∈ next p k i, c.depth.getD k (-1) - takes i.1 + leaves i.1 ≤ 8
theorem goC_dsound {p : List Ins} {c : Cst} : ∀ (l : List Ins) (k : Nat) (s : Cst), goC p l k s = some c → k + l.length = p.length → ∀ j i, l[j]? = some i → DSound p c (k + j) i
  | [], _, s, _, _, j, i, hj => by simp at hj
  | i0 :: l, k, s, h, hl, j, i, hj => by
    rw [List.length_cons] at hl
    rw [goC] at h
    cases j with
    | succ j =>
      rw [List.getElem?_cons_succ] at hj
      have e : k + (j + 1) = k + 1 + j := by omega
      rw [e]
      split at h
      · split at h
        · exact goC_dsound l _ _ h (by omega) j i hj
        · cases h
      · exact goC_dsound l _ _ h (by omega) j i hj
    | zero =>
      rw [List.getElem?_cons_zero] at hj
      cases hj
      intro hk
      rw [Nat.add_zero] at hk ⊢
      split at h
      · rename_i hs
        split at h
        · rename_i hb
          have e1 : c.depth.getD k (-1) = s.depth.getD k (-1) := (goC_low l _ _ h (by omega) (by omega)).trans (stepC_low (by omega) (by omega))
          rw [e1]
          intro a ha
          unfold stepC at hb
          split at hb
          · cases hb
          · exact comes_deep (next p k i0) (uses s i0) hb a ha
        · cases h
      · rename_i hs
        exact absurd ((goC_low l _ _ h (by omega) (by omega)).trans (Classical.byContradiction fun x => hs x)) hk
theorem checkC_dsound {p : List Ins} {c : Cst} (h : checkC p = some c) {k : Nat} {i : Ins} (hi : p[k]? = some i) : DSound p c k i := by
  unfold checkC at h
  split at h
  · have := goC_dsound p 0 _ h (by omega) k i hi
    rwa [Nat.zero_add] at this
  · cases h
theorem snd_zero {l : List Ins} {c : Cst} (h : checkC l = some c) : Snd l c 0 0 0 :=
  ⟨Int.le_refl _, by decide, by decide, Nat.zero_le _, fun hl => ⟨checkC_zero h hl, Int.le_refl _, ((checkC_inv h).2 0).1⟩⟩
theorem next_le' {p : List Ins} {k : Nat} {i : Ins} (hk : k < p.length) : ∀ a ∈ next p k i, a ≤ p.length := by
  intro a ha
  unfold next at ha
  split at ha
  · cases ha
  split at ha
  · rw [List.mem_singleton] at ha; omega
  split at ha
  · rcases List.mem_cons.1 ha with e | e
    · omega
    · rw [List.mem_singleton] at e; omega
  · rw [List.mem_singleton] at ha; omega
theorem snd_next {l : List Ins} {c : Cst} (h : checkC l = some c) {k : Nat} {d e : Int} (hs : Snd l c k d e) {i : Ins} (hi : l[k]? = some i) : ∀ a ∈ next l k i, Snd l c a (d - takes i.1 + leaves i.1) (e + if i.1 = 14 then 1 else 0) := by
  intro a ha
  have hlt : k < l.length := (List.getElem?_eq_some_iff.1 hi).1
  obtain ⟨h1, h2, h3⟩ := hs.2.2.2.2 hlt
  have hk : c.depth.getD k (-1) ≠ -1 := by rw [h1]; omega
  obtain ⟨s1, s2⟩ := checkC_sound h hi hk
  obtain ⟨e1, e2⟩ := checkC_esound h hi hk a ha
  have d1 := checkC_dsound h hi hk a ha
  rw [h1] at s1 s2 d1
  have hp : (0 : Int) ≤ if i.1 = 14 then 1 else 0 := by split <;> decide
  have h0 := hs.1
  refine ⟨by omega, d1, by omega, next_le' hlt a ha, fun hal => ⟨s2 a ha hal, by omega, Int.le_trans (by omega) (e2 hal)⟩⟩
end Vm

/-! The document's machine: on right values it reckons as the program does. -/
namespace Vm
set_option linter.unusedSimpArgs false
set_option linter.unusedVariables false
open Ga

theorem right_parts {v : Val} (h : rightV v = true) : into v.1 = v.1 ∧ into v.2 = v.2 := by
  unfold rightV at h
  simp only [Bool.and_eq_true, decide_eq_true_eq] at h
  exact ⟨h.1.symm, h.2.symm⟩
end Vm

/-! All ways gone, one after the other: plain laws. -/
namespace Vm
set_option linter.unusedSimpArgs false
set_option linter.unusedVariables false
open Ga

abbrev Plc := Int × Int × Int
def okP (n : Nat) (x : Plc) : Prop := 0 ≤ x.1 ∧ x.1 ≤ n ∧ 0 ≤ x.2.1 ∧ x.2.1 ≤ 8 ∧ 0 ≤ x.2.2 ∧ x.2.2 ≤ 4
def numP (x : Plc) : Nat := (x.1 * 45 + x.2.1 * 5 + x.2.2).toNat
theorem numP_inj {n : Nat} {x y : Plc} (hx : okP n x) (hy : okP n y) (h : numP x = numP y) : x = y := by
  obtain ⟨a, b, c⟩ := x
  obtain ⟨d, e, f⟩ := y
  unfold okP at hx hy
  unfold numP at h
  simp only at hx hy h
  have h1 : a * 45 + b * 5 + c = d * 45 + e * 5 + f := by omega
  have e1 : a = d := by omega
  subst e1
  have e2 : b = e := by omega
  subst e2
  have e3 : c = f := by omega
  rw [e3]
def free (M : List Plc) : Nat := (List.range 1125).countP fun k => !(M.map numP).contains k
theorem countP_lt {p q : Nat → Bool} : ∀ (L : List Nat), (∀ k, q k = true → p k = true) → ∀ a ∈ L, p a = true → q a = false → L.countP q < L.countP p
  | [], _, a, ha, _, _ => by cases ha
  | b :: L, h, a, ha, hp, hq => by
    have hm := List.countP_mono_left (l := L) (p := q) (q := p) fun x _ => h x
    rw [List.countP_cons, List.countP_cons]
    rcases List.mem_cons.1 ha with e | e
    · subst e
      rw [hp, hq]
      simp
      omega
    · have := countP_lt L h a e hp hq
      cases hb : q b
      · simp
        omega
      · rw [h b hb]
        simp
        omega
theorem free_cons {n : Nat} (hn : n ≤ 24) {M : List Plc} {x : Plc} (hM : ∀ y ∈ M, okP n y) (hx : okP n x) (hnew : x ∉ M) : free (x :: M) < free M := by
  unfold free
  refine countP_lt _ (fun k hk => ?_) (numP x) (List.mem_range.2 ?_) ?_ ?_
  · simp at hk ⊢
    exact hk.2
  · unfold okP at hx
    unfold numP
    omega
  · simp
    intro a b c hm he
    exact hnew (numP_inj (hM _ hm) hx he ▸ hm)
  · simp
theorem free_le (M : List Plc) : free M ≤ 1125 := by
  unfold free
  have := List.countP_le_length (l := List.range 1125) (p := fun k => !(M.map numP).contains k)
  rwa [List.length_range] at this
def lead (k : Nat) (d e : Int) (i : Ins) (a : Nat) : Plc := ((a : Int), d - takes i.1 + leaves i.1, e + if i.1 = 14 then 1 else 0)
structure Gone (l : List Ins) (M T : List Plc) (dep : List Int) : Prop where
  len : dep.length = l.length
  okM : ∀ x ∈ M, okP l.length x
  okT : ∀ x ∈ T, 0 ≤ x.1 ∧ x.1 ≤ l.length ∧ 0 ≤ x.2.1 ∧ x.2.1 ≤ 10 ∧ 0 ≤ x.2.2 ∧ x.2.2 ≤ 5
  fr : M.length + free M ≤ 1125
  tl : T.length ≤ M.length + 1
  zero : ((0, 0, 0) : Plc) ∈ M ∨ ((0, 0, 0) : Plc) ∈ T
  one : ∀ (k : Nat) (d e : Int), ((k : Int), d, e) ∈ M → k < l.length → dep.getD k (-1) = d
  dm : ∀ (k : Nat), 0 ≤ dep.getD k (-1) → ∃ e, ((k : Int), dep.getD k (-1), e) ∈ M
  enough : ∀ (k : Nat) (d e : Int) (i : Ins), ((k : Int), d, e) ∈ M → l[k]? = some i → (takes i.1 : Int) ≤ d
  next : ∀ (k : Nat) (d e : Int) (i : Ins), ((k : Int), d, e) ∈ M → l[k]? = some i → ∀ a ∈ next l k i, lead k d e i a ∈ M ∨ lead k d e i a ∈ T
  snd : ∀ c, checkC l = some c → ∀ (k : Nat) (d e : Int), ((k : Int), d, e) ∈ M ∨ ((k : Int), d, e) ∈ T → Snd l c k d e
theorem Gone.start (l : List Ins) : Gone l [] [(0, 0, 0)] (List.replicate l.length (-1)) where
  len := List.length_replicate
  okM := fun x hx => by cases hx
  okT := fun x hx => by rw [List.mem_singleton] at hx; subst hx; exact ⟨by decide, by simp, by decide, by decide, by decide, by decide⟩
  fr := by have := free_le []; simpa using this
  tl := Nat.le_refl _
  zero := .inr (List.mem_singleton.2 rfl)
  one := fun k d e h => by cases h
  dm := fun k h => by
    rw [List.getD_eq_getElem?_getD, List.getElem?_replicate] at h
    split at h <;> simp at h
  enough := fun k d e i h => by cases h
  next := fun k d e i h => by cases h
  snd := fun c hc k d e h => by
    rcases h with h | h
    · cases h
    · rw [List.mem_singleton] at h
      simp only [Prod.mk.injEq] at h
      obtain ⟨h1, rfl, rfl⟩ := h
      obtain rfl : k = 0 := by omega
      exact snd_zero hc
section
variable {l : List Ins} {M T : List Plc} {dep : List Int} {x : Plc} {k : Nat} {d e : Int}
theorem mem_back {y : Plc} (h : y ∈ M ∨ y ∈ T ++ [x]) (hx : x ∈ M) : y ∈ M ∨ y ∈ T := by
  rcases h with h | h
  · exact .inl h
  · rcases List.mem_append.1 h with h | h
    · exact .inr h
    · rw [List.mem_singleton] at h; exact .inl (h ▸ hx)
theorem Gone.skip (h : Gone l M (T ++ [x]) dep) (hx : x ∈ M) : Gone l M T dep where
  len := h.len
  okM := h.okM
  okT := fun y hy => h.okT y (List.mem_append_left _ hy)
  fr := h.fr
  tl := by have := h.tl; rw [List.length_append] at this; simp at this; omega
  zero := mem_back h.zero hx
  one := h.one
  dm := h.dm
  enough := h.enough
  next := fun k d e i hm hi a ha => mem_back (h.next k d e i hm hi a ha) hx
  snd := fun c hc k d e hm => h.snd c hc k d e (hm.imp id fun q => List.mem_append_left _ q)
theorem Gone.at (h : Gone l M (T ++ [((k : Int), d, e)]) dep) : k ≤ l.length ∧ 0 ≤ d ∧ d ≤ 10 ∧ 0 ≤ e ∧ e ≤ 5 := by
  obtain ⟨h1, h2, h3, h4, h5, h6⟩ := h.okT _ (List.mem_append_right _ (List.mem_singleton.2 rfl))
  simp only at h1 h2 h3 h4 h5 h6
  exact ⟨by omega, h3, h4, h5, h6⟩
theorem mem_on {y : Plc} {T' : List Plc} (h : y ∈ M ∨ y ∈ T ++ [x]) : y ∈ x :: M ∨ y ∈ T ++ T' := by
  rcases h with h | h
  · exact .inl (List.mem_cons_of_mem _ h)
  · rcases List.mem_append.1 h with h | h
    · exact .inr (List.mem_append_left _ h)
    · rw [List.mem_singleton] at h; exact .inl (h ▸ List.mem_cons_self ..)
theorem mem_off {y : Plc} (h : y ∈ x :: M ∨ y ∈ T) : y ∈ M ∨ y ∈ T ++ [x] := by
  rcases h with h | h
  · rcases List.mem_cons.1 h with h | h
    · exact .inr (List.mem_append_right _ (List.mem_singleton.2 h))
    · exact .inl h
  · exact .inr (List.mem_append_left _ h)
theorem Gone.last (hn : l.length ≤ 24) (h : Gone l M (T ++ [((k : Int), d, e)]) dep) (hnew : ((k : Int), d, e) ∉ M) (h8 : d ≤ 8) (h4 : e ≤ 4) (hk : l.length ≤ k) : Gone l (((k : Int), d, e) :: M) T dep := by
  obtain ⟨a1, a2, a3, a4, a5⟩ := h.at
  have hok : okP l.length ((k : Int), d, e) := ⟨by simp, by simpa using a1, a2, h8, a4, h4⟩
  have hnone : ∀ {i : Ins}, l[k]? = some i → False := fun hi => by have := (List.getElem?_eq_some_iff.1 hi).1; omega
  refine ⟨h.len, fun y hy => ?_, fun y hy => h.okT y (List.mem_append_left _ hy), ?_, ?_, ?_, fun k' d' e' hm hk' => ?_, fun k' h0 => ?_, fun k' d' e' i hm hi => ?_, fun k' d' e' i hm hi a ha => ?_, fun c hc k' d' e' hm => h.snd c hc k' d' e' (mem_off hm)⟩
  · rcases List.mem_cons.1 hy with e1 | e1
    · exact e1 ▸ hok
    · exact h.okM y e1
  · have := free_cons hn h.okM hok hnew
    have := h.fr
    rw [List.length_cons]
    omega
  · have := h.tl
    rw [List.length_append] at this
    rw [List.length_cons]
    simp at this
    omega
  · simpa using mem_on (T' := []) h.zero
  · rcases List.mem_cons.1 hm with e1 | e1
    · simp only [Prod.mk.injEq] at e1
      omega
    · exact h.one k' d' e' e1 hk'
  · obtain ⟨e', hm⟩ := h.dm k' h0
    exact ⟨e', List.mem_cons_of_mem _ hm⟩
  · rcases List.mem_cons.1 hm with e1 | e1
    · simp only [Prod.mk.injEq] at e1
      obtain rfl : k' = k := by omega
      exact absurd hi (fun x => hnone x)
    · exact h.enough k' d' e' i e1 hi
  · rcases List.mem_cons.1 hm with e1 | e1
    · simp only [Prod.mk.injEq] at e1
      obtain rfl : k' = k := by omega
      exact absurd hi (fun x => hnone x)
    · simpa using mem_on (T' := []) (h.next k' d' e' i e1 hi a ha)
theorem next_len2 (l : List Ins) (k : Nat) (i : Ins) : (Vm.next l k i).length ≤ 2 := by
  unfold Vm.next
  repeat' split
  all_goals simp
theorem Gone.go (hn : l.length ≤ 24) (h : Gone l M (T ++ [((k : Int), d, e)]) dep) (hnew : ((k : Int), d, e) ∉ M) (h8 : d ≤ 8) (h4 : e ≤ 4) {i : Ins} (hi : l[k]? = some i) (hdep : ¬ (0 ≤ dep.getD k (-1) ∧ dep.getD k (-1) ≠ d)) (ht : (takes i.1 : Int) ≤ d) :
    Gone l (((k : Int), d, e) :: M) (T ++ (Vm.next l k i).map (lead k d e i)) (dep.set k d) := by
  obtain ⟨a1, a2, a3, a4, a5⟩ := h.at
  have hlt : k < l.length := (List.getElem?_eq_some_iff.1 hi).1
  have hok : okP l.length ((k : Int), d, e) := ⟨by simp, by simpa using a1, a2, h8, a4, h4⟩
  have hlv : (leaves i.1 : Int) ≤ 2 := by unfold leaves; repeat' split
                                          all_goals decide
  have hp : (0 : Int) ≤ (if i.1 = 14 then 1 else 0) ∧ (if i.1 = 14 then 1 else 0) ≤ (1 : Int) := by split <;> decide
  refine ⟨by rw [List.length_set]; exact h.len, fun y hy => ?_, fun y hy => ?_, ?_, ?_, mem_on h.zero, fun k' d' e' hm hk' => ?_, fun k' h0 => ?_, fun k' d' e' i' hm hi' => ?_, fun k' d' e' i' hm hi' a ha => ?_, fun c hc k' d' e' hm => ?_⟩
  · rcases List.mem_cons.1 hy with e1 | e1
    · exact e1 ▸ hok
    · exact h.okM y e1
  · rcases List.mem_append.1 hy with e1 | e1
    · exact h.okT y (List.mem_append_left _ e1)
    · obtain ⟨a, ha, rfl⟩ := List.mem_map.1 e1
      have := next_le' hlt a ha
      unfold lead
      simp only
      omega
  · have := free_cons hn h.okM hok hnew
    have := h.fr
    rw [List.length_cons]
    omega
  · have := h.tl
    have := next_len2 l k i
    simp only [List.length_append, List.length_map, List.length_cons, List.length_nil] at *
    omega
  · rw [getD_set]
    rcases List.mem_cons.1 hm with e1 | e1
    · simp only [Prod.mk.injEq] at e1
      obtain ⟨e2, rfl, rfl⟩ := e1
      rw [if_pos ⟨by omega, by rw [h.len]; exact hlt⟩]
    · have h1 := h.one k' d' e' e1 hk'
      split
      · rename_i hq
        obtain ⟨rfl, _⟩ := hq
        have := h.okM _ e1
        unfold okP at this
        simp only at this
        have hne : ¬ dep.getD k' (-1) ≠ d := fun q => hdep ⟨by omega, q⟩
        rw [← h1]
        exact (Classical.not_not.1 hne).symm
      · exact h1
  · rw [getD_set] at h0 ⊢
    by_cases hq : k' = k ∧ k < dep.length
    · rw [if_pos hq]
      exact ⟨e, by rw [hq.1]; exact List.mem_cons_self ..⟩
    · rw [if_neg hq] at h0 ⊢
      obtain ⟨e', hm⟩ := h.dm k' h0
      exact ⟨e', List.mem_cons_of_mem _ hm⟩
  · rcases List.mem_cons.1 hm with e1 | e1
    · simp only [Prod.mk.injEq] at e1
      obtain ⟨e2, rfl, rfl⟩ := e1
      obtain rfl : k' = k := by omega
      rw [hi] at hi'
      cases hi'
      exact ht
    · exact h.enough k' d' e' i' e1 hi'
  · rcases List.mem_cons.1 hm with e1 | e1
    · simp only [Prod.mk.injEq] at e1
      obtain ⟨e2, rfl, rfl⟩ := e1
      obtain rfl : k' = k := by omega
      rw [hi] at hi'
      cases hi'
      exact .inr (List.mem_append_right _ (List.mem_map.2 ⟨a, ha, rfl⟩))
    · exact mem_on (h.next k' d' e' i' e1 hi' a ha)
  · rcases hm with hm | hm
    · rcases List.mem_cons.1 hm with e1 | e1
      · exact h.snd c hc k' d' e' (.inr (List.mem_append_right _ (List.mem_singleton.2 e1)))
      · exact h.snd c hc k' d' e' (.inl e1)
    · rcases List.mem_append.1 hm with e1 | e1
      · exact h.snd c hc k' d' e' (.inr (List.mem_append_left _ e1))
      · obtain ⟨a, ha, e2⟩ := List.mem_map.1 e1
        unfold lead at e2
        simp only [Prod.mk.injEq] at e2
        obtain ⟨e3, rfl, rfl⟩ := e2
        obtain rfl : a = k' := by omega
        exact snd_next hc (h.snd c hc k d e (.inr (List.mem_append_right _ (List.mem_singleton.2 rfl)))) hi a ha
theorem Gone.fin (hf : Co.fitsI l = true) (h : Gone l M [] dep) : safe l = true := by
  have hin : ∀ {y : Plc}, y ∈ M ∨ y ∈ ([] : List Plc) → y ∈ M := fun hy => hy.elim id fun q => by cases q
  refine safe_of_closed hf (M := fun k d e => ((k : Int), d, e) ∈ M) ⟨?_, fun k d e hm => ?_, fun k d e d' e' h1 h2 hk => ?_, fun k d e i hm hi => h.enough k d e i hm hi, fun k d e i hm hi a ha => hin (h.next k d e i hm hi a ha)⟩
  · exact hin h.zero
  · have := h.okM _ hm
    unfold okP at this
    simp only at this
    omega
  · exact (h.one k d e h1 hk).symm.trans (h.one k d' e' h2 hk)
end
end Vm

/-! A program that was trimmed: plain laws. -/
namespace Vm
set_option linter.unusedSimpArgs false
set_option linter.unusedVariables false
open Ga

def livesL : List Ins → List Int → List Bool
  | i :: l, d :: ds => (decide (d ≠ -1) && (decide (i.1 ≠ 16) || decide (0 < ((livesL l ds).take i.2.toNat).count true))) :: livesL l ds
  | _, _ => []
def trimOne (i : Ins) (n : Nat) : Ins := if i.1 = 15 ∧ n = 0 then (13, 0) else if i.1 = 15 ∨ i.1 = 16 then (i.1, (n : Int)) else i
def trimL : List Ins → List Bool → List Ins
  | i :: l, b :: st => if b = true then trimOne i ((st.take i.2.toNat).count true) :: trimL l st else trimL l st
  | _, _ => []
def pos (st : List Bool) (k : Nat) : Nat := (st.take k).count true
theorem lives_len : ∀ (p : List Ins) (ds : List Int), ds.length = p.length → (livesL p ds).length = p.length
  | [], [], _ => rfl
  | [], d :: ds, h => by cases h
  | i :: l, [], h => by cases h
  | i :: l, d :: ds, h => by
    rw [livesL, List.length_cons, lives_len l ds (by simpa using h), List.length_cons]
theorem pos_zero (st : List Bool) : pos st 0 = 0 := rfl
theorem pos_cons (b : Bool) (st : List Bool) (k : Nat) : pos (b :: st) (k + 1) = (if b = true then 1 else 0) + pos st k := by
  unfold pos
  rw [List.take_succ_cons, List.count_cons]
  cases b <;> simp
  omega
theorem pos_succ : ∀ (st : List Bool) (k : Nat), pos st (k + 1) = pos st k + if st.getD k false = true then 1 else 0
  | [], k => by simp [pos]
  | b :: st, 0 => by rw [pos_cons, pos_zero, pos_zero]; cases b <;> rfl
  | b :: st, k + 1 => by
    rw [pos_cons, pos_cons, pos_succ st k, List.getD_cons_succ]; omega
theorem pos_mono (st : List Bool) (k : Nat) : ∀ n, pos st k ≤ pos st (k + n)
  | 0 => Nat.le_refl _
  | n + 1 => by
    have := pos_succ st (k + n)
    have := pos_mono st k n
    have e : k + (n + 1) = k + n + 1 := rfl
    rw [e]; omega
theorem pos_all {st : List Bool} {k : Nat} (h : st.length ≤ k) : pos st k = st.count true := by
  unfold pos; rw [List.take_of_length_le h]
theorem over_eq (st : List Bool) (j n : Nat) : ((st.drop j).take n).count true = pos st (j + n) - pos st j := by
  unfold pos
  rw [List.take_add, List.count_append]; omega
theorem trim_len : ∀ (p : List Ins) (st : List Bool), st.length = p.length → (trimL p st).length = st.count true
  | [], [], _ => rfl
  | [], b :: st, h => by cases h
  | i :: l, [], h => by cases h
  | i :: l, b :: st, h => by
    have := trim_len l st (by simpa using h)
    rw [trimL]
    cases b <;> simp [this]
theorem lives_at : ∀ (p : List Ins) (ds : List Int) (k : Nat) (i : Ins), ds.length = p.length → p[k]? = some i → (livesL p ds).getD k false = (decide (ds.getD k (-1) ≠ -1) && (decide (i.1 ≠ 16) || decide (0 < ((((livesL p ds).drop (k + 1)).take i.2.toNat).count true))))
  | [], ds, k, i, _, h => by simp at h
  | j :: l, [], k, i, h, _ => by cases h
  | j :: l, d :: ds, 0, i, h, hi => by
    rw [List.getElem?_cons_zero] at hi
    cases hi
    rw [livesL]; rfl
  | j :: l, d :: ds, k + 1, i, h, hi => by
    rw [List.getElem?_cons_succ] at hi
    rw [livesL, List.getD_cons_succ, List.getD_cons_succ, List.drop_succ_cons]
    exact lives_at l ds k i (by simpa using h) hi

/-! ### the ways of the whole, and of what is left -/
theorem goC_len {p : List Ins} {c : Cst} : ∀ (l : List Ins) (k : Nat) (s : Cst), goC p l k s = some c → c.depth.length = s.depth.length
  | [], k, s, h => by cases h; rfl
  | i :: l, k, s, h => by
    rw [goC] at h
    split at h
    · split at h
      · exact (goC_len l _ _ h).trans (stepC_len ..)
      · cases h
    · exact goC_len l _ _ h
theorem checkC_len {p : List Ins} {c : Cst} (h : checkC p = some c) : c.depth.length = p.length := by
  unfold checkC at h
  split at h
  · exact (goC_len p 0 _ h).trans (start_len _)
  · cases h
section
variable {p : List Ins} {c : Cst}
theorem stay_known (hc : checkC p = some c) {k : Nat} {i : Ins} (hi : p[k]? = some i) (hd : c.depth.getD k (-1) ≠ -1) (hs : (livesL p c.depth).getD k false ≠ true) : i.1 = 16 ∧ pos (livesL p c.depth) (k + 1 + i.2.toNat) = pos (livesL p c.depth) (k + 1) := by
  have hl : c.depth.length = p.length := checkC_len hc
  have h := lives_at p c.depth k i hl hi
  rw [over_eq] at h
  have hm := pos_mono (livesL p c.depth) (k + 1) i.2.toNat
  rw [h] at hs
  simp only [Bool.and_eq_true, Bool.or_eq_true, decide_eq_true_eq, ne_eq, not_and, not_or] at hs
  have := hs hd
  omega
theorem stay_off {k : Nat} (hs : (livesL p c.depth).getD k false ≠ true) : pos (livesL p c.depth) (k + 1) = pos (livesL p c.depth) k := by
  rw [pos_succ, if_neg hs]; rfl
/-- where a way leads, past jumps that are left out -/
theorem resolve (hc : checkC p = some c) : ∀ (m k : Nat) (d e : Int), p.length - k ≤ m → Snd p c k d e → pos (livesL p c.depth) k < (trimL p (livesL p c.depth)).length → ∃ k2, (livesL p c.depth).getD k2 false = true ∧ pos (livesL p c.depth) k2 = pos (livesL p c.depth) k ∧ Snd p c k2 d e
  | m, k, d, e, hm, hs, hp => by
    have hl : c.depth.length = p.length := checkC_len hc
    have hlv := lives_len p c.depth hl
    rw [trim_len p _ hlv] at hp
    have hk : k < p.length := by
      rcases Nat.lt_or_ge k p.length with x | x
      · exact x
      · rw [pos_all (by omega)] at hp; omega
    by_cases hst : (livesL p c.depth).getD k false = true
    · exact ⟨k, hst, rfl, hs⟩
    · cases m with
      | zero => omega
      | succ m =>
        obtain ⟨h1, h2, h3⟩ := hs.2.2.2.2 hk
        have hi : p[k]? = some p[k] := List.getElem?_eq_getElem hk
        obtain ⟨h16, hj⟩ := stay_known hc hi (by omega) hst
        have hn : min (k + 1 + p[k].2.toNat) p.length ∈ next p k p[k] := by
          unfold next
          rw [if_neg (by omega), if_pos h16]
          exact List.mem_singleton.2 rfl
        have hs2 := snd_next hc hs hi _ hn
        have ht : takes p[k].1 = 0 := by rw [h16]; rfl
        have hv : leaves p[k].1 = 0 := by rw [h16]; rfl
        rw [ht, hv, if_neg (by omega)] at hs2
        rw [show d - ((0 : Nat) : Int) + ((0 : Nat) : Int) = d by omega, Int.add_zero] at hs2
        have hpe : pos (livesL p c.depth) (min (k + 1 + p[k].2.toNat) p.length) = pos (livesL p c.depth) k := by
          rcases Nat.le_total (k + 1 + p[k].2.toNat) p.length with x | x
          · rw [Nat.min_eq_left x, hj, stay_off hst]
          · rw [Nat.min_eq_right x, pos_all (by omega), ← pos_all (k := k + 1 + p[k].2.toNat) (by omega), hj, stay_off hst]
        obtain ⟨k2, q1, q2, q3⟩ := resolve hc m _ d e (by omega) hs2 (by rw [trim_len p _ hlv, hpe]; exact hp)
        exact ⟨k2, q1, q2.trans hpe, q3⟩
/-! ### and they run alike -/
end
end Vm
