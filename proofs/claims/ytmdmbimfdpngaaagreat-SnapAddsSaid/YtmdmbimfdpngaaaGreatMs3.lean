import Derived.Test.YtmdmbimfdpngaaaGreatMs2
import Derived.Test.YtmdmbimfdpngaaaGreatMs0
import Derived.Test.YtmdmbimfdpngaaaGreatRows
import Derived.Lib.ItoaNum
import Derived.WalkKit
import Derived.WalkSpells
import Derived.Lib.Hide
import Derived.Outline
import Derived.LoopTactic
/-! Programs that run; programs that may run: plain laws. -/
namespace Vm
set_option linter.unusedSimpArgs false
set_option linter.unusedVariables false
open Ga

abbrev Ins := Int × Int

/-! ### a machine -/
structure St where
  out : List Val
  c0 : Val
  c1 : Val
  steps : Int
  pc : Nat
  stack : List Val

def cellAt (s : St) (a : Int) : Val := if a = 0 then s.c0 else s.c1
def setCellAt (s : St) (a : Int) (v : Val) : St := if a = 0 then { s with c0 := v } else { s with c1 := v }
def top1 (s : St) : Val := s.stack.getLastD (0, 0)
def pop1 (s : St) : St := { s with stack := s.stack.dropLast }
def push1 (s : St) (v : Val) : St := { s with stack := s.stack ++ [v] }
def two (op : Int) (x y : Val) : Val :=
  if op = 6 then addV (addV (0, 0) x) y else if op = 7 then subV x y else if op = 8 then mulV (mulV (1, 0) x) y else (if lessV x y then 1 else 0, 0)
def jump1 (s : St) (k : Int) : St := { s with pc := s.pc + k.toNat }
def emit1 (s : St) (v : Val) : St := { s with out := s.out ++ [v] }
/-- behind the fetch: at and steps are raised -/
def effect (inp : Val) (i : Ins) (s : St) : St :=
  if i.1 = 1 then push1 s (i.2, 0)
  else if i.1 = 2 then push1 s (0, i.2)
  else if i.1 = 3 then push1 s inp
  else if i.1 = 4 then push1 s (cellAt s i.2)
  else if i.1 = 5 then setCellAt (pop1 s) i.2 (top1 s)
  else if i.1 = 15 then (if zeroV (top1 s) then jump1 (pop1 s) i.2 else pop1 s)
  else if i.1 = 16 then jump1 s i.2
  else if i.1 = 6 ∨ i.1 = 7 ∨ i.1 = 8 ∨ i.1 = 17 then push1 (pop1 (pop1 s)) (two i.1 (top1 (pop1 s)) (top1 s))
  else if i.1 = 9 then push1 (pop1 s) (conjV (top1 s))
  else if i.1 = 10 then push1 (pop1 s) (turnV (top1 s))
  else if i.1 = 11 then push1 (push1 (pop1 s) (top1 s)) (top1 s)
  else if i.1 = 12 then push1 (push1 (pop1 (pop1 s)) (top1 s)) (top1 (pop1 s))
  else if i.1 = 14 then emit1 (pop1 s) (top1 s)
  else pop1 s
def fetch (s : St) : St := { s with pc := s.pc + 1, steps := s.steps + 1 }
def exec (p : List Ins) (inp : Val) : Nat → St → St
  | 0, s => s
  | f + 1, s => match p[s.pc]? with
    | none => s
    | some i => if i.1 = 0 then fetch s else exec p inp f (effect inp i (fetch s))
/-- what an operation takes and leaves -/
def takes (op : Int) : Nat := if op = 5 ∨ op = 13 ∨ op = 14 ∨ op = 15 ∨ op = 9 ∨ op = 10 ∨ op = 11 then 1 else if op = 6 ∨ op = 7 ∨ op = 8 ∨ op = 17 ∨ op = 12 then 2 else 0
def leaves (op : Int) : Nat := if op = 1 ∨ op = 2 ∨ op = 3 ∨ op = 4 ∨ op = 6 ∨ op = 7 ∨ op = 8 ∨ op = 17 ∨ op = 9 ∨ op = 10 then 1 else if op = 11 ∨ op = 12 then 2 else 0

/-! what was put out before, and the steps before, are carried along -/
/-! ### what is known of a program -/
structure Cst where
  depth : List Int
  emits : List Int
  mx : Int
  em : Int
  u0 : Bool
  u1 : Bool
def raise (s : Cst) (d e : Int) : Cst := { s with mx := max s.mx d, em := max s.em e }
def come (n : Nat) (s : Cst) (k : Nat) (d e : Int) : Cst × Bool :=
  if 8 < d ∨ 4 < e then (raise s d e, false)
  else if k = n then (raise s d e, true)
  else if s.depth.getD k (-1) ≠ -1 ∧ s.depth.getD k (-1) ≠ d then (raise s d e, false)
  else ({ raise s d e with depth := s.depth.set k d, emits := s.emits.set k (max (s.emits.getD k 0) e) }, true)
def next (p : List Ins) (k : Nat) (i : Ins) : List Nat :=
  if i.1 = 0 then [] else if i.1 = 16 then [min (k + 1 + i.2.toNat) p.length] else if i.1 = 15 then [k + 1, min (k + 1 + i.2.toNat) p.length] else [k + 1]
def uses (s : Cst) (i : Ins) : Cst := if i.1 = 4 ∨ i.1 = 5 then (if i.2 = 0 then { s with u0 := true } else { s with u1 := true }) else s
def comes (n : Nat) (d e : Int) : List Nat → Cst → Cst × Bool
  | [], s => (s, true)
  | k :: l, s => if (come n s k d e).2 then comes n d e l (come n s k d e).1 else ((come n s k d e).1, false)
def stepC (p : List Ins) (s : Cst) (k : Nat) (i : Ins) : Cst × Bool :=
  if s.depth.getD k (-1) < takes i.1 then (s, false)
  else comes p.length (s.depth.getD k (-1) - takes i.1 + leaves i.1) (s.emits.getD k 0 + if i.1 = 14 then 1 else 0) (next p k i) (uses s i)
def start (n : Nat) : Cst := (come n ⟨List.replicate n (-1), List.replicate n 0, 0, 0, false, false⟩ 0 0 0).1
/-- from place k on -/
def goC (p : List Ins) : List Ins → Nat → Cst → Option Cst
  | [], _, s => some s
  | i :: l, k, s => if s.depth.getD k (-1) ≠ -1 then (if (stepC p s k i).2 then goC p l (k + 1) (stepC p s k i).1 else none) else goC p l (k + 1) s
def checkC (p : List Ins) : Option Cst := if Co.fitsI p then goC p p 0 (start p.length) else none
def safe (p : List Ins) : Bool := (checkC p).isSome

/-! a depth that is known stays -/
theorem getD_ne_lt {l : List Int} {j : Nat} (h : l.getD j (-1) ≠ -1) : j < l.length := by
  apply Classical.byContradiction; intro hn
  exact h (by rw [List.getD_eq_getElem?_getD, List.getElem?_eq_none (by omega)]; rfl)
theorem getD_set_self {l : List Int} {j : Nat} {d : Int} (h : j < l.length) : (l.set j d).getD j (-1) = d := by
  rw [List.getD_eq_getElem?_getD, List.getElem?_set_self h]; rfl
theorem getD_set_ne {l : List Int} {j k : Nat} {d : Int} (h : j ≠ k) : (l.set k d).getD j (-1) = l.getD j (-1) := by
  rw [List.getD_eq_getElem?_getD, List.getElem?_set_ne (fun e => h e.symm), ← List.getD_eq_getElem?_getD]
theorem come_len (n : Nat) (s : Cst) (k : Nat) (d e : Int) : (come n s k d e).1.depth.length = s.depth.length := by
  unfold come
  split
  · rfl
  split
  · rfl
  split
  · rfl
  · exact List.length_set ..
theorem come_other {n : Nat} {s : Cst} {k : Nat} {d e : Int} {j : Nat} (h : j ≠ k) : (come n s k d e).1.depth.getD j (-1) = s.depth.getD j (-1) := by
  unfold come
  split
  · rfl
  split
  · rfl
  split
  · rfl
  · exact getD_set_ne h
theorem come_keeps {n : Nat} {s : Cst} {k : Nat} {d e : Int} {j : Nat} (h : s.depth.getD j (-1) ≠ -1) : (come n s k d e).1.depth.getD j (-1) = s.depth.getD j (-1) := by
  by_cases hj : j = k
  · subst hj
    unfold come
    split
    · rfl
    split
    · rfl
    split
    · rfl
    · rename_i h1 h2 h3
      have : s.depth.getD j (-1) = d := Classical.byContradiction fun hne => h3 ⟨h, hne⟩
      exact (getD_set_self (getD_ne_lt h)).trans this.symm
  · exact come_other hj
theorem come_sets {n : Nat} {s : Cst} {k : Nat} {d e : Int} (hb : (come n s k d e).2 = true) (hk : k < n) (hl : s.depth.length = n) : (come n s k d e).1.depth.getD k (-1) = d := by
  unfold come at hb ⊢
  split at hb
  · cases hb
  split at hb
  · omega
  split at hb
  · cases hb
  · rename_i h1 h2 h3
    rw [if_neg h1, if_neg h2, if_neg h3]
    exact getD_set_self (by rw [hl]; exact hk)
theorem comes_len (n : Nat) (d e : Int) : ∀ (l : List Nat) (s : Cst), (comes n d e l s).1.depth.length = s.depth.length
  | [], s => rfl
  | k :: l, s => by
    rw [comes]; split
    · exact (comes_len n d e l _).trans (come_len ..)
    · exact come_len ..
theorem comes_keeps {n : Nat} {d e : Int} {j : Nat} : ∀ (l : List Nat) (s : Cst), s.depth.getD j (-1) ≠ -1 → (comes n d e l s).1.depth.getD j (-1) = s.depth.getD j (-1)
  | [], s, _ => rfl
  | k :: l, s, h => by
    rw [comes]; split
    · exact (comes_keeps l _ (by rw [come_keeps h]; exact h)).trans (come_keeps h)
    · exact come_keeps h
theorem comes_low {n : Nat} {d e : Int} {j : Nat} : ∀ (l : List Nat) (s : Cst), (∀ k ∈ l, j < k) → (comes n d e l s).1.depth.getD j (-1) = s.depth.getD j (-1)
  | [], s, _ => rfl
  | k :: l, s, h => by
    have hk := h k (List.mem_cons_self ..)
    rw [comes]; split
    · exact (comes_low l _ fun a ha => h a (List.mem_cons_of_mem _ ha)).trans (come_other (by omega))
    · exact come_other (by omega)
theorem comes_sets {n : Nat} {d e : Int} (hd : d ≠ -1) : ∀ (l : List Nat) (s : Cst), s.depth.length = n → (comes n d e l s).2 = true → ∀ k ∈ l, k < n → (comes n d e l s).1.depth.getD k (-1) = d
  | [], s, _, _, k, hk, _ => by cases hk
  | a :: l, s, hl, hb, k, hk, hn => by
    rw [comes] at hb ⊢
    split at hb
    · rename_i ha
      rw [if_pos ha]
      rcases List.mem_cons.1 hk with e1 | e1
      · subst e1
        have := come_sets ha hn hl
        exact (comes_keeps l _ (by rw [this]; exact hd)).trans this
      · exact comes_sets hd l _ ((come_len ..).trans hl) hb k e1 hn
    · cases hb
theorem uses_depth (s : Cst) (i : Ins) : (uses s i).depth = s.depth := by
  unfold uses; split
  · split <;> rfl
  · rfl
theorem stepC_len (p : List Ins) (s : Cst) (k : Nat) (i : Ins) : (stepC p s k i).1.depth.length = s.depth.length := by
  unfold stepC; split
  · rfl
  · rw [comes_len, uses_depth]
theorem stepC_keeps {p : List Ins} {s : Cst} {k : Nat} {i : Ins} {j : Nat} (h : s.depth.getD j (-1) ≠ -1) : (stepC p s k i).1.depth.getD j (-1) = s.depth.getD j (-1) := by
  unfold stepC; split
  · rfl
  · rw [comes_keeps _ _ (by rw [uses_depth]; exact h), uses_depth]
theorem next_gt {p : List Ins} {k : Nat} {i : Ins} (hk : k < p.length) : ∀ a ∈ next p k i, k < a := by
  intro a ha
  unfold next at ha
  split at ha
  · cases ha
  split at ha
  · rw [List.mem_singleton] at ha; omega
  split at ha
  · rcases List.mem_cons.1 ha with e | e
    · omega
    · rw [List.mem_singleton] at e; omega
  · rw [List.mem_singleton] at ha; omega
theorem stepC_low {p : List Ins} {s : Cst} {k : Nat} {i : Ins} {j : Nat} (hk : k < p.length) (hj : j ≤ k) : (stepC p s k i).1.depth.getD j (-1) = s.depth.getD j (-1) := by
  unfold stepC; split
  · rfl
  · rw [comes_low _ _ (fun a ha => by have := next_gt hk a ha; omega), uses_depth]
theorem goC_keeps {p : List Ins} {c : Cst} {j : Nat} : ∀ (l : List Ins) (k : Nat) (s : Cst), goC p l k s = some c → s.depth.getD j (-1) ≠ -1 → c.depth.getD j (-1) = s.depth.getD j (-1)
  | [], _, s, h, _ => by cases h; rfl
  | i :: l, k, s, h, hj => by
    rw [goC] at h
    split at h
    · split at h
      · exact (goC_keeps l _ _ h (by rw [stepC_keeps hj]; exact hj)).trans (stepC_keeps hj)
      · cases h
    · exact goC_keeps l _ _ h hj
theorem goC_low {p : List Ins} {c : Cst} {j : Nat} : ∀ (l : List Ins) (k : Nat) (s : Cst), goC p l k s = some c → k + l.length = p.length → j < k → c.depth.getD j (-1) = s.depth.getD j (-1)
  | [], _, s, h, _, _ => by cases h; rfl
  | i :: l, k, s, h, hl, hj => by
    rw [List.length_cons] at hl
    rw [goC] at h
    split at h
    · split at h
      · exact (goC_low l _ _ h (by omega) (by omega)).trans (stepC_low (by omega) (by omega))
      · cases h
    · exact goC_low l _ _ h (by omega) (by omega)
/-- at each known place there is enough, and where it leads on, what is left is known -/
def Sound (p : List Ins) (c : Cst) (k : Nat) (i : Ins) : Prop :=
  c.depth.getD k (-1) ≠ -1 → (takes i.1 : Int) ≤ c.depth.getD k (-1) ∧ ∀ a ∈ next p k i, a < p.length → c.depth.getD a (-1) = c.depth.getD k (-1) - takes i.1 + leaves i.1
theorem goC_sound {p : List Ins} {c : Cst} : ∀ (l : List Ins) (k : Nat) (s : Cst), goC p l k s = some c → k + l.length = p.length → s.depth.length = p.length → ∀ j i, l[j]? = some i → Sound p c (k + j) i
  | [], _, s, _, _, _, j, i, hj => by simp at hj
  | i0 :: l, k, s, h, hl, hd, j, i, hj => by
    rw [List.length_cons] at hl
    rw [goC] at h
    cases j with
    | succ j =>
      rw [List.getElem?_cons_succ] at hj
      have e : k + (j + 1) = k + 1 + j := by omega
      rw [e]
      split at h
      · split at h
        · exact goC_sound l _ _ h (by omega) ((stepC_len ..).trans hd) j i hj
        · cases h
      · exact goC_sound l _ _ h (by omega) hd j i hj
    | zero =>
      rw [List.getElem?_cons_zero] at hj
      cases hj
      intro hk
      rw [Nat.add_zero] at hk ⊢
      split at h
      · rename_i hs
        split at h
        · rename_i hb
          have e1 : c.depth.getD k (-1) = s.depth.getD k (-1) := (goC_low l _ _ h (by omega) (by omega)).trans (stepC_low (by omega) (by omega))
          rw [e1]
          unfold stepC at hb
          split at hb
          · cases hb
          · rename_i ht
            refine ⟨by omega, fun a ha hal => ?_⟩
            have hd' : s.depth.getD k (-1) - takes i0.1 + leaves i0.1 ≠ -1 := by omega
            have := comes_sets hd' (next p k i0) (uses s i0) (by rw [uses_depth]; exact hd) hb a ha hal
            have e2 : (stepC p s k i0).1.depth.getD a (-1) = s.depth.getD k (-1) - takes i0.1 + leaves i0.1 := by
              unfold stepC; rw [if_neg ht]; exact this
            exact (goC_keeps l _ _ h (by rw [e2]; exact hd')).trans e2
        · cases h
      · rename_i hs
        exact absurd ((goC_low l _ _ h (by omega) (by omega)).trans (Classical.byContradiction fun x => hs x)) hk
theorem start_len (n : Nat) : (start n).depth.length = n := (come_len ..).trans (List.length_replicate ..)
theorem checkC_sound {p : List Ins} {c : Cst} (h : checkC p = some c) {k : Nat} {i : Ins} (hi : p[k]? = some i) : Sound p c k i := by
  unfold checkC at h
  split at h
  · have := goC_sound p 0 _ h (by omega) (start_len _) k i hi
    rwa [Nat.zero_add] at this
  · cases h
theorem checkC_zero {p : List Ins} {c : Cst} (h : checkC p = some c) (hp : 0 < p.length) : c.depth.getD 0 (-1) = 0 := by
  unfold checkC at h
  split at h
  · have e : (start p.length).depth.getD 0 (-1) = 0 := by
      unfold start come
      rw [if_neg (by omega), if_neg (by omega), if_neg ?_]
      · exact getD_set_self (by rw [List.length_replicate]; exact hp)
      · intro hh
        refine hh.1 ?_
        rw [List.getD_eq_getElem?_getD, List.getElem?_replicate]
        split <;> rfl
    exact (goC_keeps p 0 _ h (by rw [e]; omega)).trans e
  · cases h

/-! ### a program that is safe never takes what is not there -/
def Good (p : List Ins) (c : Cst) (s : St) : Prop := s.pc < p.length → c.depth.getD s.pc (-1) = s.stack.length
theorem push1_pc (s v) : (push1 s v).pc = s.pc := rfl
theorem pop1_pc (s) : (pop1 s).pc = s.pc := rfl
theorem emit1_pc (s v) : (emit1 s v).pc = s.pc := rfl
theorem jump1_pc (s k) : (jump1 s k).pc = s.pc + k.toNat := rfl
theorem setCellAt_pc (s a v) : (setCellAt s a v).pc = s.pc := by unfold setCellAt; split <;> rfl
theorem push1_len (s v) : (push1 s v).stack.length = s.stack.length + 1 := by unfold push1; simp
theorem pop1_len (s) : (pop1 s).stack.length = s.stack.length - 1 := by unfold pop1; simp
theorem emit1_len (s v) : (emit1 s v).stack.length = s.stack.length := rfl
theorem jump1_len (s k) : (jump1 s k).stack.length = s.stack.length := rfl
theorem setCellAt_len (s a v) : (setCellAt s a v).stack.length = s.stack.length := by unfold setCellAt; split <;> rfl
theorem fetch_pc (s : St) : (fetch s).pc = s.pc + 1 := rfl
theorem fetch_len (s : St) : (fetch s).stack.length = s.stack.length := rfl
theorem effect_len {s : St} {o a : Int} (ho : 1 ≤ o ∧ o ≤ 17) (inp : Val) (ht : takes o ≤ s.stack.length) :
    ((effect inp (o, a) s).stack.length : Int) = s.stack.length - takes o + leaves o := by
  have hc : o = 1 ∨ o = 2 ∨ o = 3 ∨ o = 4 ∨ o = 5 ∨ o = 6 ∨ o = 7 ∨ o = 8 ∨ o = 9 ∨ o = 10 ∨ o = 11 ∨ o = 12 ∨ o = 13 ∨ o = 14 ∨ o = 15 ∨ o = 16 ∨ o = 17 := by omega
  rcases hc with rfl | rfl | rfl | rfl | rfl | rfl | rfl | rfl | rfl | rfl | rfl | rfl | rfl | rfl | rfl | rfl | rfl <;>
    simp [effect, takes, leaves, push1_len, pop1_len, emit1_len, jump1_len, setCellAt_len] at ht ⊢ <;> first | omega | (split <;> simp [jump1_len, pop1_len] <;> omega)
theorem effect_pc {s : St} {o a : Int} (ho : 1 ≤ o ∧ o ≤ 17) (inp : Val) :
    (effect inp (o, a) s).pc = (if o = 16 then s.pc + a.toNat else if o = 15 then (if zeroV (top1 s) then s.pc + a.toNat else s.pc) else s.pc) := by
  have hc : o = 1 ∨ o = 2 ∨ o = 3 ∨ o = 4 ∨ o = 5 ∨ o = 6 ∨ o = 7 ∨ o = 8 ∨ o = 9 ∨ o = 10 ∨ o = 11 ∨ o = 12 ∨ o = 13 ∨ o = 14 ∨ o = 15 ∨ o = 16 ∨ o = 17 := by omega
  rcases hc with rfl | rfl | rfl | rfl | rfl | rfl | rfl | rfl | rfl | rfl | rfl | rfl | rfl | rfl | rfl | rfl | rfl <;>
    simp [effect, push1_pc, pop1_pc, emit1_pc, jump1_pc, setCellAt_pc] <;> (split <;> rfl)
theorem good_effect {p : List Ins} {c : Cst} (h : checkC p = some c) {s : St} (hg : Good p c s) {o a : Int} (hi : p[s.pc]? = some (o, a)) (hop : 1 ≤ o ∧ o ≤ 17) (inp : Val) :
    takes o ≤ s.stack.length ∧ Good p c (effect inp (o, a) (fetch s)) := by
  have hlt : s.pc < p.length := by
    rcases Nat.lt_or_ge s.pc p.length with x | x
    · exact x
    · rw [List.getElem?_eq_none x] at hi; cases hi
  have e := hg hlt
  obtain ⟨ht, hn⟩ := checkC_sound h hi (by rw [e]; omega)
  rw [e] at ht hn
  simp only at ht hn
  refine ⟨by omega, ?_⟩
  have ht' : takes o ≤ s.stack.length := by omega
  have hlen := effect_len (s := fetch s) (a := a) hop inp ht'
  rw [fetch_len] at hlen
  have hpc : (effect inp (o, a) (fetch s)).pc < p.length → (effect inp (o, a) (fetch s)).pc ∈ next p s.pc (o, a) := by
    rw [effect_pc hop, fetch_pc]
    unfold next
    rw [if_neg (show ¬ o = 0 by omega)]
    by_cases h16 : o = 16
    · rw [if_pos h16, if_pos h16, List.mem_singleton]
      show _ → _ = min (s.pc + 1 + a.toNat) p.length
      omega
    rw [if_neg h16, if_neg h16]
    by_cases h15 : o = 15
    · rw [if_pos h15, if_pos h15, List.mem_cons, List.mem_singleton]
      show _ → _ ∨ _ = min (s.pc + 1 + a.toNat) p.length
      split
      · intro x; right; omega
      · intro x; left; rfl
    · rw [if_neg h15, if_neg h15, List.mem_singleton]
      intro _; rfl
  intro hl
  rw [hn _ (hpc hl) hl, hlen]
end Vm

/-! What is kept, as a list of entries: a table made of a list keeps just that list if it stands by places and has nothing empty: plain laws. -/
namespace Tab
open Ga
set_option linter.unusedSimpArgs false
set_option linter.unusedVariables false

structure En where
  node : Int
  key : Int
  c0 : Val
  c1 : Val
def num (e : En) : Int := e.node * 64 + e.key
def nz (e : En) : Bool := !(e.c0 == (0, 0) && e.c1 == (0, 0))
/-- something is kept, or nothing any more -/
def setT (m : List En) (x : En) : List En := if nz x then x :: m.filter (fun y => num y != num x) else m.filter (fun y => num y != num x)
def newT (l : List En) : List En := l.foldl setT []
theorem num_inj {a b : En} (ha : 0 ≤ a.key ∧ a.key < 64) (hb : 0 ≤ b.key ∧ b.key < 64) (h : num a = num b) : a.node = b.node ∧ a.key = b.key := by
  unfold num at h
  omega
/-- what holds of a table -/
structure Ok (l m : List En) : Prop where
  un : m.Pairwise fun a b => num a ≠ num b
  sub : ∀ x ∈ m, x ∈ l
  nz : ∀ x ∈ m, nz x = true
theorem Ok.set {l m : List En} (h : Ok l m) (x : En) : Ok (l ++ [x]) (setT m x) := by
  have hf : ∀ y ∈ m.filter (fun y => num y != num x), y ∈ m ∧ num y ≠ num x := fun y hy => by
    obtain ⟨h1, h2⟩ := List.mem_filter.1 hy
    exact ⟨h1, by simpa using h2⟩
  unfold setT
  split
  · rename_i hn
    refine ⟨List.pairwise_cons.2 ⟨fun y hy => fun e => (hf y hy).2 e.symm, h.un.filter _⟩, fun y hy => ?_, fun y hy => ?_⟩
    · rcases List.mem_cons.1 hy with rfl | h1
      · exact List.mem_append_right _ (List.mem_singleton.2 rfl)
      · exact List.mem_append_left _ (h.sub y (hf y h1).1)
    · rcases List.mem_cons.1 hy with rfl | h1
      · exact hn
      · exact h.nz y (hf y h1).1
  · exact ⟨h.un.filter _, fun y hy => List.mem_append_left _ (h.sub y (hf y hy).1), fun y hy => h.nz y (hf y hy).1⟩
theorem newT_snoc (l : List En) (x : En) : newT (l ++ [x]) = setT (newT l) x := by
  unfold newT
  rw [List.foldl_append]
  rfl
theorem newT_ok (l : List En) : Ok l (newT l) := by
  suffices h : ∀ (r : List En), Ok r.reverse (newT r.reverse) by
    have := h l.reverse
    rwa [List.reverse_reverse] at this
  intro r
  induction r with
  | nil => exact ⟨List.Pairwise.nil, fun x hx => (by cases hx), fun x hx => (by cases hx)⟩
  | cons x r ih =>
    rw [List.reverse_cons, newT_snoc]
    exact ih.set x
/-- what stands by places, and has nothing empty, is kept as it is -/
theorem newT_rev (l : List En) (hs : l.Pairwise fun a b => num a < num b) (hn : ∀ x ∈ l, nz x = true) : newT l = l.reverse := by
  suffices h : ∀ (r : List En), (r.reverse.Pairwise fun a b => num a < num b) → (∀ x ∈ r, nz x = true) → newT r.reverse = r by
    have := h l.reverse (by rwa [List.reverse_reverse]) fun x hx => hn x (List.mem_reverse.1 hx)
    rwa [List.reverse_reverse] at this
  intro r
  induction r with
  | nil => intro _ _; rfl
  | cons x r ih =>
    intro hs hn
    rw [List.reverse_cons] at hs ⊢
    obtain ⟨h1, _, h3⟩ := List.pairwise_append.1 hs
    rw [newT_snoc, ih h1 fun y hy => hn y (List.mem_cons_of_mem _ hy)]
    unfold setT
    rw [if_pos (hn x (List.mem_cons_self ..))]
    congr 1
    refine List.filter_eq_self.2 fun y hy => ?_
    have := h3 y (List.mem_reverse.2 hy) x (List.mem_singleton.2 rfl)
    have : num y ≠ num x := by omega
    simpa using this
/-- THE LAW: all that a table keeps, by places, is the list of which it was made, just if that stands by places and has nothing empty. -/
theorem all_iff {l s : List En} (hp : s.Perm (newT l)) (hs : s.Pairwise fun a b => num a ≤ num b) : s = l ↔ (l.Pairwise fun a b => num a < num b) ∧ ∀ x ∈ l, nz x = true := by
  have ho := newT_ok l
  constructor
  · rintro rfl
    have hu : s.Pairwise fun a b => num a ≠ num b := (hp.pairwise_iff (fun h => fun e => h e.symm)).2 ho.un
    refine ⟨(hs.and hu).imp fun h => by omega, fun x hx => ho.nz x (hp.mem_iff.1 hx)⟩
  · rintro ⟨h1, h2⟩
    rw [newT_rev l h1 h2] at hp
    have hp2 := hp.trans (List.reverse_perm l)
    refine List.Perm.eq_of_pairwise (le := fun a b => num a ≤ num b) (fun a b ha hb e1 e2 => ?_) hs (h1.imp fun h => by omega) hp2
    have ha' := hp2.mem_iff.1 ha
    obtain ⟨i, hi, rfl⟩ := List.mem_iff_getElem.1 ha'
    obtain ⟨j, hj, rfl⟩ := List.mem_iff_getElem.1 hb
    have hpw := List.pairwise_iff_getElem.1 h1
    rcases Nat.lt_trichotomy i j with h3 | h3 | h3
    · have := hpw i j hi hj h3
      omega
    · subst h3
      rfl
    · have := hpw j i hj hi h3
      omega
end Tab

/-! All blocks but one stay. -/
namespace Go.Proofs.YtmdmbimfdpngaaaGreat
set_option linter.unusedSimpArgs false
set_option linter.unusedVariables false
open Go.RowKit
set_option maxRecDepth 100000

/-- No block but B is another. -/
def Keep (B : Nat) (w w' : World) : Prop := w.heap.size ≤ w'.heap.size ∧ ∀ q, q < w.heap.size → q ≠ B → w'.heap[q]? = w.heap[q]?
theorem Keep.ofGrew {B : Nat} {w w' : World} (g : Grew w w') : Keep B w w' := ⟨g.below.size, fun q hq _ => g.below.block q hq⟩
theorem Keep.trans {B : Nat} {a b c : World} (h : Keep B a b) (k : Keep B b c) : Keep B a c :=
  ⟨Nat.le_trans h.1 k.1, fun q hq hn => (k.2 q (Nat.lt_of_lt_of_le hq h.1) hn).trans (h.2 q hq hn)⟩
theorem Keep.set {w : World} {B : Nat} (v : Value) : Keep B w (w.setCell ⟨B, 0, none⟩ v) :=
  ⟨by simp [World.size_setCell], fun q _ hn => set_other (fun e => hn e.symm)⟩
theorem Keep.own {α : Type} {base B : Nat} {e : TypeId} {k : Nat} {enc : α → List Value} {w w' : World} {v : Value} {l : List α} (h : Keep B w w') (ho : OwnAt base e k enc w v l) (hne : v.ownBlock ≠ some B) : OwnAt base e k enc w' v l :=
  OwnAt.same ho fun b hb => h.2 b (by have := (World.ownsRow.lt ho b hb).2; exact this) (fun e => hne (by rw [hb, e]))
end Go.Proofs.YtmdmbimfdpngaaaGreat

/-! Digits of a number, by the other text. -/
namespace Go.Proofs.YtmdmbimfdpngaaaGreat
set_option linter.unusedSimpArgs false
set_option linter.unusedVariables false
open Go.RowKit

abbrev str (l : List UInt8) : Value := .string ⟨l.toArray⟩
theorem str_cat (a b : List UInt8) : (⟨a.toArray⟩ ++ ⟨b.toArray⟩ : ByteArray) = ⟨(a ++ b).toArray⟩ := ByteArray.mk_append_mk a b

end Go.Proofs.YtmdmbimfdpngaaaGreat
