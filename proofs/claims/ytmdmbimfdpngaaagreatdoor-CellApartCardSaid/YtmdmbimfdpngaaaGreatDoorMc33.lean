import Derived.Test.YtmdmbimfdpngaaaGreatDoorMc32
import Derived.Test.YtmdmbimfdpngaaaGreatDoorMc24
import Derived.Test.YtmdmbimfdpngaaaGreatDoorMc31
import Derived.Test.YtmdmbimfdpngaaaGreatDoorMc23
import Derived.Test.YtmdmbimfdpngaaaGreatDoorMc8
/-! What holds at each round of a run. -/
namespace Vm
set_option linter.unusedSimpArgs false
set_option linter.unusedVariables false
open Ga

theorem goC_inv {p : List Ins} {c : Cst} : ∀ (l : List Ins) (k : Nat) (s : Cst), goC p l k s = some c → Inv s → Inv c
  | [], _, s, h, hi => by cases h; exact hi
  | i :: l, k, s, h, hi => by
    rw [goC] at h
    split at h
    · rename_i hk
      split at h
      · exact goC_inv l _ _ h (hi.step hk)
      · cases h
    · exact goC_inv l _ _ h hi
theorem checkC_inv {p : List Ins} {c : Cst} (h : checkC p = some c) : Inv c := by
  unfold checkC at h
  split at h
  · exact goC_inv p 0 _ h (Inv.start _)
  · cases h
theorem checkC_fits {p : List Ins} {c : Cst} (h : checkC p = some c) : Co.fitsI p = true := by
  unfold checkC at h
  split at h
  · assumption
  · cases h

theorem eff15 (inp : Val) (a : Int) (s : St) : effect inp (15, a) s = if zeroV (top1 s) then jump1 (pop1 s) a else pop1 s := rfl
/-- At each fetch. -/
structure At (l : List Ins) (c : Cst) (inp : Val) (s0 : St) (st : St) : Prop where
  dn : done l inp st = done l inp s0
  gd : Good l c st
  ot : st.out.length ≤ s0.out.length + st.pc
  s1 : s0.steps ≤ st.steps
  s2 : st.steps ≤ s0.steps + st.pc
  pc : st.pc ≤ 48
theorem At.len {l : List Ins} {c : Cst} (hc : checkC l = some c) {inp : Val} {s0 st : St} (h : At l c inp s0 st) (hp : st.pc < l.length) : st.stack.length ≤ 8 := by
  have h1 := h.gd hp
  have h2 := (checkC_inv hc).1 st.pc
  omega
theorem right_parts' {l : List Ins} {c : Cst} (hc : checkC l = some c) {k : Nat} {x a : Int} (hi : l[k]? = some (x, a)) : 0 ≤ x ∧ x ≤ 17 ∧ -524288 ≤ a ∧ a ≤ 524287 ∧ (x = 15 ∨ x = 16 → 1 ≤ a ∧ a ≤ 24) ∧ (x = 4 ∨ x = 5 → a = 0 ∨ a = 1) := by
  have hf := checkC_fits hc
  have h := (Co.fits_parts hf).2 _ (List.mem_of_getElem? hi)
  unfold Co.rightI Co.lo Co.hi at h
  simp only [Bool.and_eq_true, decide_eq_true_eq] at h
  grind
theorem At.next {l : List Ins} {c : Cst} (hc : checkC l = some c) {inp : Val} {s0 st : St} (h : At l c inp s0 st) {x a : Int} (hi : l[st.pc]? = some (x, a)) (hx : x ≠ 0) :
    takes x ≤ st.stack.length ∧ At l c inp s0 (effect inp (x, a) (fetch st)) ∧ st.pc < (effect inp (x, a) (fetch st)).pc := by
  have hf := checkC_fits hc
  obtain ⟨r0, r1, r2, r3, r4, r5⟩ := right_parts' hc hi
  have hlt : st.pc < l.length := (List.getElem?_eq_some_iff.1 hi).1
  have h24 := (Co.fits_parts hf).1
  obtain ⟨g1, g2⟩ := good_effect hc h.gd hi ⟨by omega, r1⟩ inp
  have hpc := effect_pc (s := fetch st) (a := a) ⟨show 1 ≤ x by omega, r1⟩ inp
  have hgt := effect_gt (p := l) (s := st) (a := a) ⟨show 1 ≤ x by omega, r1⟩ inp
  have hb := effect_bounds inp (x, a) (fetch st)
  have e1 : (fetch st).steps = st.steps + 1 := rfl
  have e2 : (fetch st).out = st.out := rfl
  have e3 : (fetch st).pc = st.pc + 1 := rfl
  rw [e1, e2] at hb
  rw [e3] at hpc
  have hle : (effect inp (x, a) (fetch st)).pc ≤ st.pc + 25 := by
    rw [hpc]
    by_cases h16 : x = 16
    · have := r4 (.inr h16); rw [if_pos h16]; omega
    · by_cases h15 : x = 15
      · have := r4 (.inl h15); rw [if_neg h16, if_pos h15]; split <;> omega
      · rw [if_neg h16, if_neg h15]; omega
  have := h.ot
  have := h.s1
  have := h.s2
  exact ⟨g1, ⟨(done_step (fits_op hf) hi hx).symm.trans h.dn, g2, by omega, by omega, by omega, by omega⟩, hgt⟩
end Vm

/-! One input after the other: what the law says. -/
namespace Vm
set_option linter.unusedSimpArgs false
set_option linter.unusedVariables false
open Ga
theorem safe_fits {l : List Ins} (h : safe l = true) : Co.fitsI l = true := by
  unfold safe at h
  obtain ⟨c, hc⟩ := Option.isSome_iff_exists.1 h
  exact checkC_fits hc
def codeOf (l : List Ins) (c0 c1 : Val) (ins : List Val) : Int := if safe l = false then 9 else if ([c0, c1].all rightV && ins.all rightV) = false then 1 else 0
/-- what holds before input k -/
def Upto (l : List Ins) (c0 c1 : Val) (ins : List Val) (k : Nat) : Prop := 0 < k → safe l = true ∧ ([c0, c1].all rightV) = true ∧ (ins.take k).all rightV = true
/-! the document's example -/
def exP : List Ins := [(3, 0), (4, 0), (6, 0), (11, 0), (5, 0), (14, 0)]
end Vm

/-! A program that runs for a record, on what is kept: plain laws. -/
namespace Go.Proofs.YtmdmbimfdpngaaaGreatDoor
set_option linter.unusedSimpArgs false
set_option linter.unusedVariables false
open Go.RowKit Ga
set_option maxRecDepth 100000

/-- what a program makes of two cells and a value -/
def runC (p : List Val) (c : Val × Val) (v : Val) : Vm.Res := Vm.each p ⟨[], c.1, c.2, 0⟩ [v]
/-- the code, what is put out, what is kept then -/
def runT (m : List Tab.En) (nd : Int) (p : List Val) (ky : Int) (v : Val) : Int × List Val × List Tab.En :=
  if (thereB nd ky && (thereB 0 ky && rightV v)) = false then (1, [], m)
  else if Vm.safe p = false then (9, [], m)
  else (0, (runC p (getT m nd ky) v).out, Tab.setT m ⟨nd, ky, (runC p (getT m nd ky) v).c0, (runC p (getT m nd ky) v).c1⟩)
theorem zer_right : rightV ((0, 0) : Val) = true := Vm.right_of (by decide) (by decide)
theorem getT_right {m : List Tab.En} (h : OkT m) (n k : Int) : rightV (getT m n k).1 = true ∧ rightV (getT m n k).2 = true := by
  rcases getT_cases m n k with ⟨x, hx, _, e⟩ | ⟨_, e⟩
  · rw [e]
    have := h.ok x hx
    unfold okEn at this
    simp only [Bool.and_eq_true] at this
    exact this.2
  · rw [e]
    exact ⟨zer_right, zer_right⟩
theorem runC_right {p : List Val} (hs : Vm.safe p = true) {c : Val × Val} (h0 : rightV c.1 = true) (h1 : rightV c.2 = true) {v : Val} (hv : rightV v = true) : rightV (runC p c v).c0 = true ∧ rightV (runC p c v).c1 = true := by
  unfold runC
  exact Vm.each_right (Vm.safe_fits hs) [v] _ h0 h1 (by simp [hv])
theorem runT_code (m : List Tab.En) (nd : Int) (p : List Val) (ky : Int) (v : Val) : (runT m nd p ky v).1 = if (thereB nd ky && (thereB 0 ky && rightV v)) = false then 1 else if Vm.safe p = false then 9 else 0 := by
  unfold runT
  split
  · rfl
  · split <;> rfl
theorem runT_ok {m : List Tab.En} (h : OkT m) (nd : Int) (p : List Val) (ky : Int) (v : Val) : OkT (runT m nd p ky v).2.2 := by
  unfold runT
  split
  · exact h
  · rename_i h1
    split
    · exact h
    · rename_i h2
      refine h.set ?_
      simp only [Bool.not_eq_false, Bool.and_eq_true] at h1 h2
      obtain ⟨r0, r1⟩ := getT_right h nd ky
      obtain ⟨q0, q1⟩ := runC_right h2 r0 r1 h1.2.2
      unfold okEn
      rw [h1.1, q0, q1]
      rfl
/-- what is kept at another place stays -/
theorem runT_other {m : List Tab.En} (h : OkT m) {nd : Int} {p : List Val} {ky : Int} {v : Val} {n k : Int} (hne : nd * 64 + ky ≠ n * 64 + k) : getT (runT m nd p ky v).2.2 n k = getT m n k := by
  unfold runT
  split
  · rfl
  · split
    · rfl
    · simp only
      rw [getT_set h.un]
      exact if_neg hne
theorem runT_far {m : List Tab.En} (h : OkT m) {nd : Int} {p : List Val} {ky : Int} {v : Val} {n k : Int} (hk : 0 ≤ k ∧ k < 64) (hne : nd ≠ n ∨ ky ≠ k) : getT (runT m nd p ky v).2.2 n k = getT m n k := by
  cases ht : thereB nd ky
  · unfold runT
    rw [if_pos (by rw [ht]; rfl)]
  · have hth := (thereB_iff (x := ⟨nd, ky, v, v⟩)).1 ht
    unfold There at hth
    simp only at hth
    exact runT_other h (by omega)
theorem runT_self {m : List Tab.En} (h : OkT m) {nd : Int} {p : List Val} {ky : Int} {v : Val} (h0 : (runT m nd p ky v).1 = 0) : getT (runT m nd p ky v).2.2 nd ky = ((runC p (getT m nd ky) v).c0, (runC p (getT m nd ky) v).c1) ∧ (runT m nd p ky v).2.1 = (runC p (getT m nd ky) v).out := by
  unfold runT at h0 ⊢
  split
  · rw [if_pos (by assumption)] at h0; cases h0
  · rw [if_neg (by assumption)] at h0
    split
    · rw [if_pos (by assumption)] at h0; cases h0
    · simp only
      rw [getT_set h.un]
      exact ⟨if_pos rfl, trivial⟩
theorem runT_bad {m : List Tab.En} {nd : Int} {p : List Val} {ky : Int} {v : Val} (h0 : (runT m nd p ky v).1 ≠ 0) : (runT m nd p ky v).2 = ([], m) := by
  unfold runT at h0 ⊢
  split
  · rfl
  · rw [if_neg (by assumption)] at h0
    split
    · rfl
    · rw [if_neg (by assumption)] at h0
      exact absurd rfl h0
theorem runT_code_of {m m' : List Tab.En} {nd : Int} {p : List Val} {ky : Int} {v : Val} : (runT m nd p ky v).1 = (runT m' nd p ky v).1 := by rw [runT_code, runT_code]
/-- who answers alike puts out the same -/
theorem runT_out_of {m m' : List Tab.En} {nd : Int} {p : List Val} {ky : Int} {v : Val} (h : getT m nd ky = getT m' nd ky) : (runT m nd p ky v).2.1 = (runT m' nd p ky v).2.1 := by
  unfold runT
  split
  · rfl
  · split
    · rfl
    · simp only
      rw [h]
/-- THE LAW of CellApart: at one node, two unlike keys: in whatever order -/
theorem runT_swap {m : List Tab.En} (ho : OkT m) (nd : Int) (p : List Val) (k0 k1 : Int) (v0 v1 : Val) (hne : k0 ≠ k1) :
    (runT m nd p k0 v0).1 = (runT (runT m nd p k1 v1).2.2 nd p k0 v0).1 ∧ (runT (runT m nd p k0 v0).2.2 nd p k1 v1).1 = (runT m nd p k1 v1).1 ∧
    (runT m nd p k0 v0).2.1 = (runT (runT m nd p k1 v1).2.2 nd p k0 v0).2.1 ∧ (runT (runT m nd p k0 v0).2.2 nd p k1 v1).2.1 = (runT m nd p k1 v1).2.1 ∧
    (runT (runT m nd p k0 v0).2.2 nd p k1 v1).2.2.Perm (runT (runT m nd p k1 v1).2.2 nd p k0 v0).2.2 := by
  have e0 : nd * 64 + k0 ≠ nd * 64 + k1 := by omega
  have e1 : nd * 64 + k1 ≠ nd * 64 + k0 := by omega
  refine ⟨runT_code_of, runT_code_of, runT_out_of (runT_other ho e1).symm, runT_out_of (runT_other ho e0), ?_⟩
  have o0 := runT_ok ho nd p k0 v0
  have o1 := runT_ok ho nd p k1 v1
  refine (runT_ok o0 nd p k1 v1).perm (runT_ok o1 nd p k0 v0) fun n k a b c d => ?_
  by_cases h0 : nd * 64 + k0 = n * 64 + k
  · have h1 : nd * 64 + k1 ≠ n * 64 + k := by omega
    rw [runT_other o0 h1]
    by_cases hz : (runT m nd p k0 v0).1 = 0
    · have hz' : (runT (runT m nd p k1 v1).2.2 nd p k0 v0).1 = 0 := by rw [← hz]; exact runT_code_of
      have f : ∀ m', getT m' n k = getT m' nd k0 := fun m' => by unfold getT; rw [h0]
      rw [f, f, (runT_self ho hz).1, (runT_self o1 hz').1, runT_other ho e1]
    · have hz' : (runT (runT m nd p k1 v1).2.2 nd p k0 v0).1 ≠ 0 := by rw [← runT_code_of (m := m)]; exact hz
      rw [show (runT m nd p k0 v0).2.2 = m by rw [runT_bad hz], show (runT (runT m nd p k1 v1).2.2 nd p k0 v0).2.2 = (runT m nd p k1 v1).2.2 by rw [runT_bad hz'], runT_other ho h1]
  · rw [runT_other o1 h0]
    by_cases h1 : nd * 64 + k1 = n * 64 + k
    · by_cases hz : (runT m nd p k1 v1).1 = 0
      · have hz' : (runT (runT m nd p k0 v0).2.2 nd p k1 v1).1 = 0 := by rw [← hz]; exact runT_code_of
        have f : ∀ m', getT m' n k = getT m' nd k1 := fun m' => by unfold getT; rw [h1]
        rw [f, f, (runT_self o0 hz').1, (runT_self ho hz).1, runT_other ho e0]
      · have hz' : (runT (runT m nd p k0 v0).2.2 nd p k1 v1).1 ≠ 0 := by rw [← runT_code_of (m := m)]; exact hz
        rw [show (runT (runT m nd p k0 v0).2.2 nd p k1 v1).2.2 = (runT m nd p k0 v0).2.2 by rw [runT_bad hz'], show (runT m nd p k1 v1).2.2 = m by rw [runT_bad hz], runT_other ho h0]
    · rw [runT_other o0 h1, runT_other ho h0, runT_other ho h1]
end Go.Proofs.YtmdmbimfdpngaaaGreatDoor

/-! vm: values that may not be. -/
namespace Go.Proofs.YtmdmbimfdpngaaaGreatDoor
set_option linter.unusedSimpArgs false
set_option linter.unusedVariables false
open Go.RowKit Ga
set_option maxRecDepth 100000

theorem wrong_any (x y : Int) (w : World) : Calls Tryz.prog 125 #[.agg #[.int .i64 x, .int .i64 y]] w (Gives (.bool (!rightV (x, y))) w) := by
  go_enter Tryz.func125, Tryz.ntmps125
  go_wp2_with (go_at_call 53; refine (right_any (x, y) _).mono ?_; rintro e w1 ⟨rfl, R2, n2, rfl⟩)
  go_ret
  refine ⟨rfl, ?_⟩
  repeat (first | with_reducible exact Grew.refl _ | apply Grew.more | apply Grew.alloc | apply Grew.drew | apply Grew.drewN)

set_option maxHeartbeats 1000000 in
/-- .. where the first wrong value stands. -/
theorem indexWrongV_any (v : Value) (l : List Val) (w : World) (hv : ValsAt w v l) :
    Calls Tryz.prog 167 #[v, .func (.func 125) #[] #[]] w fun e w' => ∃ k : Int, e = .returned (.int .i64 k) ∧ decide (0 ≤ k) = !l.all rightV ∧ Grew w w' := by
  obtain ⟨a, cap, rfl, hm, hl⟩ := hv.open2
  go_enter Tryz.func167, Tryz.ntmps167
  go_wp2
  go_loopw [8] (fun i wr => ∃ (k : Nat), k ≤ l.length ∧ i = .int .i64 k ∧ (l.take k).all rightV = true ∧ Grew w wr) (fun i _ => l.length - (intOf i).toNat)
  case atStart => exact ⟨0, Nat.zero_le _, rfl, rfl, Grew.refl _⟩
  case round =>
    obtain ⟨k, hk, rfl, hall, R, n, rfl⟩ := hrel
    have HA := Lib.hid hall
    clear hall
    by_cases hlt : k < l.length
    · obtain ⟨b, off, rfl, hb, hx, hy⟩ := hl k hlt
      have hs := take_all_succ (p := rightV) hlt HA.out
      have hf := all_false_at (p := rightV) hlt
      generalize l[k] = xy at *
      obtain ⟨x, y⟩ := xy
      cases hr : rightV (x, y)
      all_goals
        have HS := Lib.hid hs
        have HF := Lib.hid hf
        have HR := Lib.hid hr
        clear hs hl hf hr
        simp only at hx hy
        go_wp2_with (go_at_call 125; refine (wrong_any _ _ _).mono ?_; rintro e w1 ⟨rfl, R3, n3, rfl⟩; rw [HR.out])
      · go_ret
        refine ⟨k, rfl, ?_, ?_⟩
        · rw [HF.out HR.out]; simp
        · repeat (first | with_reducible exact Grew.refl _ | apply Grew.more | apply Grew.alloc | apply Grew.drew | apply Grew.drewN)
      · go_roundw
        case rel => exact ⟨k + 1, by omega, by go_num, HS.out HR.out, by repeat (first | with_reducible exact Grew.refl _ | apply Grew.more | apply Grew.alloc | apply Grew.drew | apply Grew.drewN)⟩
        case measure => first | (simp [intOf]; done) | (simp [intOf]; omega)
    · obtain rfl : k = l.length := by omega
      have hz := HA.out
      rw [List.take_length] at hz
      have HZ := Lib.hid hz
      clear hz hl HA
      go_wp2
      go_ret
      refine ⟨-1, rfl, ?_, ?_⟩
      · rw [HZ.out]; rfl
      · repeat (first | with_reducible exact Grew.refl _ | apply Grew.more | apply Grew.alloc | apply Grew.drew | apply Grew.drewN)

theorem containsWrongV_any (v : Value) (l : List Val) (w : World) (hv : ValsAt w v l) :
    Calls Tryz.prog 124 #[v, .func (.func 125) #[] #[]] w (Gives (.bool (!l.all rightV)) w) := by
  have HV := Lib.hid hv
  clear hv
  go_enter Tryz.func124, Tryz.ntmps124
  go_wp2_with (go_at_call 167; refine (indexWrongV_any _ l _ HV.out).mono ?_; rintro e w1 ⟨k, rfl, hk, R3, n3, rfl⟩; (have HK := Lib.hid hk); clear hk)
  go_ret
  refine ⟨ret_bool HK.out, ?_⟩
  repeat (first | with_reducible exact Grew.refl _ | apply Grew.more | apply Grew.alloc | apply Grew.drew | apply Grew.drewN)

end Go.Proofs.YtmdmbimfdpngaaaGreatDoor
