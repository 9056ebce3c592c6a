import Derived.Test.YtiocdmfmghanmaaGreatDoorVmRunMath
import Derived.Test.YtiocdmfmghanmaaGreatDoorMk25
/-! One input after the other: what the law says. -/
namespace Vm
set_option linter.unusedSimpArgs false
set_option linter.unusedVariables false
open Ga
def resAt (l : List Ins) (c0 c1 : Val) (ins : List Val) (k : Nat) : Res := each l ⟨[], c0, c1, 0⟩ (ins.take k)
theorem resAt_succ (l : List Ins) (c0 c1 : Val) (ins : List Val) (k : Nat) (h : k < ins.length) :
    resAt l c0 c1 ins (k + 1) = ⟨(resAt l c0 c1 ins k).out ++ (each l ⟨[], (resAt l c0 c1 ins k).c0, (resAt l c0 c1 ins k).c1, 0⟩ [ins[k]]).out, (each l ⟨[], (resAt l c0 c1 ins k).c0, (resAt l c0 c1 ins k).c1, 0⟩ [ins[k]]).c0, (each l ⟨[], (resAt l c0 c1 ins k).c0, (resAt l c0 c1 ins k).c1, 0⟩ [ins[k]]).c1, (resAt l c0 c1 ins k).steps + (each l ⟨[], (resAt l c0 c1 ins k).c0, (resAt l c0 c1 ins k).c1, 0⟩ [ins[k]]).steps⟩ := by
  unfold resAt
  rw [each_succ l _ ins k h, go_alone]
  rfl
theorem resAt_right {l : List Ins} (hf : Co.fitsI l = true) {c0 c1 : Val} (h : ([c0, c1].all rightV) = true) {ins : List Val} {k : Nat} (hk : (ins.take k).all rightV = true) : ([(resAt l c0 c1 ins k).c0, (resAt l c0 c1 ins k).c1].all rightV) = true := by
  simp only [List.all_cons, List.all_nil, Bool.and_true, Bool.and_eq_true] at h ⊢
  exact each_right hf (ins.take k) _ h.1 h.2 hk
theorem resAt_bounds {l : List Ins} (h24 : l.length ≤ 24) (c0 c1 : Val) (ins : List Val) (k : Nat) (hk : k ≤ ins.length) : (resAt l c0 c1 ins k).out.length ≤ 25 * k ∧ 0 ≤ (resAt l c0 c1 ins k).steps ∧ (resAt l c0 c1 ins k).steps ≤ 25 * k := by
  have h1 := each_bounds h24 (ins.take k) ⟨[], c0, c1, 0⟩
  rw [List.length_take_of_le hk] at h1
  unfold resAt
  have e2 : (⟨[], c0, c1, 0⟩ : Res).out.length = 0 := rfl
  have e1 : (⟨[], c0, c1, 0⟩ : Res).steps = 0 := rfl
  omega
theorem each1_bounds {l : List Ins} (h24 : l.length ≤ 24) (c0 c1 : Val) (v : Val) : (each l ⟨[], c0, c1, 0⟩ [v]).out.length ≤ 25 ∧ 0 ≤ (each l ⟨[], c0, c1, 0⟩ [v]).steps ∧ (each l ⟨[], c0, c1, 0⟩ [v]).steps ≤ 25 := by
  have h1 := each_bounds h24 [v] ⟨[], c0, c1, 0⟩
  have e2 : (⟨[], c0, c1, 0⟩ : Res).out.length = 0 := rfl
  have e1 : (⟨[], c0, c1, 0⟩ : Res).steps = 0 := rfl
  simp only [List.length_cons, List.length_nil] at h1
  omega
theorem safe_fits {l : List Ins} (h : safe l = true) : Co.fitsI l = true := by
  unfold safe at h
  obtain ⟨c, hc⟩ := Option.isSome_iff_exists.1 h
  exact checkC_fits hc
def codeOf (l : List Ins) (c0 c1 : Val) (ins : List Val) : Int := if safe l = false then 9 else if ([c0, c1].all rightV && ins.all rightV) = false then 1 else 0
/-- what holds before input k -/
def Upto (l : List Ins) (c0 c1 : Val) (ins : List Val) (k : Nat) : Prop := 0 < k → safe l = true ∧ ([c0, c1].all rightV) = true ∧ (ins.take k).all rightV = true
theorem codeOf_zero {l : List Ins} {c0 c1 : Val} {ins : List Val} : codeOf l c0 c1 ins = 0 ↔ safe l = true ∧ ([c0, c1].all rightV) = true ∧ ins.all rightV = true := by
  unfold codeOf
  cases safe l <;> cases ([c0, c1].all rightV) <;> cases (ins.all rightV) <;> simp
theorem take_all {ins : List Val} {k : Nat} (h : ins.all rightV = true) : (ins.take k).all rightV = true := by
  rw [List.all_eq_true] at h ⊢
  exact fun x hx => h x (List.mem_of_mem_take hx)
theorem code_bad {l : List Ins} {c0 c1 : Val} {ins : List Val} {k : Nat} (hk : k < ins.length) (h : codeOf l (resAt l c0 c1 ins k).c0 (resAt l c0 c1 ins k).c1 [ins[k]] ≠ 0) : codeOf l c0 c1 ins = codeOf l (resAt l c0 c1 ins k).c0 (resAt l c0 c1 ins k).c1 [ins[k]] := by
  by_cases hs : safe l = true
  · have h1 : codeOf l (resAt l c0 c1 ins k).c0 (resAt l c0 c1 ins k).c1 [ins[k]] = 1 := by
      unfold codeOf at h ⊢
      rw [if_neg (by rw [hs]; decide)] at h ⊢
      split at h
      · rename_i hr; rw [if_pos hr]
      · exact absurd rfl h
    rw [h1]
    unfold codeOf
    rw [if_neg (by rw [hs]; decide)]
    split
    · rfl
    · rename_i hr
      exfalso
      simp only [Bool.not_eq_false, Bool.and_eq_true] at hr
      refine h (codeOf_zero.2 ⟨hs, resAt_right (safe_fits hs) hr.1 (take_all hr.2), ?_⟩)
      rw [List.all_cons, List.all_nil, Bool.and_true]
      exact List.all_eq_true.1 hr.2 _ (List.getElem_mem hk)
  · have hs' : safe l = false := by simpa using hs
    unfold codeOf
    rw [if_pos hs', if_pos hs']
theorem upto_succ {l : List Ins} {c0 c1 : Val} {ins : List Val} {k : Nat} (hk : k < ins.length) (hu : Upto l c0 c1 ins k) (h : codeOf l (resAt l c0 c1 ins k).c0 (resAt l c0 c1 ins k).c1 [ins[k]] = 0) : Upto l c0 c1 ins (k + 1) := by
  intro _
  obtain ⟨h1, h2, h3⟩ := codeOf_zero.1 h
  rw [List.all_cons, List.all_nil, Bool.and_true] at h3
  refine ⟨h1, ?_, ?_⟩
  · rcases Nat.eq_zero_or_pos k with e | e
    · subst e; exact h2
    · exact (hu e).2.1
  · rw [List.take_succ_eq_append_getElem hk, List.all_append, List.all_cons, List.all_nil, Bool.and_true, h3, Bool.and_true]
    rcases Nat.eq_zero_or_pos k with e | e
    · subst e; rfl
    · exact (hu e).2.2
theorem code_end {l : List Ins} {c0 c1 : Val} {ins : List Val} (hu : Upto l c0 c1 ins ins.length) (h : codeOf l c0 c1 ins ≠ 0) : ins.length = 0 := by
  apply Classical.byContradiction
  intro hn
  obtain ⟨h1, h2, h3⟩ := hu (by omega)
  rw [List.take_length] at h3
  exact h (codeOf_zero.2 ⟨h1, h2, h3⟩)
/-! the document's example -/
def exP : List Ins := [(3, 0), (4, 0), (6, 0), (11, 0), (5, 0), (14, 0)]
theorem exP_safe : safe exP = true := by decide +kernel
theorem exP_each : each exP ⟨[], (0, 0), (0, 0), 0⟩ [(1, 0), (2, 0)] = ⟨[(1, 0), (3, 0)], (3, 0), (0, 0), 12⟩ := by
  have h : ((each exP ⟨[], (0, 0), (0, 0), 0⟩ [(1, 0), (2, 0)]).out = [(1, 0), (3, 0)] ∧ (each exP ⟨[], (0, 0), (0, 0), 0⟩ [(1, 0), (2, 0)]).c0 = (3, 0)) ∧ ((each exP ⟨[], (0, 0), (0, 0), 0⟩ [(1, 0), (2, 0)]).c1 = (0, 0) ∧ (each exP ⟨[], (0, 0), (0, 0), 0⟩ [(1, 0), (2, 0)]).steps = 12) := by decide +kernel
  generalize each exP ⟨[], (0, 0), (0, 0), 0⟩ [(1, 0), (2, 0)] = r at *
  obtain ⟨a, b, c, d⟩ := r
  obtain ⟨⟨h1, h2⟩, h3, h4⟩ := h
  simp only at h1 h2 h3 h4
  rw [h1, h2, h3, h4]
end Vm

/-! The law CodeTexts, walked. -/
namespace Go.Proofs.YtiocdmfmghanmaaGreatDoor
set_option linter.unusedSimpArgs false
set_option linter.unusedVariables false
open Go.RowKit Ga
set_option maxRecDepth 100000

/-- What the library's tables hold, at layer 4. -/
structure Env4 (w : World) : Prop where
  m : CellM w
  e : Errs w
  p : Pow w
  a : Asc w
theorem Env4.grew {w w' : World} (h : Env4 w) (g : Grew w w') : Env4 w' := ⟨h.m.grew g, h.e.grew g, h.p.grew g, h.a.grew g⟩
theorem codeParse_env (l : List UInt8) (hs : l.length ≤ 1000000) (w : World) (h : Env4 w) :
    Calls Tryz.prog 17 #[.string ⟨l.toArray⟩] w (fun e w' => ∃ v, e = .returned (.tuple #[v, .int .i64 (Co.parseI l).2]) ∧ ValsAt w' v (Co.parseI l).1 ∧ Grew w w') :=
  codeParse_any l hs w h.m h.e h.p h.a
theorem codeText_env (v : Value) (l : List Val) (w : World) (hv : ValsAt w v l) (h : Env4 w) : Calls Tryz.prog 28 #[v] w (Gives (str (Co.textOut l)) w) := codeText_any v l w hv h.p h.a

def awakeS : List UInt8 := [73, 78, 59, 32, 69, 77, 73, 84]
theorem awakeS_text : Co.textI [(3, 0), (14, 0)] = awakeS := by decide +kernel
theorem awakeS_fits : Co.fitsI [(3, 0), (14, 0)] = true := by decide
theorem awakeS_parse : Co.parseI awakeS = ([(3, 0), (14, 0)], 0) := by rw [← awakeS_text]; exact Co.parse_text awakeS_fits
theorem awakeS_out : Co.textOut [(3, 0), (14, 0)] = awakeS := by unfold Co.textOut; rw [awakeS_fits, if_pos rfl]; exact awakeS_text


end Go.Proofs.YtiocdmfmghanmaaGreatDoor
