import Derived.Test.YtiocdmfmghanmaaGreatDoorMg23
import Derived.Test.YtiocdmfmghanmaaGreatDoorMg19
import Derived.Test.YtiocdmfmghanmaaGreatDoorMg29
import Derived.ChangeKeysEq
/-! One input after the other: what the law says. -/
namespace Vm
set_option linter.unusedSimpArgs false
set_option linter.unusedVariables false
open Ga
def resAt (l : List Ins) (c0 c1 : Val) (ins : List Val) (k : Nat) : Res := each l ⟨[], c0, c1, 0⟩ (ins.take k)
theorem resAt_succ (l : List Ins) (c0 c1 : Val) (ins : List Val) (k : Nat) (h : k < ins.length) :
    resAt l c0 c1 ins (k + 1) = ⟨(resAt l c0 c1 ins k).out ++ (each l ⟨[], (resAt l c0 c1 ins k).c0, (resAt l c0 c1 ins k).c1, 0⟩ [ins[k]]).out, (each l ⟨[], (resAt l c0 c1 ins k).c0, (resAt l c0 c1 ins k).c1, 0⟩ [ins[k]]).c0, (each l ⟨[], (resAt l c0 c1 ins k).c0, (resAt l c0 c1 ins k).c1, 0⟩ [ins[k]]).c1, (resAt l c0 c1 ins k).steps + (each l ⟨[], (resAt l c0 c1 ins k).c0, (resAt l c0 c1 ins k).c1, 0⟩ [ins[k]]).steps⟩ := by
  unfold resAt
  rw [each_succ l _ ins k h, go_alone]
  rfl
theorem resAt_right {l : List Ins} (hf : Co.fitsI l = true) {c0 c1 : Val} (h : ([c0, c1].all rightV) = true) {ins : List Val} {k : Nat} (hk : (ins.take k).all rightV = true) : ([(resAt l c0 c1 ins k).c0, (resAt l c0 c1 ins k).c1].all rightV) = true := by
  simp only [List.all_cons, List.all_nil, Bool.and_true, Bool.and_eq_true] at h ⊢
  exact each_right hf (ins.take k) _ h.1 h.2 hk
theorem resAt_bounds {l : List Ins} (h24 : l.length ≤ 24) (c0 c1 : Val) (ins : List Val) (k : Nat) (hk : k ≤ ins.length) : (resAt l c0 c1 ins k).out.length ≤ 25 * k ∧ 0 ≤ (resAt l c0 c1 ins k).steps ∧ (resAt l c0 c1 ins k).steps ≤ 25 * k := by
  have h1 := each_bounds h24 (ins.take k) ⟨[], c0, c1, 0⟩
  rw [List.length_take_of_le hk] at h1
  unfold resAt
  have e2 : (⟨[], c0, c1, 0⟩ : Res).out.length = 0 := rfl
  have e1 : (⟨[], c0, c1, 0⟩ : Res).steps = 0 := rfl
  omega
theorem each1_bounds {l : List Ins} (h24 : l.length ≤ 24) (c0 c1 : Val) (v : Val) : (each l ⟨[], c0, c1, 0⟩ [v]).out.length ≤ 25 ∧ 0 ≤ (each l ⟨[], c0, c1, 0⟩ [v]).steps ∧ (each l ⟨[], c0, c1, 0⟩ [v]).steps ≤ 25 := by
  have h1 := each_bounds h24 [v] ⟨[], c0, c1, 0⟩
  have e2 : (⟨[], c0, c1, 0⟩ : Res).out.length = 0 := rfl
  have e1 : (⟨[], c0, c1, 0⟩ : Res).steps = 0 := rfl
  simp only [List.length_cons, List.length_nil] at h1
  omega
theorem safe_fits {l : List Ins} (h : safe l = true) : Co.fitsI l = true := by
  unfold safe at h
  obtain ⟨c, hc⟩ := Option.isSome_iff_exists.1 h
  exact checkC_fits hc
def codeOf (l : List Ins) (c0 c1 : Val) (ins : List Val) : Int := if safe l = false then 9 else if ([c0, c1].all rightV && ins.all rightV) = false then 1 else 0
/-- what holds before input k -/
def Upto (l : List Ins) (c0 c1 : Val) (ins : List Val) (k : Nat) : Prop := 0 < k → safe l = true ∧ ([c0, c1].all rightV) = true ∧ (ins.take k).all rightV = true
theorem codeOf_zero {l : List Ins} {c0 c1 : Val} {ins : List Val} : codeOf l c0 c1 ins = 0 ↔ safe l = true ∧ ([c0, c1].all rightV) = true ∧ ins.all rightV = true := by
  unfold codeOf
  cases safe l <;> cases ([c0, c1].all rightV) <;> cases (ins.all rightV) <;> simp
theorem take_all {ins : List Val} {k : Nat} (h : ins.all rightV = true) : (ins.take k).all rightV = true := by
  rw [List.all_eq_true] at h ⊢
  exact fun x hx => h x (List.mem_of_mem_take hx)
theorem code_bad {l : List Ins} {c0 c1 : Val} {ins : List Val} {k : Nat} (hk : k < ins.length) (h : codeOf l (resAt l c0 c1 ins k).c0 (resAt l c0 c1 ins k).c1 [ins[k]] ≠ 0) : codeOf l c0 c1 ins = codeOf l (resAt l c0 c1 ins k).c0 (resAt l c0 c1 ins k).c1 [ins[k]] := by
  by_cases hs : safe l = true
  · have h1 : codeOf l (resAt l c0 c1 ins k).c0 (resAt l c0 c1 ins k).c1 [ins[k]] = 1 := by
      unfold codeOf at h ⊢
      rw [if_neg (by rw [hs]; decide)] at h ⊢
      split at h
      · rename_i hr; rw [if_pos hr]
      · exact absurd rfl h
    rw [h1]
    unfold codeOf
    rw [if_neg (by rw [hs]; decide)]
    split
    · rfl
    · rename_i hr
      exfalso
      simp only [Bool.not_eq_false, Bool.and_eq_true] at hr
      refine h (codeOf_zero.2 ⟨hs, resAt_right (safe_fits hs) hr.1 (take_all hr.2), ?_⟩)
      rw [List.all_cons, List.all_nil, Bool.and_true]
      exact List.all_eq_true.1 hr.2 _ (List.getElem_mem hk)
  · have hs' : safe l = false := by simpa using hs
    unfold codeOf
    rw [if_pos hs', if_pos hs']
theorem upto_succ {l : List Ins} {c0 c1 : Val} {ins : List Val} {k : Nat} (hk : k < ins.length) (hu : Upto l c0 c1 ins k) (h : codeOf l (resAt l c0 c1 ins k).c0 (resAt l c0 c1 ins k).c1 [ins[k]] = 0) : Upto l c0 c1 ins (k + 1) := by
  intro _
  obtain ⟨h1, h2, h3⟩ := codeOf_zero.1 h
  rw [List.all_cons, List.all_nil, Bool.and_true] at h3
  refine ⟨h1, ?_, ?_⟩
  · rcases Nat.eq_zero_or_pos k with e | e
    · subst e; exact h2
    · exact (hu e).2.1
  · rw [List.take_succ_eq_append_getElem hk, List.all_append, List.all_cons, List.all_nil, Bool.and_true, h3, Bool.and_true]
    rcases Nat.eq_zero_or_pos k with e | e
    · subst e; rfl
    · exact (hu e).2.2
theorem code_end {l : List Ins} {c0 c1 : Val} {ins : List Val} (hu : Upto l c0 c1 ins ins.length) (h : codeOf l c0 c1 ins ≠ 0) : ins.length = 0 := by
  apply Classical.byContradiction
  intro hn
  obtain ⟨h1, h2, h3⟩ := hu (by omega)
  rw [List.take_length] at h3
  exact h (codeOf_zero.2 ⟨h1, h2, h3⟩)
/-! the document's example -/
def exP : List Ins := [(3, 0), (4, 0), (6, 0), (11, 0), (5, 0), (14, 0)]
theorem exP_safe : safe exP = true := by decide +kernel
theorem exP_each : each exP ⟨[], (0, 0), (0, 0), 0⟩ [(1, 0), (2, 0)] = ⟨[(1, 0), (3, 0)], (3, 0), (0, 0), 12⟩ := by
  have h : ((each exP ⟨[], (0, 0), (0, 0), 0⟩ [(1, 0), (2, 0)]).out = [(1, 0), (3, 0)] ∧ (each exP ⟨[], (0, 0), (0, 0), 0⟩ [(1, 0), (2, 0)]).c0 = (3, 0)) ∧ ((each exP ⟨[], (0, 0), (0, 0), 0⟩ [(1, 0), (2, 0)]).c1 = (0, 0) ∧ (each exP ⟨[], (0, 0), (0, 0), 0⟩ [(1, 0), (2, 0)]).steps = 12) := by decide +kernel
  generalize each exP ⟨[], (0, 0), (0, 0), 0⟩ [(1, 0), (2, 0)] = r at *
  obtain ⟨a, b, c, d⟩ := r
  obtain ⟨⟨h1, h2⟩, h3, h4⟩ := h
  simp only at h1 h2 h3 h4
  rw [h1, h2, h3, h4]
end Vm

/-! The law CodeTexts, walked. -/
namespace Go.Proofs.YtiocdmfmghanmaaGreatDoor
set_option linter.unusedSimpArgs false
set_option linter.unusedVariables false
open Go.RowKit Ga
set_option maxRecDepth 100000

/-- What the library's tables hold, at layer 4. -/
structure Env4 (w : World) : Prop where
  m : CellM w
  e : Errs w
  p : Pow w
  a : Asc w
theorem Env4.grew {w w' : World} (h : Env4 w) (g : Grew w w') : Env4 w' := ⟨h.m.grew g, h.e.grew g, h.p.grew g, h.a.grew g⟩
theorem codeParse_env (l : List UInt8) (hs : l.length ≤ 1000000) (w : World) (h : Env4 w) :
    Calls Tryz.prog 17 #[.string ⟨l.toArray⟩] w (fun e w' => ∃ v, e = .returned (.tuple #[v, .int .i64 (Co.parseI l).2]) ∧ ValsAt w' v (Co.parseI l).1 ∧ Grew w w') :=
  codeParse_any l hs w h.m h.e h.p h.a
theorem codeText_env (v : Value) (l : List Val) (w : World) (hv : ValsAt w v l) (h : Env4 w) : Calls Tryz.prog 28 #[v] w (Gives (str (Co.textOut l)) w) := codeText_any v l w hv h.p h.a

def awakeS : List UInt8 := [73, 78, 59, 32, 69, 77, 73, 84]
theorem awakeS_text : Co.textI [(3, 0), (14, 0)] = awakeS := by decide +kernel
theorem awakeS_fits : Co.fitsI [(3, 0), (14, 0)] = true := by decide
theorem awakeS_parse : Co.parseI awakeS = ([(3, 0), (14, 0)], 0) := by rw [← awakeS_text]; exact Co.parse_text awakeS_fits
theorem awakeS_out : Co.textOut [(3, 0), (14, 0)] = awakeS := by unfold Co.textOut; rw [awakeS_fits, if_pos rfl]; exact awakeS_text


end Go.Proofs.YtiocdmfmghanmaaGreatDoor

/-! The document's example of layer 6; the law VmEach, walked. -/
namespace Go.Proofs.YtiocdmfmghanmaaGreatDoor
set_option linter.unusedSimpArgs false
set_option linter.unusedVariables false
open Go.RowKit Ga
set_option maxRecDepth 100000

def awake6S : List UInt8 := [73, 78, 59, 32, 76, 79, 65, 68, 32, 48, 59, 32, 65, 68, 68, 59, 32, 68, 85, 80, 59, 32, 83, 84, 79, 82, 69, 32, 48, 59, 32, 69, 77, 73, 84]
theorem awake6_text : Co.textI Vm.exP = awake6S := by decide +kernel
theorem awake6_fits : Co.fitsI Vm.exP = true := by decide
theorem awake6_parse : Co.parseI awake6S = (Vm.exP, 0) := by rw [← awake6_text]; exact Co.parse_text awake6_fits
theorem each_ok {l : List Val} {c0 c1 : Val} {ins : List Val} {w w' : World} {e : Ending} (h : EachGives l c0 c1 ins w e w') (hs : Vm.safe l = true) (hr : ([c0, c1].all rightV && ins.all rightV) = true) :
    Grew w w' ∧ ∃ vo, e = .returned (.tuple #[resV vo (Vm.each l (start0 c0 c1) ins), .int .i64 0]) ∧ OwnAt w.heap.size 24 2 encI w' vo (Vm.each l (start0 c0 c1) ins).out := by
  obtain ⟨h1, h⟩ := h
  rw [if_neg (by rw [hs]; decide), if_neg (by rw [hr]; decide)] at h
  exact ⟨h1, h⟩

theorem EachGives.coded {l : List Val} {c0 c1 : Val} {ins : List Val} {w w' : World} {ao : Option Addr} {no co : Nat} {n1 n2 n3 n4 n5 err : Int} (h : EachGives l c0 c1 ins w (.returned (.tuple #[.agg #[.slice ao no co, .int .i64 n1, .int .i64 n2, .int .i64 n3, .int .i64 n4, .int .i64 n5], .int .i64 err])) w') :
    err = Vm.codeOf l c0 c1 ins ∧ (err ≠ 0 → no = 0 ∧ n5 = 0) ∧ (err = 0 → OwnAt w.heap.size 24 2 encI w' (.slice ao no co) (Vm.each l ⟨[], c0, c1, 0⟩ ins).out ∧ n1 = (Vm.each l ⟨[], c0, c1, 0⟩ ins).c0.1 ∧ n2 = (Vm.each l ⟨[], c0, c1, 0⟩ ins).c0.2 ∧ n3 = (Vm.each l ⟨[], c0, c1, 0⟩ ins).c1.1 ∧ n4 = (Vm.each l ⟨[], c0, c1, 0⟩ ins).c1.2 ∧ n5 = (Vm.each l ⟨[], c0, c1, 0⟩ ins).steps) := by
  obtain ⟨_, h⟩ := h
  unfold Vm.codeOf
  split at h
  · rename_i hs
    rw [if_pos hs]
    unfold zeroR at h
    cases h
    exact ⟨rfl, fun _ => ⟨rfl, rfl⟩, fun h => by cases h⟩
  · rename_i hs
    rw [if_neg hs]
    split at h
    · rename_i hr
      rw [if_pos hr]
      unfold zeroR at h
      cases h
      exact ⟨rfl, fun _ => ⟨rfl, rfl⟩, fun h => by cases h⟩
    · rename_i hr
      rw [if_neg hr]
      obtain ⟨vo, he, ho⟩ := h
      unfold resV start0 at he
      cases he
      exact ⟨rfl, fun h => absurd rfl h, fun _ => ⟨ho, rfl, rfl, rfl, rfl, rfl⟩⟩

set_option maxHeartbeats 4000000 in
theorem awake06_any (w : World) (h : Env4 w) : Calls Tryz.prog 7 #[] w (Gives (.bool true) w) := by
  have HE := Lib.hid h
  clear h
  have hE := fun (v : Value) (w : World) (hv : ValsAt w v Vm.exP) (vi : Value) (hi : ValsAt w vi [(1, 0), (2, 0)]) => (each_any v vi Vm.exP [(1, 0), (2, 0)] 0 0 0 0 w hv hi (by decide)).mono fun e w' h => each_ok h Vm.exP_safe (by decide)
  rw [show Vm.each Vm.exP (start0 (0, 0) (0, 0)) [(1, 0), (2, 0)] = ⟨[(1, 0), (3, 0)], (3, 0), (0, 0), 12⟩ from Vm.exP_each] at hE
  have HEA := Lib.hid hE
  clear hE
  go_enter Tryz.func7, Tryz.ntmps7
  go_wp2_with (first
    | (go_at_call 17; refine (codeParse_env awake6S (by decide) _ (HE.out.grew (by repeat (first | with_reducible exact Grew.refl _ | apply Grew.more | apply Grew.alloc | apply Grew.drew | apply Grew.drewN)))).mono ?_; rintro e w1 ⟨v, rfl, hv, R3, n3, rfl⟩; rw [awake6_parse] at hv ⊢; (have HV := Lib.hid hv); clear hv)
    | (go_at_call 19; go_loud (refine (HEA.out _ _ (HV.out.grew (by repeat (first | with_reducible exact Grew.refl _ | apply Grew.more | apply Grew.alloc | apply Grew.drew | apply Grew.drewN))) _ (vals2 _ _ _ _ _ _ _ (by simp [go_sem]))).mono ?_); rintro e w1 ⟨⟨R4, n4, hw4⟩, vo, rfl, ho⟩; subst hw4; obtain ⟨bo, co, rfl⟩ := own_some' ho (by decide); (have hvo := ho.rows encI_len); obtain ⟨a5, c5, e5, _, hx5⟩ := RowsAt.open2 (f := fun a : Val => Value.int .i64 a.1) (g := fun a : Val => Value.int .i64 a.2) hvo; cases e5; obtain ⟨b5, off5, e6, hb5, h50, h51⟩ := hx5 1 (by decide); cases e6; simp at h50 h51; unfold resV; clear ho hvo hx5)
    )
  go_ret
  refine ⟨rfl, ?_⟩
  repeat (first | with_reducible exact Grew.refl _ | apply Grew.more | apply Grew.alloc | apply Grew.drew | apply Grew.drewN)

theorem keepT_of {w0 W W' : World} {e : TypeId} {base k : Nat} {enc : Val → List Value} {v v' : Value} {l l' : List Val} (h : Appended w0 e k enc W v l' v' W') (ho : OwnAt base e k enc W v l) {q : Nat} {c : Array Value} {t : TypeId} (hq : W.heap[q]? = some (.cells c t)) (ht : t ≠ e) : W'.heap[q]? = some (.cells c t) :=
  (h.2.2.2.1 q (heap_lt hq) (ho.other hq ht)).trans hq
theorem appended_other {w0 W W1 W' : World} {e : TypeId} {base2 k : Nat} {enc : Val → List Value} {v v' u : Value} {l' m : List Val} (h : Appended w0 e k enc W v l' v' W') (g : Grew W1 W) (o1 : OwnAt base2 e k enc W1 u m) (o2 : ∀ q, v.ownBlock = some q → u.ownBlock ≠ some q) :
    OwnAt base2 e k enc W' u m ∧ (∀ q, v'.ownBlock = some q → u.ownBlock ≠ some q) := by
  have o3 := o1.grew g
  have hlt : ∀ q, u.ownBlock = some q → q < W.heap.size := fun q hq => let ⟨_, _, hc⟩ := o3.block hq; heap_lt hc
  refine ⟨o3.same fun q hq => h.2.2.2.1 q (hlt q hq) fun e => o2 q e hq, fun q hq hu => ?_⟩
  rcases h.2.2.2.2 q hq with h1 | h1
  · exact o2 q h1 hu
  · have := hlt q hu
    omega
theorem cellsV : Tryz.prog.cellsOf 24 = 2 := by kernel_rfl
theorem run_eql_arr (a b c d : Int) (w : World) : (binOp .eql 25 (.agg #[.int .i64 a, .int .i64 b, .int .i64 c, .int .i64 d]) (.agg #[.int .i64 a, .int .i64 b, .int .i64 c, .int .i64 d])).run Tryz.prog w = .ok (.bool true) w := by
  have h : (Op.equalIn 10000 25 (.agg #[.int .i64 a, .int .i64 b, .int .i64 c, .int .i64 d]) (.agg #[.int .i64 a, .int .i64 b, .int .i64 c, .int .i64 d])).run Tryz.prog w = .ok true w := by
    obtain ⟨i, hi, _⟩ := info_parts infoVal
    have h0 := run_equalIn_array (P := Tryz.prog) (w := w) 9999 #[.int .i64 a, .int .i64 b, .int .i64 c, .int .i64 d] #[.int .i64 a, .int .i64 b, .int .i64 c, .int .i64 d] Tryz.underlying25 hi
    rw [h0, show List.range 2 = [0, 1] from rfl, cellsV]
    simp [Op.eqItems, go_sem, Tryz.underlying24, Tryz.underlying3]
  simp [go_sem, h]

end Go.Proofs.YtiocdmfmghanmaaGreatDoor
