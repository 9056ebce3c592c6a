import Derived.Test.YtiocdmfmghanmaaGreatDoorMk38
import Derived.Test.YtiocdmfmghanmaaGreatDoorMk39
import Derived.ChangeKeysEq
/-! The document's example of layer 6; the law VmEach, walked. -/
namespace Go.Proofs.YtiocdmfmghanmaaGreatDoor
set_option linter.unusedSimpArgs false
set_option linter.unusedVariables false
open Go.RowKit Ga
set_option maxRecDepth 100000

def awake6S : List UInt8 := [73, 78, 59, 32, 76, 79, 65, 68, 32, 48, 59, 32, 65, 68, 68, 59, 32, 68, 85, 80, 59, 32, 83, 84, 79, 82, 69, 32, 48, 59, 32, 69, 77, 73, 84]
theorem awake6_text : Co.textI Vm.exP = awake6S := by decide +kernel
theorem awake6_fits : Co.fitsI Vm.exP = true := by decide
theorem awake6_parse : Co.parseI awake6S = (Vm.exP, 0) := by rw [← awake6_text]; exact Co.parse_text awake6_fits
theorem each_ok {l : List Val} {c0 c1 : Val} {ins : List Val} {w w' : World} {e : Ending} (h : EachGives l c0 c1 ins w e w') (hs : Vm.safe l = true) (hr : ([c0, c1].all rightV && ins.all rightV) = true) :
    Grew w w' ∧ ∃ vo, e = .returned (.tuple #[resV vo (Vm.each l (start0 c0 c1) ins), .int .i64 0]) ∧ OwnAt w.heap.size 24 2 encI w' vo (Vm.each l (start0 c0 c1) ins).out := by
  obtain ⟨h1, h⟩ := h
  rw [if_neg (by rw [hs]; decide), if_neg (by rw [hr]; decide)] at h
  exact ⟨h1, h⟩

theorem EachGives.coded {l : List Val} {c0 c1 : Val} {ins : List Val} {w w' : World} {ao : Option Addr} {no co : Nat} {n1 n2 n3 n4 n5 err : Int} (h : EachGives l c0 c1 ins w (.returned (.tuple #[.agg #[.slice ao no co, .int .i64 n1, .int .i64 n2, .int .i64 n3, .int .i64 n4, .int .i64 n5], .int .i64 err])) w') :
    err = Vm.codeOf l c0 c1 ins ∧ (err ≠ 0 → no = 0 ∧ n5 = 0) ∧ (err = 0 → OwnAt w.heap.size 24 2 encI w' (.slice ao no co) (Vm.each l ⟨[], c0, c1, 0⟩ ins).out ∧ n1 = (Vm.each l ⟨[], c0, c1, 0⟩ ins).c0.1 ∧ n2 = (Vm.each l ⟨[], c0, c1, 0⟩ ins).c0.2 ∧ n3 = (Vm.each l ⟨[], c0, c1, 0⟩ ins).c1.1 ∧ n4 = (Vm.each l ⟨[], c0, c1, 0⟩ ins).c1.2 ∧ n5 = (Vm.each l ⟨[], c0, c1, 0⟩ ins).steps) := by
  obtain ⟨_, h⟩ := h
  unfold Vm.codeOf
  split at h
  · rename_i hs
    rw [if_pos hs]
    unfold zeroR at h
    cases h
    exact ⟨rfl, fun _ => ⟨rfl, rfl⟩, fun h => by cases h⟩
  · rename_i hs
    rw [if_neg hs]
    split at h
    · rename_i hr
      rw [if_pos hr]
      unfold zeroR at h
      cases h
      exact ⟨rfl, fun _ => ⟨rfl, rfl⟩, fun h => by cases h⟩
    · rename_i hr
      rw [if_neg hr]
      obtain ⟨vo, he, ho⟩ := h
      unfold resV start0 at he
      cases he
      exact ⟨rfl, fun h => absurd rfl h, fun _ => ⟨ho, rfl, rfl, rfl, rfl, rfl⟩⟩

set_option maxHeartbeats 4000000 in
theorem awake06_any (w : World) (h : Env4 w) : Calls Tryz.prog 7 #[] w (Gives (.bool true) w) := by
  have HE := Lib.hid h
  clear h
  have hE := fun (v : Value) (w : World) (hv : ValsAt w v Vm.exP) (vi : Value) (hi : ValsAt w vi [(1, 0), (2, 0)]) => (each_any v vi Vm.exP [(1, 0), (2, 0)] 0 0 0 0 w hv hi (by decide)).mono fun e w' h => each_ok h Vm.exP_safe (by decide)
  rw [show Vm.each Vm.exP (start0 (0, 0) (0, 0)) [(1, 0), (2, 0)] = ⟨[(1, 0), (3, 0)], (3, 0), (0, 0), 12⟩ from Vm.exP_each] at hE
  have HEA := Lib.hid hE
  clear hE
  go_enter Tryz.func7, Tryz.ntmps7
  go_wp2_with (first
    | (go_at_call 17; refine (codeParse_env awake6S (by decide) _ (HE.out.grew (by repeat (first | with_reducible exact Grew.refl _ | apply Grew.more | apply Grew.alloc | apply Grew.drew | apply Grew.drewN)))).mono ?_; rintro e w1 ⟨v, rfl, hv, R3, n3, rfl⟩; rw [awake6_parse] at hv ⊢; (have HV := Lib.hid hv); clear hv)
    | (go_at_call 19; go_loud (refine (HEA.out _ _ (HV.out.grew (by repeat (first | with_reducible exact Grew.refl _ | apply Grew.more | apply Grew.alloc | apply Grew.drew | apply Grew.drewN))) _ (vals2 _ _ _ _ _ _ _ (by simp [go_sem]))).mono ?_); rintro e w1 ⟨⟨R4, n4, hw4⟩, vo, rfl, ho⟩; subst hw4; obtain ⟨bo, co, rfl⟩ := own_some' ho (by decide); (have hvo := ho.rows encI_len); obtain ⟨a5, c5, e5, _, hx5⟩ := RowsAt.open2 (f := fun a : Val => Value.int .i64 a.1) (g := fun a : Val => Value.int .i64 a.2) hvo; cases e5; obtain ⟨b5, off5, e6, hb5, h50, h51⟩ := hx5 1 (by decide); cases e6; simp at h50 h51; unfold resV; clear ho hvo hx5)
    )
  go_ret
  refine ⟨rfl, ?_⟩
  repeat (first | with_reducible exact Grew.refl _ | apply Grew.more | apply Grew.alloc | apply Grew.drew | apply Grew.drewN)

theorem keepT_of {w0 W W' : World} {e : TypeId} {base k : Nat} {enc : Val → List Value} {v v' : Value} {l l' : List Val} (h : Appended w0 e k enc W v l' v' W') (ho : OwnAt base e k enc W v l) {q : Nat} {c : Array Value} {t : TypeId} (hq : W.heap[q]? = some (.cells c t)) (ht : t ≠ e) : W'.heap[q]? = some (.cells c t) :=
  (h.2.2.2.1 q (heap_lt hq) (ho.other hq ht)).trans hq
theorem appended_other {w0 W W1 W' : World} {e : TypeId} {base2 k : Nat} {enc : Val → List Value} {v v' u : Value} {l' m : List Val} (h : Appended w0 e k enc W v l' v' W') (g : Grew W1 W) (o1 : OwnAt base2 e k enc W1 u m) (o2 : ∀ q, v.ownBlock = some q → u.ownBlock ≠ some q) :
    OwnAt base2 e k enc W' u m ∧ (∀ q, v'.ownBlock = some q → u.ownBlock ≠ some q) := by
  have o3 := o1.grew g
  have hlt : ∀ q, u.ownBlock = some q → q < W.heap.size := fun q hq => let ⟨_, _, hc⟩ := o3.block hq; heap_lt hc
  refine ⟨o3.same fun q hq => h.2.2.2.1 q (hlt q hq) fun e => o2 q e hq, fun q hq hu => ?_⟩
  rcases h.2.2.2.2 q hq with h1 | h1
  · exact o2 q h1 hu
  · have := hlt q hu
    omega
theorem cellsV : Tryz.prog.cellsOf 24 = 2 := by kernel_rfl
theorem run_eql_arr (a b c d : Int) (w : World) : (binOp .eql 25 (.agg #[.int .i64 a, .int .i64 b, .int .i64 c, .int .i64 d]) (.agg #[.int .i64 a, .int .i64 b, .int .i64 c, .int .i64 d])).run Tryz.prog w = .ok (.bool true) w := by
  have h : (Op.equalIn 10000 25 (.agg #[.int .i64 a, .int .i64 b, .int .i64 c, .int .i64 d]) (.agg #[.int .i64 a, .int .i64 b, .int .i64 c, .int .i64 d])).run Tryz.prog w = .ok true w := by
    obtain ⟨i, hi, _⟩ := info_parts infoVal
    have h0 := run_equalIn_array (P := Tryz.prog) (w := w) 9999 #[.int .i64 a, .int .i64 b, .int .i64 c, .int .i64 d] #[.int .i64 a, .int .i64 b, .int .i64 c, .int .i64 d] Tryz.underlying25 hi
    rw [h0, show List.range 2 = [0, 1] from rfl, cellsV]
    simp [Op.eqItems, go_sem, Tryz.underlying24, Tryz.underlying3]
  simp [go_sem, h]

end Go.Proofs.YtiocdmfmghanmaaGreatDoor
