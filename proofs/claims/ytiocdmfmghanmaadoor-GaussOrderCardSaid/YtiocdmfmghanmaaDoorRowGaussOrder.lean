/-
  The statement GaussOrder: called with any two values the law returns true, and each argument reads afterwards as it read before. Conditions: the listed tables of the library hold what the program's text lays.
-/
import Derived.Test.YtiocdmfmghanmaaDoorLawGaussOrder
import Derived.Test.YtiocdmfmghanmaaDoorOpenVal
import Derived.Test.YtiocdmfmghanmaaDoorCards
import Derived.Test.YtiocdmfmghanmaaDoorTie
import Derived.Deep.DeepHandedRow
import Derived.Lib.LaidTab
import Derived.SevenTiedPlain
namespace Go.Proofs.YtiocdmfmghanmaaDoor.gaussOrder
set_option linter.unusedSimpArgs false
set_option linter.unusedVariables false
set_option maxRecDepth 100000
open Go.ChangeShapes Go.WideShapes Go.ChangeAt Go.RowKit

theorem own : ownKnob Tryd.prog.godebug = none := by kernel_rfl
theorem gTabType : (Tryd.prog.globals[5]?).map (·.type) = some 174 := by kernel_rfl
theorem cellsA : Tryd.prog.cellsOf 174 = 20 := by kernel_rfl
theorem cells1 : Tryd.prog.cellsOf 149 = 1 := by kernel_rfl
theorem table {W : World} (h : laidMet Tryd.prog Rows.gaussOrderRow.laid W) : Pow W :=
  Lib.tabIs_of_head (rest := []) gPow gTabType Tryd.underlying174 Tryd.underlying149 cells1 cellsA (laidMet_tail (laidMet_tail h))

theorem contract (H : Type) (enc : TypeId × Value → H) (W : World) (base : Nat) (args : Array Value) (ds gs : List (DataW H)) (before : List MemPlace)
    (hval : ∀ (j : Nat) t v, Tryd.f3.params[j]? = some t → args[j]? = some v → Value.okWide Tryd.prog W .any base t v)
    (hW : DataW.Whole enc Tryd.prog Tryd.f3.params.toList Rows.gaussOrderSpec.vars false W args.toList ds gs before) (hL : laidMetH Tryd.prog Rows.gaussOrderRow.laid W) :
    Calls Tryd.prog 3 args W fun e W' => ∃ v, e = .returned v ∧ Rows.gaussOrderSpec.post enc Tryd.prog Tryd.f3 false true false false W args v W' := by
  have hW' := hW
  obtain ⟨p, q, hA0, hV, rfl, hfz, hnd⟩ := hW
  have hA : DataW.TrodAll enc Tryd.prog W 0 (fun _ => true) true Tryd.f3.params.toList args.toList ds p := hA0
  rw [Tryd.params3] at hA hval
  obtain ⟨v0, v1, d0, d1, p0, p1, hargs, rfl, rfl, h0, h1⟩ := trodAll_two hA
  obtain rfl : args = #[v0, v1] := by cases args; simp_all
  obtain ⟨a, rfl, _⟩ := arg_val (hval 0 _ _ rfl rfl) h0
  obtain ⟨b, rfl, _⟩ := arg_val (hval 1 _ _ rfl rfl) h1
  refine (gaussOrder_any a b W (table hL)).mono fun e W' he => ?_
  obtain ⟨rfl, hg⟩ := he
  exact ⟨_, rfl, law_post laidOut (by kernel_rfl) rfl rfl Tryd.underlying4 hW' (fun gs h => by subst h; rfl) hg⟩

def wargs : Array Value := #[.agg #[.int .i64 0, .int .i64 0], .agg #[.int .i64 0, .int .i64 0]]
noncomputable def laidWorld (os : Os) : World := layBlocks (World.holding Tryd.prog os ⟨#[], #[], []⟩) [(8, tabCells Rows.laid_math_bits_deBruijn32tab), (9, tabCells Rows.laid_math_bits_deBruijn64tab), (5, tabCells Rows.laid_internal_strconv_uint64pow10)]
theorem laid_met (os : Os) : laidMet Tryd.prog Rows.gaussOrderRow.laid ((laidWorld os).forCall (fun _ _ => 0) ⟨#[], wargs, []⟩).memory :=
  laidMet_of_run' 8 (by kernel_rfl) (by kernel_rfl)
theorem reads (os : Os) {H : Type} (enc : TypeId × Value → H) : ∃ places, DataW.whole enc Tryd.prog ((laidWorld os).forCall (fun _ _ => 0) ⟨#[], wargs, []⟩).memory Tryd.f3.params.toList Rows.gaussOrderSpec.vars false wargs.toList 8 = some ([.agg [.lit (.int .i64 0), .lit (.int .i64 0)], .agg [.lit (.int .i64 0), .lit (.int .i64 0)]], [], places) :=
  ⟨[], by kernel_rfl⟩

set_option maxRecDepth 100000 in
theorem lifted (os : Os) (started : os.Started) (H : Type) (enc : TypeId × Value → H) (F : Stop.Interp) :
    ReturnsInHanded {} Tryd.checked os 3 .any ((OpenSpec.ofChange Rows.gaussOrderSpec).preRow enc Tryd.prog Tryd.f3 Rows.gaussOrderRow.domain false Rows.gaussOrderRow.laid) (((OpenSpec.ofChange Rows.gaussOrderSpec).at F).post enc Tryd.prog Tryd.f3 false true false false) := by
  obtain ⟨places, hx⟩ := reads os enc
  refine returnsInHanded_of_row (C := Tryd.checked) (s := OpenSpec.ofChange Rows.gaussOrderSpec) own started (by kernel_rfl) Tryd.func3
    (witness_row_at (enc := enc) (C := Tryd.checked) false (laidWorld os) wargs rfl (by kernel_rfl) (by kernel_rfl) (by kernel_rfl)
      (OpenSpec.preRow_of_cond 8 hx (by kernel_rfl) (fun k hk => by cases hk) (by kernel_rfl) (laid_met os))) ?_
  intro W base args ds gs before hval hW _ _ _ hL _ _
  exact contract H enc W base args ds gs before hval hW hL

theorem said : Rows.GaussOrderSaid :=
  OpenClaim.holds_of_cond 3 Tryd.f3 rfl rfl rfl rfl rfl rfl rfl ⟨rfl, rfl, rfl, rfl, rfl⟩ rfl rfl rfl rfl rfl (by kernel_rfl) Tryd.func3 (by kernel_rfl)
    (of_decide_eq_true (by kernel_rfl)) (by unfold Func.isWrapper; rw [if_neg (of_decide_eq_false (by kernel_rfl))]; exact ⟨rfl, rfl⟩)
    (fun os started H enc _ F => by rw [OpenClaim.pre_eq_preRow]; exact lifted os started H enc F)

theorem plain (f : FuncId) (fn : Func) (hf : Tryd.pinned.checked.prog.funcNamed Rows.gaussOrderRow.func = some f) (hfn : Tryd.pinned.checked.prog.funcs[f]? = some fn) :
    true = Tryd.pinned.checked.prog.looks [] ∧ ∀ (j : Nat) t, fn.params[j]? = some t → Tryd.pinned.checked.prog.wantsStandIn t = false := by
  obtain rfl : f = 3 := Option.some.inj ((show Tryd.prog.funcNamed Rows.gaussOrderRow.func = some 3 by kernel_rfl).symm.trans hf) |>.symm
  obtain rfl : fn = Tryd.f3 := (Option.some.inj (Tryd.func3.symm.trans hfn)).symm
  refine ⟨by kernel_rfl, fun j t ht => ?_⟩
  have hall : Tryd.f3.params.all (fun t => !Tryd.pinned.checked.prog.wantsStandIn t) = true := by kernel_rfl
  have := Array.all_eq_true_iff_forall_mem.1 hall t (Array.mem_of_getElem? ht)
  simpa using this

theorem card : Rows.GaussOrderCardSaid :=
  Claim7.holds_tied_plain_at .later [] _ _ _ _ said (fun _ h => by cases h) (by kernel_rfl) (fun _ h => by cases h) gaussOrder_row_tie rfl ⟨rfl, rfl⟩ (by kernel_rfl) rfl plain (by kernel_rfl)
#print axioms card
end Go.Proofs.YtiocdmfmghanmaaDoor.gaussOrder
