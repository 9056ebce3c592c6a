import Derived.Test.YtiocdmfmghanmaaGreatDoorMg18
import Derived.Test.YtiocdmfmghanmaaGreatDoorRows
import Derived.Test.YtiocdmfmghanmaaGreatDoorLawKit
import Derived.Lib.LaidU8T
import Derived.Lib.LaidTab
import Derived.Stop.LaidErr
import Derived.Test.YtiocdmfmghanmaaGreatDoorMg30
import Derived.Test.YtiocdmfmghanmaaGreatDoorMg51
import Derived.Test.YtiocdmfmghanmaaGreatDoorCards
import Derived.Test.YtiocdmfmghanmaaGreatDoorTie
import Derived.Deep.DeepHandedRow
import Derived.Deep.DeepWitnessRowRef
import Derived.SevenTiedPlain
/-! What the listed variables give the walks. -/
namespace Go.Proofs.YtiocdmfmghanmaaGreatDoor
set_option linter.unusedSimpArgs false
set_option linter.unusedVariables false
open Go.RowKit Go.Lib
set_option maxRecDepth 100000

theorem gTabType : (Tryz.prog.globals[5]?).map (·.type) = some 177 := by kernel_rfl
theorem cellsA : Tryz.prog.cellsOf 177 = 20 := by kernel_rfl
theorem cells1 : Tryz.prog.cellsOf 127 = 1 := by kernel_rfl
theorem tab_of_reads {P : Program} {W : World} {name : String} {k : IntKind} {zs : List Int} {g : Nat} {t e : TypeId} {n : Nat}
    (hg : P.globalNamed name = some g) (hty : (P.globals[g]?).map (·.type) = some t) (ht : P.underlying t = some (.array n e)) (he : P.underlying e = some (.int k)) (hce : P.cellsOf e = 1) (hct : P.cellsOf t = n)
    (h : VarReads P W name (tabData k zs)) : TabIs P W name k zs := by
  obtain ⟨g', t', cs, fuel, p, hg', hty', hvar, hd⟩ := h
  obtain rfl := Option.some.inj (hg.symm.trans hg')
  obtain rfl := Option.some.inj (hty.symm.trans hty')
  have hcs := cells_of_tab ht he hce hct hd
  unfold TabIs
  rw [hvar]
  congr 1
  exact Array.toList_inj.1 hcs
theorem pow_of {W : World} {l : List (String × DataW Unit)} (h : laidMet Tryz.prog l W) (hm : ("internal/strconv.uint64pow10", Rows.laid_internal_strconv_uint64pow10) ∈ l) : Pow W :=
  tab_of_reads gPow gTabType Tryz.underlying177 Tryz.underlying127 cells1 cellsA (laidMet.reads h hm)


theorem gES : Tryz.prog.globalNamed "strconv.ErrSyntax" = some 2 := by kernel_rfl
theorem gESType : (Tryz.prog.globals[2]?).map (·.type) = some 62 := by kernel_rfl
theorem gER : Tryz.prog.globalNamed "strconv.ErrRange" = some 3 := by kernel_rfl
theorem gERType : (Tryz.prog.globals[3]?).map (·.type) = some 62 := by kernel_rfl
theorem cellsES : Tryz.prog.cellsOf 154 = 1 := by kernel_rfl
theorem cellsStr : Tryz.prog.cellsOf 9 = 1 := by kernel_rfl
theorem starES : "*" ++ "errors.errorString" = "*errors.errorString" := by decide
theorem rowES (u : TypeId) (h : Tryz.prog.typeName? 3 u = some "*errors.errorString") : u = 152 :=
  typeName_ptr_named (nm := "errors.errorString") (by rw [starES]; kernel_rfl) (by kernel_rfl) (by decide) u (by rw [starES]; exact h)
theorem errs_of {W : World} {r1 r2 : List (String × DataW Unit)} (h1 : laidMet Tryz.prog (("strconv.ErrRange", Rows.laid_strconv_ErrRange) :: r1) W) (h2 : laidMet Tryz.prog (("strconv.ErrSyntax", Rows.laid_strconv_ErrSyntax) :: r2) W) : Errs W := by
  obtain ⟨a1, s1, v1, -, -, -⟩ := laid_sentinel h1 gER gERType Tryz.underlying62 rowES Tryz.underlying152 Tryz.underlying154 rfl rfl Tryz.underlying9 cellsES cellsStr
  obtain ⟨a2, s2, v2, -, -, -⟩ := laid_sentinel h2 gES gESType Tryz.underlying62 rowES Tryz.underlying152 Tryz.underlying154 rfl rfl Tryz.underlying9 cellsES cellsStr
  exact ⟨⟨_, _, v2⟩, ⟨_, _, v1⟩⟩

/-- A witness: two errors in blocks of their own, behind the others. -/
noncomputable def layErrs (w : World) : World :=
  layBlocks ((w.alloc (.cells #[.string ⟨#[118, 97, 108, 117, 101, 32, 111, 117, 116, 32, 111, 102, 32, 114, 97, 110, 103, 101]⟩] 154)).alloc (.cells #[.string ⟨#[105, 110, 118, 97, 108, 105, 100, 32, 115, 121, 110, 116, 97, 120]⟩] 154))
    [(3, #[.iface 152 (.pointer (some ⟨w.heap.size, 0, none⟩))]), (2, #[.iface 152 (.pointer (some ⟨w.heap.size + 1, 0, none⟩))])]
end Go.Proofs.YtiocdmfmghanmaaGreatDoor

/-! What the listed variables of layer 4's rows give the walks. -/
namespace Go.Proofs.YtiocdmfmghanmaaGreatDoor
set_option linter.unusedSimpArgs false
set_option linter.unusedVariables false
open Go.RowKit Go.Lib
set_option maxRecDepth 100000

theorem ascIs : (Rows.laid_strings_asciiSpace : DataW Unit) = tabData .u8 Lib.asciiSpaceTab := by kernel_rfl
theorem gAsc : Tryz.prog.globalNamed "strings.asciiSpace" = some 0 := by kernel_rfl
theorem gAscType : (Tryz.prog.globals[0]?).map (·.type) = some 107 := by kernel_rfl
theorem cells256 : Tryz.prog.cellsOf 107 = 256 := by kernel_rfl
theorem cellsU8 : Tryz.prog.cellsOf 5 = 1 := by kernel_rfl
theorem asc_of {W : World} {l : List (String × DataW Unit)} (h : laidMet Tryz.prog l W) (hm : ("strings.asciiSpace", Rows.laid_strings_asciiSpace) ∈ l) : Asc W := by
  rw [ascIs] at hm
  exact tab_of_reads gAsc gAscType Tryz.underlying107 Tryz.underlying5 cellsU8 cells256 (laidMet.reads h hm)
theorem cellM_of {W : World} (h : W.ShapedOpen Tryz.prog) : CellM W := Tryz.laysM145.s1_3 W h

/-- What the rows list. -/
theorem env4_of {W : World} (h : laidMet Tryz.prog Rows.vmBoundsRow.laid W) (hs : W.ShapedOpen Tryz.prog) : Env4 W :=
  ⟨cellM_of hs, errs_of (laidMet.tail (laidMet.tail (laidMet.tail h))) (laidMet.tail (laidMet.tail (laidMet.tail (laidMet.tail h)))), pow_of h (.tail _ (.tail _ (.head _))), asc_of h (.tail _ (.tail _ (.tail _ (.tail _ (.tail _ (.tail _ (.head _)))))))⟩

/-- A witness: the table of white space. -/
noncomputable def layWhite (w : World) : World :=
  layBlocks ((w.alloc (.cells ((whiteT.map fun n : Nat => Value.int .u16 (n : Int)).toArray) 161)).alloc (.cells #[.slice (some ⟨w.heap.size, 0, none⟩) 7 7, .slice none 0 0, .int .i64 2] 158))
    [(4, #[.pointer (some ⟨w.heap.size + 1, 0, none⟩)])]
noncomputable def laidWorld4 (os : Os) : World := layWhite (layErrs (layBlocks (World.holding Tryz.prog os ⟨#[], #[], []⟩) [(6, tabCells Rows.laid_math_bits_deBruijn32tab), (7, tabCells Rows.laid_math_bits_deBruijn64tab), (5, tabCells Rows.laid_internal_strconv_uint64pow10), (0, tabCells Rows.laid_strings_asciiSpace)]))
end Go.Proofs.YtiocdmfmghanmaaGreatDoor

/-
  The statement VmRuns: called with any program, any input and any two cells the law returns true, and each argument reads afterwards as it read before. Conditions: the listed tables of the library hold what the program's text lays.
-/
namespace Go.Proofs.YtiocdmfmghanmaaGreatDoor.vmRuns
set_option linter.unusedSimpArgs false
set_option linter.unusedVariables false
set_option maxRecDepth 100000
open Go.ChangeShapes Go.WideShapes Go.ChangeAt Go.RowKit

theorem cells_arr : Tryz.prog.cellsOf 25 = 4 := by kernel_rfl
theorem opens_arr : Opens Tryz.prog 25 (fun _ cs (a : Ga.Val × Ga.Val) => cs = [Value.int .i64 a.1.1, Value.int .i64 a.1.2, Value.int .i64 a.2.1, Value.int .i64 a.2.2]) := by
  intro H enc w fuel cs x hx
  obtain ⟨hl, hf⟩ := Opens.elems Tryz.underlying25 hx
  rw [cells_arr] at hl
  match cs, hl with
  | [c0, c1, c2, c3], _ =>
    obtain ⟨n0, y0, h0⟩ := hf 0 (by decide)
    obtain ⟨n1, y1, h1⟩ := hf 1 (by decide)
    rw [cells_val] at h0 h1
    obtain ⟨a, e0, _⟩ := opens_val H enc w n0 _ _ h0
    obtain ⟨b, e1, _⟩ := opens_val H enc w n1 _ _ h1
    simp at e0 e1
    obtain ⟨rfl, rfl⟩ := e0
    obtain ⟨rfl, rfl⟩ := e1
    exact ⟨(a, b), rfl⟩
theorem arg_arr {H : Type} {enc : TypeId × Value → H} {w : World} {v : Value} {d : DataW H} {ps : List MemPlace} {r : Reach} {b : Nat} (ho : Value.okWide Tryz.prog w r b 25 v) (h : DataW.Trod enc Tryz.prog w 0 (fun _ => true) true 25 v d ps) : ∃ x0 y0 x1 y1 : Int, v = .agg #[.int .i64 x0, .int .i64 y0, .int .i64 x1, .int .i64 y1] := by
  obtain ⟨a, h1⟩ := opens_arr.arg h
  unfold Value.okWide at ho
  rw [Tryz.underlying25] at ho
  obtain ⟨c, rfl, _⟩ := ho
  refine ⟨a.1.1, a.1.2, a.2.1, a.2.2, ?_⟩
  have h2 : c.toList = _ := h1
  rw [← Array.toArray_toList (xs := c), h2]
theorem arg_inss' {H : Type} {enc : TypeId × Value → H} {w : World} {v : Value} {d : DataW H} {ps : List MemPlace} {r : Reach} {b : Nat} (ho : Value.okWide Tryz.prog w r b 22 v) (h : DataW.Trod enc Tryz.prog w 0 (fun _ => true) true 22 v d ps) : ∃ l : List Ga.Val, ValsAt w v l := by
  obtain ⟨l, h1, _⟩ := arg_inss ho h
  exact ⟨l, h1⟩
theorem arg_vals' {H : Type} {enc : TypeId × Value → H} {w : World} {v : Value} {d : DataW H} {ps : List MemPlace} {r : Reach} {b : Nat} (ho : Value.okWide Tryz.prog w r b 27 v) (h : DataW.Trod enc Tryz.prog w 0 (fun _ => true) true 27 v d ps) : ∃ l : List Ga.Val, ValsAt w v l := by
  obtain ⟨l, h1, _⟩ := arg_vals ho h
  exact ⟨l, h1⟩
theorem own : ownKnob Tryz.prog.godebug = none := by kernel_rfl

theorem contract (H : Type) (enc : TypeId × Value → H) (W : World) (base : Nat) (args : Array Value) (ds gs : List (DataW H)) (before : List MemPlace)
    (hval : ∀ (j : Nat) t v, Tryz.f3.params[j]? = some t → args[j]? = some v → Value.okWide Tryz.prog W .any base t v)
    (hW : DataW.Whole enc Tryz.prog Tryz.f3.params.toList Rows.vmRunsSpec.vars false W args.toList ds gs before) (hL : laidMetH Tryz.prog Rows.vmRunsRow.laid W) (hsh : W.ShapedOpen Tryz.prog) :
    Calls Tryz.prog 3 args W fun e W' => ∃ v, e = .returned v ∧ Rows.vmRunsSpec.post enc Tryz.prog Tryz.f3 false true false false W args v W' := by
  have hW' := hW
  obtain ⟨p, q, hA0, hV, rfl, hfz, hnd⟩ := hW
  have hA : DataW.TrodAll enc Tryz.prog W 0 (fun _ => true) true Tryz.f3.params.toList args.toList ds p := hA0
  rw [Tryz.params3] at hA hval
  obtain ⟨v0, v1, v2, d0, d1, d2, p0, p1, p2, hargs, rfl, rfl, h0, h1, h2⟩ := trodAll_three hA
  obtain rfl : args = #[v0, v1, v2] := by cases args; simp_all
  obtain ⟨l, hl0⟩ := arg_inss' (hval 0 _ _ rfl rfl) h0
  obtain ⟨⟨px, py⟩, rfl, _⟩ := arg_val (hval 1 _ _ rfl rfl) h1
  obtain ⟨x0, y0, x1, y1, rfl⟩ := arg_arr (hval 2 _ _ rfl rfl) h2
  have hl : laidMet Tryz.prog Rows.vmRunsRow.laid W := hL
  refine (vmRuns_any v0 l px py x0 y0 x1 y1 W hl0 (env4_of hl hsh)).mono fun e W' he => ?_
  obtain ⟨rfl, hg⟩ := he
  exact ⟨_, rfl, law_post laidOut (by kernel_rfl) rfl rfl Tryz.underlying4 hW' (fun gs h => by subst h; rfl) hg⟩

def wargs : Array Value := #[.slice none 0 0, .agg #[.int .i64 0, .int .i64 0], .agg #[.int .i64 0, .int .i64 0, .int .i64 0, .int .i64 0]]
theorem laid_met (os : Os) : laidMet Tryz.prog Rows.vmRunsRow.laid ((laidWorld4 os).forCall (fun _ _ => 0) ⟨#[], wargs, []⟩).memory :=
  laidMet_of_run' 8 (by kernel_rfl) (by kernel_rfl)
theorem reads (os : Os) {H : Type} (enc : TypeId × Value → H) : ∃ places, DataW.whole enc Tryz.prog ((laidWorld4 os).forCall (fun _ _ => 0) ⟨#[], wargs, []⟩).memory Tryz.f3.params.toList Rows.vmRunsSpec.vars false wargs.toList 8 = some ([.nil, .agg [.lit (.int .i64 0), .lit (.int .i64 0)], .agg [.agg [.lit (.int .i64 0), .lit (.int .i64 0)], .agg [.lit (.int .i64 0), .lit (.int .i64 0)]]], [], places) :=
  ⟨[], by kernel_rfl⟩

set_option maxRecDepth 100000 in
theorem lifted (os : Os) (started : os.Started) (H : Type) (enc : TypeId × Value → H) (F : Stop.Interp) :
    ReturnsInHanded {} Tryz.checked os 3 .any ((OpenSpec.ofChange Rows.vmRunsSpec).preRow enc Tryz.prog Tryz.f3 Rows.vmRunsRow.domain false Rows.vmRunsRow.laid) (((OpenSpec.ofChange Rows.vmRunsSpec).at F).post enc Tryz.prog Tryz.f3 false true false false) := by
  obtain ⟨places, hx⟩ := reads os enc
  refine returnsInHanded_of_row (C := Tryz.checked) (s := OpenSpec.ofChange Rows.vmRunsSpec) own started (by kernel_rfl) Tryz.func3
    (witness_row_atRef (enc := enc) (C := Tryz.checked) false (laidWorld4 os) wargs rfl (by kernel_rfl) (by kernel_rfl) (by kernel_rfl)
      (OpenSpec.preRow_of_cond 8 hx (by kernel_rfl) (fun k hk => by cases hk) (by kernel_rfl) (laid_met os))) ?_
  intro W base args ds gs before hval hW _ _ _ hL hsh _
  exact contract H enc W base args ds gs before hval hW hL hsh

theorem said : Rows.VmRunsSaid :=
  OpenClaim.holds_of_cond 3 Tryz.f3 rfl rfl rfl rfl rfl rfl rfl ⟨rfl, rfl, rfl, rfl, rfl⟩ rfl rfl rfl rfl rfl (by kernel_rfl) Tryz.func3 (by kernel_rfl)
    (of_decide_eq_true (by kernel_rfl)) (by unfold Func.isWrapper; rw [if_neg (of_decide_eq_false (by kernel_rfl))]; exact ⟨rfl, rfl⟩)
    (fun os started H enc _ F => by rw [OpenClaim.pre_eq_preRow]; exact lifted os started H enc F)

theorem plain (f : FuncId) (fn : Func) (hf : Tryz.pinned.checked.prog.funcNamed Rows.vmRunsRow.func = some f) (hfn : Tryz.pinned.checked.prog.funcs[f]? = some fn) :
    true = Tryz.pinned.checked.prog.looks [] ∧ ∀ (j : Nat) t, fn.params[j]? = some t → Tryz.pinned.checked.prog.wantsStandIn t = false := by
  obtain rfl : f = 3 := Option.some.inj ((show Tryz.prog.funcNamed Rows.vmRunsRow.func = some 3 by kernel_rfl).symm.trans hf) |>.symm
  obtain rfl : fn = Tryz.f3 := (Option.some.inj (Tryz.func3.symm.trans hfn)).symm
  refine ⟨by kernel_rfl, fun j t ht => ?_⟩
  have hall : Tryz.f3.params.all (fun t => !Tryz.pinned.checked.prog.wantsStandIn t) = true := by kernel_rfl
  have := Array.all_eq_true_iff_forall_mem.1 hall t (Array.mem_of_getElem? ht)
  simpa using this

theorem card : Rows.VmRunsCardSaid :=
  Claim7.holds_tied_plain_at .later [] _ _ _ _ said (fun _ h => by cases h) (by kernel_rfl) (fun _ h => by cases h) vmRuns_row_tie rfl ⟨rfl, rfl⟩ (by kernel_rfl) rfl plain (by kernel_rfl)
#print axioms card
end Go.Proofs.YtiocdmfmghanmaaGreatDoor.vmRuns
