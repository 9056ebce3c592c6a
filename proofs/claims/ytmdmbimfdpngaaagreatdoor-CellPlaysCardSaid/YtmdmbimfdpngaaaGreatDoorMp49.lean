import Derived.Test.YtmdmbimfdpngaaaGreatDoorMp48
import Derived.Test.YtmdmbimfdpngaaaGreatDoorMp44
import Derived.Test.YtmdmbimfdpngaaaGreatDoorMp22
import Derived.Test.YtmdmbimfdpngaaaGreatDoorRows
import Derived.Test.YtmdmbimfdpngaaaGreatDoorMp13
import Derived.Lib.LaidU8T
import Derived.Lib.LaidTab
import Derived.Stop.LaidErr
import Derived.Test.YtmdmbimfdpngaaaGreatDoorMp29
import Derived.Test.YtmdmbimfdpngaaaGreatDoorCards
import Derived.Test.YtmdmbimfdpngaaaGreatDoorTie
import Derived.Deep.DeepHandedRow
import Derived.Deep.DeepWitnessRowRef
import Derived.SevenTiedPlain
/-! What is asked of a table, as an argument. -/
namespace Go.Proofs.YtmdmbimfdpngaaaGreatDoor
set_option linter.unusedSimpArgs false
set_option maxRecDepth 100000
set_option linter.unusedVariables false
open Go.RowKit Ga Go.ChangeShapes Go.WideShapes

theorem cellsP_op : Tryz.prog.cellsOf 76 = 12 := by kernel_rfl
theorem cellsP_ins : Tryz.prog.cellsOf 38 = 1 := by kernel_rfl
theorem cellsP_ints : Tryz.prog.cellsOf 29 = 1 := by kernel_rfl
theorem slice_formP {α : Type} {k : Nat} {Q : World → List Value → α → Prop} {w : World} {v : Value} {l : List α} (h : SlAt k Q w v l) : ∃ a cap, v = .slice a l.length cap := by
  obtain ⟨a, cap, rfl, -⟩ := h
  exact ⟨a, cap, rfl⟩
theorem opensP_op : Opens Tryz.prog 76 (fun w cs (c : OpC) => cs = encOp c ∧ ∃ p gs, OpIs w c p gs) := by
  intro H enc w fuel cs x hx
  obtain ⟨hl, hf⟩ := Opens.fields Tryz.underlying76 hx
  rw [cellsP_op] at hl
  match cs, hl with
  | [c0, c1, c2, c3, c4, c5, c6, c7, c8, c9, c10, c11], _ =>
    obtain ⟨n0, y0, h0⟩ := hf 0 _ rfl
    obtain ⟨n1, y1, h1⟩ := hf 1 _ rfl
    obtain ⟨n2, y2, h2⟩ := hf 2 _ rfl
    obtain ⟨n3, y3, h3⟩ := hf 3 _ rfl
    obtain ⟨n4, y4, h4⟩ := hf 4 _ rfl
    have h0' : DataW.trod enc Tryz.prog w 0 (fun _ => true) true n0 3 (([c0, c1, c2, c3, c4, c5, c6, c7, c8, c9, c10, c11].drop 0).take (Tryz.prog.cellsOf 3)) = some y0 := h0
    rw [cells_int1] at h0'
    have h1' : DataW.trod enc Tryz.prog w 0 (fun _ => true) true n1 53 (([c0, c1, c2, c3, c4, c5, c6, c7, c8, c9, c10, c11].drop 1).take (Tryz.prog.cellsOf 53)) = some y1 := h1
    rw [cellsO_ent] at h1'
    have h2' : DataW.trod enc Tryz.prog w 0 (fun _ => true) true n2 38 (([c0, c1, c2, c3, c4, c5, c6, c7, c8, c9, c10, c11].drop 7).take (Tryz.prog.cellsOf 38)) = some y2 := h2
    rw [cellsP_ins] at h2'
    have h3' : DataW.trod enc Tryz.prog w 0 (fun _ => true) true n3 58 (([c0, c1, c2, c3, c4, c5, c6, c7, c8, c9, c10, c11].drop 8).take (Tryz.prog.cellsOf 58)) = some y3 := h3
    rw [cellsO_rec] at h3'
    have h4' : DataW.trod enc Tryz.prog w 0 (fun _ => true) true n4 29 (([c0, c1, c2, c3, c4, c5, c6, c7, c8, c9, c10, c11].drop 11).take (Tryz.prog.cellsOf 29)) = some y4 := h4
    rw [cellsP_ints] at h4'
    obtain ⟨i0, e0, -⟩ := opensI H enc w n0 _ _ h0'
    obtain ⟨⟨nd, ky, ⟨p0, q0⟩, ⟨p1, q1⟩⟩, e1, -⟩ := opensO_ent H enc w n1 _ _ h1'
    obtain ⟨l2, v2, e2, s2⟩ := Opens.slice Tryz.underlying38 cells_ins (by decide) opens_ins H enc w n2 _ _ h2'
    obtain ⟨⟨rk, rx, ry⟩, e3, -⟩ := opensO_rec H enc w n3 _ _ h3'
    obtain ⟨l4, v4, e4, s4⟩ := Opens.slice Tryz.underlying29 cells_int1 (by decide) opensI H enc w n4 _ _ h4'
    obtain ⟨a2, k2, rfl⟩ := slice_formP s2
    obtain ⟨a4, k4, rfl⟩ := slice_formP s4
    have r2 := s2.rows.1
    have r4 := (SlAt.rows (enc := fun (x : Int) => [Value.int .i64 x]) s4).1
    simp [encEn, encRc] at e0 e1 e2 e3 e4
    obtain ⟨b0, b1, b2, b3, b4, b5⟩ := e1
    obtain ⟨b6, b7, b8⟩ := e3
    subst e0 b0 b1 b2 b3 b4 b5 e2 b6 b7 b8 e4
    exact ⟨⟨i0, nd, ky, p0, q0, p1, q1, a2, l2.length, k2, rk, rx, ry, a4, l4.length, k4⟩, rfl, l2, l4, r2, r4⟩
theorem argP_ops {H : Type} {enc : TypeId × Value → H} {w : World} {v : Value} {d : DataW H} {ps : List MemPlace} {r : Reach} {b : Nat} (ho : Value.okWide Tryz.prog w r b 74 v) (h : DataW.Trod enc Tryz.prog w 0 (fun _ => true) true 74 v d ps) : ∃ lc : List OpC, OpsAt w v lc := by
  obtain ⟨l, u, h1, h2⟩ := (Opens.slice Tryz.underlying74 cellsP_op (by decide) opensP_op).arg h
  obtain rfl := cells_slice Tryz.underlying74 ho h1
  refine ⟨l, ?_⟩
  obtain ⟨a, cap, rfl, hl, hm, hnil, hx⟩ := h2
  refine ⟨⟨a, cap, rfl, Nat.le_trans hl hm, fun hne => ?_⟩, fun c hc => ?_⟩
  · obtain ⟨b, off, rfl, hc⟩ := hx hne
    refine ⟨b, off, rfl, fun i c hi j u hu => ?_⟩
    obtain ⟨cs, -, ⟨rfl, -⟩, h3⟩ := hc i c hi
    exact h3 j u hu
  · obtain ⟨i, hi, rfl⟩ := List.mem_iff_getElem.1 hc
    obtain ⟨b, off, rfl, hx2⟩ := hx (by intro e; subst e; simp at hi)
    obtain ⟨cs, -, ⟨-, h3⟩, -⟩ := hx2 i _ (List.getElem?_eq_getElem hi)
    exact h3
end Go.Proofs.YtmdmbimfdpngaaaGreatDoor

/-! What the listed variables give the walks. -/
namespace Go.Proofs.YtmdmbimfdpngaaaGreatDoor
set_option linter.unusedSimpArgs false
set_option linter.unusedVariables false
open Go.RowKit Go.Lib
set_option maxRecDepth 100000

theorem gTabType : (Tryz.prog.globals[1]?).map (·.type) = some 255 := by kernel_rfl
theorem cellsA : Tryz.prog.cellsOf 255 = 20 := by kernel_rfl
theorem cells1 : Tryz.prog.cellsOf 207 = 1 := by kernel_rfl
theorem tab_of_reads {P : Program} {W : World} {name : String} {k : IntKind} {zs : List Int} {g : Nat} {t e : TypeId} {n : Nat}
    (hg : P.globalNamed name = some g) (hty : (P.globals[g]?).map (·.type) = some t) (ht : P.underlying t = some (.array n e)) (he : P.underlying e = some (.int k)) (hce : P.cellsOf e = 1) (hct : P.cellsOf t = n)
    (h : VarReads P W name (tabData k zs)) : TabIs P W name k zs := by
  obtain ⟨g', t', cs, fuel, p, hg', hty', hvar, hd⟩ := h
  obtain rfl := Option.some.inj (hg.symm.trans hg')
  obtain rfl := Option.some.inj (hty.symm.trans hty')
  have hcs := cells_of_tab ht he hce hct hd
  unfold TabIs
  rw [hvar]
  congr 1
  exact Array.toList_inj.1 hcs
theorem pow_of {W : World} {l : List (String × DataW Unit)} (h : laidMet Tryz.prog l W) (hm : ("internal/strconv.uint64pow10", Rows.laid_internal_strconv_uint64pow10) ∈ l) : Pow W :=
  tab_of_reads gPow gTabType Tryz.underlying255 Tryz.underlying207 cells1 cellsA (laidMet.reads h hm)

theorem gES : Tryz.prog.globalNamed "strconv.ErrSyntax" = some 3 := by kernel_rfl
theorem gESType : (Tryz.prog.globals[3]?).map (·.type) = some 145 := by kernel_rfl
theorem gER : Tryz.prog.globalNamed "strconv.ErrRange" = some 4 := by kernel_rfl
theorem gERType : (Tryz.prog.globals[4]?).map (·.type) = some 145 := by kernel_rfl
theorem cellsES : Tryz.prog.cellsOf 303 = 1 := by kernel_rfl
theorem cellsStr : Tryz.prog.cellsOf 9 = 1 := by kernel_rfl
theorem starES : "*" ++ "errors.errorString" = "*errors.errorString" := by decide
theorem rowES (u : TypeId) (h : Tryz.prog.typeName? 3 u = some "*errors.errorString") : u = 301 :=
  typeName_ptr_named (nm := "errors.errorString") (by rw [starES]; kernel_rfl) (by kernel_rfl) (by decide) u (by rw [starES]; exact h)
theorem errs_of {W : World} {r1 r2 : List (String × DataW Unit)} (h1 : laidMet Tryz.prog (("strconv.ErrRange", Rows.laid_strconv_ErrRange) :: r1) W) (h2 : laidMet Tryz.prog (("strconv.ErrSyntax", Rows.laid_strconv_ErrSyntax) :: r2) W) : Errs W := by
  obtain ⟨a1, s1, v1, -, -, -⟩ := laid_sentinel h1 gER gERType Tryz.underlying145 rowES Tryz.underlying301 Tryz.underlying303 rfl rfl Tryz.underlying9 cellsES cellsStr
  obtain ⟨a2, s2, v2, -, -, -⟩ := laid_sentinel h2 gES gESType Tryz.underlying145 rowES Tryz.underlying301 Tryz.underlying303 rfl rfl Tryz.underlying9 cellsES cellsStr
  exact ⟨⟨_, _, v2⟩, ⟨_, _, v1⟩⟩

/-- A witness: two errors in blocks of their own, behind the others. -/
noncomputable def layErrs (w : World) : World :=
  layBlocks ((w.alloc (.cells #[.string ⟨#[118, 97, 108, 117, 101, 32, 111, 117, 116, 32, 111, 102, 32, 114, 97, 110, 103, 101]⟩] 303)).alloc (.cells #[.string ⟨#[105, 110, 118, 97, 108, 105, 100, 32, 115, 121, 110, 116, 97, 120]⟩] 303))
    [(4, #[.iface 301 (.pointer (some ⟨w.heap.size, 0, none⟩))]), (3, #[.iface 301 (.pointer (some ⟨w.heap.size + 1, 0, none⟩))])]
end Go.Proofs.YtmdmbimfdpngaaaGreatDoor

/-! What the listed variables of layer 4's rows give the walks. -/
namespace Go.Proofs.YtmdmbimfdpngaaaGreatDoor
set_option linter.unusedSimpArgs false
set_option linter.unusedVariables false
open Go.RowKit Go.Lib
set_option maxRecDepth 100000

theorem ascIs : (Rows.laid_strings_asciiSpace : DataW Unit) = tabData .u8 Lib.asciiSpaceTab := by kernel_rfl
theorem gAsc : Tryz.prog.globalNamed "strings.asciiSpace" = some 0 := by kernel_rfl
theorem gAscType : (Tryz.prog.globals[0]?).map (·.type) = some 225 := by kernel_rfl
theorem cells256 : Tryz.prog.cellsOf 225 = 256 := by kernel_rfl
theorem cellsU8 : Tryz.prog.cellsOf 5 = 1 := by kernel_rfl
theorem asc_of {W : World} {l : List (String × DataW Unit)} (h : laidMet Tryz.prog l W) (hm : ("strings.asciiSpace", Rows.laid_strings_asciiSpace) ∈ l) : Asc W := by
  rw [ascIs] at hm
  exact tab_of_reads gAsc gAscType Tryz.underlying225 Tryz.underlying5 cellsU8 cells256 (laidMet.reads h hm)
theorem cellM_of {W : World} (h : W.ShapedOpen Tryz.prog) : CellM W := Tryz.laysM145.s1_3 W h

/-- What the rows list. -/
theorem env4_of {W : World} (h : laidMet Tryz.prog Rows.cellApartRow.laid W) (hs : W.ShapedOpen Tryz.prog) : Env4 W :=
  ⟨cellM_of hs, errs_of (laidMet.tail (laidMet.tail (laidMet.tail h))) (laidMet.tail (laidMet.tail (laidMet.tail (laidMet.tail h)))), pow_of h (.tail _ (.tail _ (.head _))), asc_of h (.tail _ (.tail _ (.tail _ (.tail _ (.tail _ (.tail _ (.head _)))))))⟩

/-- A witness: the table of white space. -/
noncomputable def layWhite (w : World) : World :=
  layBlocks ((w.alloc (.cells ((whiteT.map fun n : Nat => Value.int .u16 (n : Int)).toArray) 310)).alloc (.cells #[.slice (some ⟨w.heap.size, 0, none⟩) 7 7, .slice none 0 0, .int .i64 2] 307))
    [(5, #[.pointer (some ⟨w.heap.size + 1, 0, none⟩)])]
noncomputable def laidWorld4 (os : Os) : World := layWhite (layErrs (layBlocks (World.holding Tryz.prog os ⟨#[], #[], []⟩) [(8, tabCells Rows.laid_math_bits_deBruijn32tab), (9, tabCells Rows.laid_math_bits_deBruijn64tab), (1, tabCells Rows.laid_internal_strconv_uint64pow10), (0, tabCells Rows.laid_strings_asciiSpace)]))
end Go.Proofs.YtmdmbimfdpngaaaGreatDoor

/-
  The statement CellPlays: called with any list of entries and any list of things asked the law returns true, and each argument reads afterwards as it read before. Conditions: the listed tables of the library hold what the program's text lays.
-/
namespace Go.Proofs.YtmdmbimfdpngaaaGreatDoor.cellPlays
set_option linter.unusedSimpArgs false
set_option linter.unusedVariables false
set_option maxRecDepth 100000
open Go.ChangeShapes Go.WideShapes Go.ChangeAt Go.RowKit

theorem own : ownKnob Tryz.prog.godebug = none := by kernel_rfl

theorem contract (H : Type) (enc : TypeId × Value → H) (W : World) (base : Nat) (args : Array Value) (ds gs : List (DataW H)) (before : List MemPlace)
    (hval : ∀ (j : Nat) t v, Tryz.f7.params[j]? = some t → args[j]? = some v → Value.okWide Tryz.prog W .any base t v)
    (hW : DataW.Whole enc Tryz.prog Tryz.f7.params.toList Rows.cellPlaysSpec.vars false W args.toList ds gs before) (hL : laidMetH Tryz.prog Rows.cellPlaysRow.laid W) (hsh : W.ShapedOpen Tryz.prog) :
    Calls Tryz.prog 7 args W fun e W' => ∃ v, e = .returned v ∧ Rows.cellPlaysSpec.post enc Tryz.prog Tryz.f7 false true false false W args v W' := by
  have hW' := hW
  obtain ⟨p, q, hA0, hV, rfl, hfz, hnd⟩ := hW
  have hA : DataW.TrodAll enc Tryz.prog W 0 (fun _ => true) true Tryz.f7.params.toList args.toList ds p := hA0
  rw [Tryz.params7] at hA hval
  obtain ⟨v0, v1, d0, d1, p0, p1, hargs, rfl, rfl, h0, h1⟩ := trodAll_two hA
  obtain rfl : args = #[v0, v1] := by cases args; simp_all
  obtain ⟨l, hl0⟩ := argO_ents (hval 0 _ _ rfl rfl) h0
  obtain ⟨lc, hl1⟩ := argP_ops (hval 1 _ _ rfl rfl) h1
  have hl : laidMet Tryz.prog Rows.cellPlaysRow.laid W := hL
  refine (cellPlays_any v0 v1 l lc W hl0 hl1 (env4_of hl hsh)).mono fun e W' he => ?_
  obtain ⟨rfl, hg⟩ := he
  exact ⟨_, rfl, law_post laidOut (by kernel_rfl) rfl rfl Tryz.underlying4 hW' (fun gs h => by subst h; rfl) hg⟩

def wargs : Array Value := #[.slice none 0 0, .slice none 0 0]
theorem laid_met (os : Os) : laidMet Tryz.prog Rows.cellPlaysRow.laid ((laidWorld4 os).forCall (fun _ _ => 0) ⟨#[], wargs, []⟩).memory :=
  laidMet_of_run' 8 (by kernel_rfl) (by kernel_rfl)
theorem reads (os : Os) {H : Type} (enc : TypeId × Value → H) : ∃ places, DataW.whole enc Tryz.prog ((laidWorld4 os).forCall (fun _ _ => 0) ⟨#[], wargs, []⟩).memory Tryz.f7.params.toList Rows.cellPlaysSpec.vars false wargs.toList 8 = some ([.nil, .nil], [], places) :=
  ⟨[], by kernel_rfl⟩

set_option maxRecDepth 100000 in
theorem lifted (os : Os) (started : os.Started) (H : Type) (enc : TypeId × Value → H) (F : Stop.Interp) :
    ReturnsInHanded {} Tryz.checked os 7 .any ((OpenSpec.ofChange Rows.cellPlaysSpec).preRow enc Tryz.prog Tryz.f7 Rows.cellPlaysRow.domain false Rows.cellPlaysRow.laid) (((OpenSpec.ofChange Rows.cellPlaysSpec).at F).post enc Tryz.prog Tryz.f7 false true false false) := by
  obtain ⟨places, hx⟩ := reads os enc
  refine returnsInHanded_of_row (C := Tryz.checked) (s := OpenSpec.ofChange Rows.cellPlaysSpec) own started (by kernel_rfl) Tryz.func7
    (witness_row_atRef (enc := enc) (C := Tryz.checked) false (laidWorld4 os) wargs rfl (by kernel_rfl) (by kernel_rfl) (by kernel_rfl)
      (OpenSpec.preRow_of_cond 8 hx (by kernel_rfl) (fun k hk => by cases hk) (by kernel_rfl) (laid_met os))) ?_
  intro W base args ds gs before hval hW _ _ _ hL hsh _
  exact contract H enc W base args ds gs before hval hW hL hsh

theorem said : Rows.CellPlaysSaid :=
  OpenClaim.holds_of_cond 7 Tryz.f7 rfl rfl rfl rfl rfl rfl rfl ⟨rfl, rfl, rfl, rfl, rfl⟩ rfl rfl rfl rfl rfl (by kernel_rfl) Tryz.func7 (by kernel_rfl)
    (of_decide_eq_true (by kernel_rfl)) (by unfold Func.isWrapper; rw [if_neg (of_decide_eq_false (by kernel_rfl))]; exact ⟨rfl, rfl⟩)
    (fun os started H enc _ F => by rw [OpenClaim.pre_eq_preRow]; exact lifted os started H enc F)

theorem plain (f : FuncId) (fn : Func) (hf : Tryz.pinned.checked.prog.funcNamed Rows.cellPlaysRow.func = some f) (hfn : Tryz.pinned.checked.prog.funcs[f]? = some fn) :
    true = Tryz.pinned.checked.prog.looks [] ∧ ∀ (j : Nat) t, fn.params[j]? = some t → Tryz.pinned.checked.prog.wantsStandIn t = false := by
  obtain rfl : f = 7 := Option.some.inj ((show Tryz.prog.funcNamed Rows.cellPlaysRow.func = some 7 by kernel_rfl).symm.trans hf) |>.symm
  obtain rfl : fn = Tryz.f7 := (Option.some.inj (Tryz.func7.symm.trans hfn)).symm
  refine ⟨by kernel_rfl, fun j t ht => ?_⟩
  have hall : Tryz.f7.params.all (fun t => !Tryz.pinned.checked.prog.wantsStandIn t) = true := by kernel_rfl
  have := Array.all_eq_true_iff_forall_mem.1 hall t (Array.mem_of_getElem? ht)
  simpa using this

theorem card : Rows.CellPlaysCardSaid :=
  Claim7.holds_tied_plain_at .later [] _ _ _ _ said (fun _ h => by cases h) (by kernel_rfl) (fun _ h => by cases h) cellPlays_row_tie rfl ⟨rfl, rfl⟩ (by kernel_rfl) rfl plain (by kernel_rfl)
#print axioms card
end Go.Proofs.YtmdmbimfdpngaaaGreatDoor.cellPlays
