import Derived.Test.YtiocdmfmghanmaaGreatDoorMk24
import Derived.Test.YtiocdmfmghanmaaGreatDoorRows
import Derived.Test.YtiocdmfmghanmaaGreatDoorLawKit
import Derived.Lib.LaidU8T
import Derived.Lib.LaidTab
import Derived.Stop.LaidErr
import Derived.Test.YtiocdmfmghanmaaGreatDoorMk39
/-! What the listed variables give the walks. -/
namespace Go.Proofs.YtiocdmfmghanmaaGreatDoor
set_option linter.unusedSimpArgs false
set_option linter.unusedVariables false
open Go.RowKit Go.Lib
set_option maxRecDepth 100000

theorem gTabType : (Tryz.prog.globals[5]?).map (·.type) = some 177 := by kernel_rfl
theorem cellsA : Tryz.prog.cellsOf 177 = 20 := by kernel_rfl
theorem cells1 : Tryz.prog.cellsOf 127 = 1 := by kernel_rfl
theorem tab_of_reads {P : Program} {W : World} {name : String} {k : IntKind} {zs : List Int} {g : Nat} {t e : TypeId} {n : Nat}
    (hg : P.globalNamed name = some g) (hty : (P.globals[g]?).map (·.type) = some t) (ht : P.underlying t = some (.array n e)) (he : P.underlying e = some (.int k)) (hce : P.cellsOf e = 1) (hct : P.cellsOf t = n)
    (h : VarReads P W name (tabData k zs)) : TabIs P W name k zs := by
  obtain ⟨g', t', cs, fuel, p, hg', hty', hvar, hd⟩ := h
  obtain rfl := Option.some.inj (hg.symm.trans hg')
  obtain rfl := Option.some.inj (hty.symm.trans hty')
  have hcs := cells_of_tab ht he hce hct hd
  unfold TabIs
  rw [hvar]
  congr 1
  exact Array.toList_inj.1 hcs
theorem pow_of {W : World} {l : List (String × DataW Unit)} (h : laidMet Tryz.prog l W) (hm : ("internal/strconv.uint64pow10", Rows.laid_internal_strconv_uint64pow10) ∈ l) : Pow W :=
  tab_of_reads gPow gTabType Tryz.underlying177 Tryz.underlying127 cells1 cellsA (laidMet.reads h hm)


theorem gES : Tryz.prog.globalNamed "strconv.ErrSyntax" = some 2 := by kernel_rfl
theorem gESType : (Tryz.prog.globals[2]?).map (·.type) = some 62 := by kernel_rfl
theorem gER : Tryz.prog.globalNamed "strconv.ErrRange" = some 3 := by kernel_rfl
theorem gERType : (Tryz.prog.globals[3]?).map (·.type) = some 62 := by kernel_rfl
theorem cellsES : Tryz.prog.cellsOf 154 = 1 := by kernel_rfl
theorem cellsStr : Tryz.prog.cellsOf 9 = 1 := by kernel_rfl
theorem starES : "*" ++ "errors.errorString" = "*errors.errorString" := by decide
theorem rowES (u : TypeId) (h : Tryz.prog.typeName? 3 u = some "*errors.errorString") : u = 152 :=
  typeName_ptr_named (nm := "errors.errorString") (by rw [starES]; kernel_rfl) (by kernel_rfl) (by decide) u (by rw [starES]; exact h)
theorem errs_of {W : World} {r1 r2 : List (String × DataW Unit)} (h1 : laidMet Tryz.prog (("strconv.ErrRange", Rows.laid_strconv_ErrRange) :: r1) W) (h2 : laidMet Tryz.prog (("strconv.ErrSyntax", Rows.laid_strconv_ErrSyntax) :: r2) W) : Errs W := by
  obtain ⟨a1, s1, v1, -, -, -⟩ := laid_sentinel h1 gER gERType Tryz.underlying62 rowES Tryz.underlying152 Tryz.underlying154 rfl rfl Tryz.underlying9 cellsES cellsStr
  obtain ⟨a2, s2, v2, -, -, -⟩ := laid_sentinel h2 gES gESType Tryz.underlying62 rowES Tryz.underlying152 Tryz.underlying154 rfl rfl Tryz.underlying9 cellsES cellsStr
  exact ⟨⟨_, _, v2⟩, ⟨_, _, v1⟩⟩

/-- A witness: two errors in blocks of their own, behind the others. -/
noncomputable def layErrs (w : World) : World :=
  layBlocks ((w.alloc (.cells #[.string ⟨#[118, 97, 108, 117, 101, 32, 111, 117, 116, 32, 111, 102, 32, 114, 97, 110, 103, 101]⟩] 154)).alloc (.cells #[.string ⟨#[105, 110, 118, 97, 108, 105, 100, 32, 115, 121, 110, 116, 97, 120]⟩] 154))
    [(3, #[.iface 152 (.pointer (some ⟨w.heap.size, 0, none⟩))]), (2, #[.iface 152 (.pointer (some ⟨w.heap.size + 1, 0, none⟩))])]
end Go.Proofs.YtiocdmfmghanmaaGreatDoor

/-! What the listed variables of layer 4's rows give the walks. -/
namespace Go.Proofs.YtiocdmfmghanmaaGreatDoor
set_option linter.unusedSimpArgs false
set_option linter.unusedVariables false
open Go.RowKit Go.Lib
set_option maxRecDepth 100000

theorem ascIs : (Rows.laid_strings_asciiSpace : DataW Unit) = tabData .u8 Lib.asciiSpaceTab := by kernel_rfl
theorem gAsc : Tryz.prog.globalNamed "strings.asciiSpace" = some 0 := by kernel_rfl
theorem gAscType : (Tryz.prog.globals[0]?).map (·.type) = some 107 := by kernel_rfl
theorem cells256 : Tryz.prog.cellsOf 107 = 256 := by kernel_rfl
theorem cellsU8 : Tryz.prog.cellsOf 5 = 1 := by kernel_rfl
theorem asc_of {W : World} {l : List (String × DataW Unit)} (h : laidMet Tryz.prog l W) (hm : ("strings.asciiSpace", Rows.laid_strings_asciiSpace) ∈ l) : Asc W := by
  rw [ascIs] at hm
  exact tab_of_reads gAsc gAscType Tryz.underlying107 Tryz.underlying5 cellsU8 cells256 (laidMet.reads h hm)
theorem cellM_of {W : World} (h : W.ShapedOpen Tryz.prog) : CellM W := Tryz.laysM145.s1_3 W h

/-- What the rows list. -/
theorem env4_of {W : World} (h : laidMet Tryz.prog Rows.vmBoundsRow.laid W) (hs : W.ShapedOpen Tryz.prog) : Env4 W :=
  ⟨cellM_of hs, errs_of (laidMet.tail (laidMet.tail (laidMet.tail h))) (laidMet.tail (laidMet.tail (laidMet.tail (laidMet.tail h)))), pow_of h (.tail _ (.tail _ (.head _))), asc_of h (.tail _ (.tail _ (.tail _ (.tail _ (.tail _ (.tail _ (.head _)))))))⟩

/-- A witness: the table of white space. -/
noncomputable def layWhite (w : World) : World :=
  layBlocks ((w.alloc (.cells ((whiteT.map fun n : Nat => Value.int .u16 (n : Int)).toArray) 161)).alloc (.cells #[.slice (some ⟨w.heap.size, 0, none⟩) 7 7, .slice none 0 0, .int .i64 2] 158))
    [(4, #[.pointer (some ⟨w.heap.size + 1, 0, none⟩)])]
noncomputable def laidWorld4 (os : Os) : World := layWhite (layErrs (layBlocks (World.holding Tryz.prog os ⟨#[], #[], []⟩) [(6, tabCells Rows.laid_math_bits_deBruijn32tab), (7, tabCells Rows.laid_math_bits_deBruijn64tab), (5, tabCells Rows.laid_internal_strconv_uint64pow10), (0, tabCells Rows.laid_strings_asciiSpace)]))
end Go.Proofs.YtiocdmfmghanmaaGreatDoor
