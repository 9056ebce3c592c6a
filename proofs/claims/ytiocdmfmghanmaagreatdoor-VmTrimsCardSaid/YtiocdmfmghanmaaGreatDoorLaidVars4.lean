import Derived.Test.YtiocdmfmghanmaaGreatDoorLaidVars
import Derived.Test.YtiocdmfmghanmaaGreatDoorLawCodeTexts
/-! What the listed variables of layer 4's rows give the walks. -/
namespace Go.Proofs.YtiocdmfmghanmaaGreatDoor
set_option linter.unusedSimpArgs false
set_option linter.unusedVariables false
open Go.RowKit Go.Lib
set_option maxRecDepth 100000

theorem ascIs : (Rows.laid_strings_asciiSpace : DataW Unit) = tabData .u8 Lib.asciiSpaceTab := by kernel_rfl
theorem gAsc : Tryz.prog.globalNamed "strings.asciiSpace" = some 0 := by kernel_rfl
theorem gAscType : (Tryz.prog.globals[0]?).map (·.type) = some 107 := by kernel_rfl
theorem cells256 : Tryz.prog.cellsOf 107 = 256 := by kernel_rfl
theorem cellsU8 : Tryz.prog.cellsOf 5 = 1 := by kernel_rfl
theorem asc_of {W : World} {l : List (String × DataW Unit)} (h : laidMet Tryz.prog l W) (hm : ("strings.asciiSpace", Rows.laid_strings_asciiSpace) ∈ l) : Asc W := by
  rw [ascIs] at hm
  exact tab_of_reads gAsc gAscType Tryz.underlying107 Tryz.underlying5 cellsU8 cells256 (laidMet.reads h hm)
theorem cellM_of {W : World} (h : W.ShapedOpen Tryz.prog) : CellM W := Tryz.laysM145.s1_3 W h

/-- What the rows list. -/
theorem env4_of {W : World} (h : laidMet Tryz.prog Rows.vmBoundsRow.laid W) (hs : W.ShapedOpen Tryz.prog) : Env4 W :=
  ⟨cellM_of hs, errs_of (laidMet.tail (laidMet.tail (laidMet.tail h))) (laidMet.tail (laidMet.tail (laidMet.tail (laidMet.tail h)))), pow_of h (.tail _ (.tail _ (.head _))), asc_of h (.tail _ (.tail _ (.tail _ (.tail _ (.tail _ (.tail _ (.head _)))))))⟩

/-- A witness: the table of white space. -/
noncomputable def layWhite (w : World) : World :=
  layBlocks ((w.alloc (.cells ((whiteT.map fun n : Nat => Value.int .u16 (n : Int)).toArray) 161)).alloc (.cells #[.slice (some ⟨w.heap.size, 0, none⟩) 7 7, .slice none 0 0, .int .i64 2] 158))
    [(4, #[.pointer (some ⟨w.heap.size + 1, 0, none⟩)])]
noncomputable def laidWorld4 (os : Os) : World := layWhite (layErrs (layBlocks (World.holding Tryz.prog os ⟨#[], #[], []⟩) [(6, tabCells Rows.laid_math_bits_deBruijn32tab), (7, tabCells Rows.laid_math_bits_deBruijn64tab), (5, tabCells Rows.laid_internal_strconv_uint64pow10), (0, tabCells Rows.laid_strings_asciiSpace)]))
end Go.Proofs.YtiocdmfmghanmaaGreatDoor
