import Derived.Test.YtiocdmfmghanmaaDoorParse
import Derived.Test.YtiocdmfmghanmaaDoorRows
import Derived.Test.YtiocdmfmghanmaaDoorLawKit
import Derived.Lib.LaidU8T
import Derived.Lib.LaidTab
import Derived.Stop.LaidErr
/-! What the listed variables give the walks. -/
namespace Go.Proofs.YtiocdmfmghanmaaDoor
set_option linter.unusedSimpArgs false
set_option linter.unusedVariables false
open Go.RowKit Go.Lib
set_option maxRecDepth 100000

theorem gTabType : (Tryd.prog.globals[5]?).map (·.type) = some 174 := by kernel_rfl
theorem cellsA : Tryd.prog.cellsOf 174 = 20 := by kernel_rfl
theorem cells1 : Tryd.prog.cellsOf 149 = 1 := by kernel_rfl
theorem tab_of_reads {P : Program} {W : World} {name : String} {k : IntKind} {zs : List Int} {g : Nat} {t e : TypeId} {n : Nat}
    (hg : P.globalNamed name = some g) (hty : (P.globals[g]?).map (·.type) = some t) (ht : P.underlying t = some (.array n e)) (he : P.underlying e = some (.int k)) (hce : P.cellsOf e = 1) (hct : P.cellsOf t = n)
    (h : VarReads P W name (tabData k zs)) : TabIs P W name k zs := by
  obtain ⟨g', t', cs, fuel, p, hg', hty', hvar, hd⟩ := h
  obtain rfl := Option.some.inj (hg.symm.trans hg')
  obtain rfl := Option.some.inj (hty.symm.trans hty')
  have hcs := cells_of_tab ht he hce hct hd
  unfold TabIs
  rw [hvar]
  congr 1
  exact Array.toList_inj.1 hcs
theorem pow_of {W : World} {l : List (String × DataW Unit)} (h : laidMet Tryd.prog l W) (hm : ("internal/strconv.uint64pow10", Rows.laid_internal_strconv_uint64pow10) ∈ l) : Pow W :=
  tab_of_reads gPow gTabType Tryd.underlying174 Tryd.underlying149 cells1 cellsA (laidMet.reads h hm)

theorem firstIs : Rows.laid_unicode_utf8_first = firstData := by kernel_rfl
theorem acceptIs : (Rows.laid_unicode_utf8_acceptRanges : DataW Unit) = acceptData := by kernel_rfl
theorem u8Extra : U8Extra Tryd.prog Tryd.lays260_ren :=
  { n3 := by kernel_rfl, n4 := by kernel_rfl, y3 := by kernel_rfl, y4 := by kernel_rfl, c5 := by kernel_rfl, c119 := by kernel_rfl, c138 := by kernel_rfl }
theorem utf8_of {W : World} {l : List (String × DataW Unit)} (h : laidMet Tryd.prog l W) (m3 : ("unicode/utf8.first", Rows.laid_unicode_utf8_first) ∈ l) (m4 : ("unicode/utf8.acceptRanges", Rows.laid_unicode_utf8_acceptRanges) ∈ l) :
    Lib.Utf8Tabs 6 7 W := by
  rw [firstIs] at m3
  rw [acceptIs] at m4
  exact utf8Tabs_of_readsT (U8Types.of260 Tryd.lays260) u8Extra (laidMet.reads h m3) (laidMet.reads h m4)

theorem gES : Tryd.prog.globalNamed "strconv.ErrSyntax" = some 2 := by kernel_rfl
theorem gESType : (Tryd.prog.globals[2]?).map (·.type) = some 75 := by kernel_rfl
theorem gER : Tryd.prog.globalNamed "strconv.ErrRange" = some 3 := by kernel_rfl
theorem gERType : (Tryd.prog.globals[3]?).map (·.type) = some 75 := by kernel_rfl
theorem cellsES : Tryd.prog.cellsOf 184 = 1 := by kernel_rfl
theorem cellsStr : Tryd.prog.cellsOf 9 = 1 := by kernel_rfl
theorem starES : "*" ++ "errors.errorString" = "*errors.errorString" := by decide
theorem rowES (u : TypeId) (h : Tryd.prog.typeName? 3 u = some "*errors.errorString") : u = 182 :=
  typeName_ptr_named (nm := "errors.errorString") (by rw [starES]; kernel_rfl) (by kernel_rfl) (by decide) u (by rw [starES]; exact h)
theorem errs_of {W : World} {r1 r2 : List (String × DataW Unit)} (h1 : laidMet Tryd.prog (("strconv.ErrRange", Rows.laid_strconv_ErrRange) :: r1) W) (h2 : laidMet Tryd.prog (("strconv.ErrSyntax", Rows.laid_strconv_ErrSyntax) :: r2) W) : Errs W := by
  obtain ⟨a1, s1, v1, -, -, -⟩ := laid_sentinel h1 gER gERType Tryd.underlying75 rowES Tryd.underlying182 Tryd.underlying184 rfl rfl Tryd.underlying9 cellsES cellsStr
  obtain ⟨a2, s2, v2, -, -, -⟩ := laid_sentinel h2 gES gESType Tryd.underlying75 rowES Tryd.underlying182 Tryd.underlying184 rfl rfl Tryd.underlying9 cellsES cellsStr
  exact ⟨⟨_, _, v2⟩, ⟨_, _, v1⟩⟩

/-- A witness: two errors in blocks of their own, behind the others. -/
noncomputable def layErrs (w : World) : World :=
  layBlocks ((w.alloc (.cells #[.string ⟨#[118, 97, 108, 117, 101, 32, 111, 117, 116, 32, 111, 102, 32, 114, 97, 110, 103, 101]⟩] 184)).alloc (.cells #[.string ⟨#[105, 110, 118, 97, 108, 105, 100, 32, 115, 121, 110, 116, 97, 120]⟩] 184))
    [(3, #[.iface 182 (.pointer (some ⟨w.heap.size, 0, none⟩))]), (2, #[.iface 182 (.pointer (some ⟨w.heap.size + 1, 0, none⟩))])]
end Go.Proofs.YtiocdmfmghanmaaDoor
