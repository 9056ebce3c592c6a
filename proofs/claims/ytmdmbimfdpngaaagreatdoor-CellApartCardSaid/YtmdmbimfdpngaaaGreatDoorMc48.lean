import Derived.Test.YtmdmbimfdpngaaaGreatDoorMc5
import Derived.Test.YtmdmbimfdpngaaaGreatDoorMc18
import Derived.Test.YtmdmbimfdpngaaaGreatDoorMc43
import Derived.Test.YtmdmbimfdpngaaaGreatDoorMc15
import Derived.Test.YtmdmbimfdpngaaaGreatDoorMc35
import Derived.Test.YtmdmbimfdpngaaaGreatDoorRows
import Derived.Lib.LaidU8T
import Derived.Lib.LaidTab
import Derived.Stop.LaidErr
/-! Values as arguments. -/
namespace Go.Proofs.YtmdmbimfdpngaaaGreatDoor
set_option linter.unusedSimpArgs false
set_option maxRecDepth 100000
set_option linter.unusedVariables false
open Go.RowKit Ga Go.ChangeShapes Go.WideShapes

theorem cells_int1 : Tryz.prog.cellsOf 3 = 1 := by kernel_rfl
theorem cells_val : Tryz.prog.cellsOf 47 = 2 := by kernel_rfl
theorem opens_val : Opens Tryz.prog 47 (fun _ cs (a : Ga.Val) => cs = [Value.int .i64 a.1, Value.int .i64 a.2] ∧ okVal a) := by
  intro H enc w fuel cs x hx
  obtain ⟨hl, hf⟩ := Opens.fields Tryz.underlying47 hx
  rw [cells_val] at hl
  match cs, hl with
  | [c0, c1], _ =>
    obtain ⟨n0, y0, h0⟩ := hf 0 _ rfl
    obtain ⟨n1, y1, h1⟩ := hf 1 _ rfl
    have h0' : DataW.trod enc Tryz.prog w 0 (fun _ => true) true n0 3 (([c0, c1].drop 0).take (Tryz.prog.cellsOf 3)) = some y0 := h0
    have h1' : DataW.trod enc Tryz.prog w 0 (fun _ => true) true n1 3 (([c0, c1].drop 1).take (Tryz.prog.cellsOf 3)) = some y1 := h1
    rw [cells_int1] at h0' h1'
    obtain ⟨i0, e0, b0⟩ := Opens.i64 Tryz.underlying3 H enc w n0 _ _ h0'
    obtain ⟨i1, e1, b1⟩ := Opens.i64 Tryz.underlying3 H enc w n1 _ _ h1'
    simp at e0 e1
    subst e0 e1
    exact ⟨(i0, i1), rfl, b0, b1⟩
theorem laidOut : laidOutB Tryz.prog = true := by kernel_rfl
theorem cells_ins : Tryz.prog.cellsOf 124 = 2 := by kernel_rfl
theorem opens_ins : Opens Tryz.prog 124 (fun _ cs (a : Ga.Val) => cs = [Value.int .i64 a.1, Value.int .i64 a.2] ∧ okVal a) := by
  intro H enc w fuel cs x hx
  obtain ⟨hl, hf⟩ := Opens.fields Tryz.underlying124 hx
  rw [cells_ins] at hl
  match cs, hl with
  | [c0, c1], _ =>
    obtain ⟨n0, y0, h0⟩ := hf 0 _ rfl
    obtain ⟨n1, y1, h1⟩ := hf 1 _ rfl
    have h0' : DataW.trod enc Tryz.prog w 0 (fun _ => true) true n0 3 (([c0, c1].drop 0).take (Tryz.prog.cellsOf 3)) = some y0 := h0
    have h1' : DataW.trod enc Tryz.prog w 0 (fun _ => true) true n1 3 (([c0, c1].drop 1).take (Tryz.prog.cellsOf 3)) = some y1 := h1
    rw [cells_int1] at h0' h1'
    obtain ⟨i0, e0, b0⟩ := Opens.i64 Tryz.underlying3 H enc w n0 _ _ h0'
    obtain ⟨i1, e1, b1⟩ := Opens.i64 Tryz.underlying3 H enc w n1 _ _ h1'
    simp at e0 e1
    subst e0 e1
    exact ⟨(i0, i1), rfl, b0, b1⟩
theorem arg_inss {H : Type} {enc : TypeId × Value → H} {w : World} {v : Value} {d : DataW H} {ps : List MemPlace} {r : Reach} {b : Nat} (ho : Value.okWide Tryz.prog w r b 38 v) (h : DataW.Trod enc Tryz.prog w 0 (fun _ => true) true 38 v d ps) : ∃ l : List Ga.Val, ValsAt w v l ∧ ∀ a ∈ l, okVal a := by
  obtain ⟨l, u, h1, h2⟩ := (Opens.slice Tryz.underlying38 cells_ins (by decide) opens_ins).arg h
  obtain rfl := cells_slice Tryz.underlying38 ho h1
  exact ⟨l, h2.rows⟩
end Go.Proofs.YtmdmbimfdpngaaaGreatDoor

/-! Entries, records, numbers as arguments. -/
namespace Go.Proofs.YtmdmbimfdpngaaaGreatDoor
set_option linter.unusedSimpArgs false
set_option maxRecDepth 100000
set_option linter.unusedVariables false
open Go.RowKit Ga Go.ChangeShapes Go.WideShapes

theorem cellsO_arr : Tryz.prog.cellsOf 48 = 4 := by kernel_rfl
theorem cellsO_ent : Tryz.prog.cellsOf 53 = 6 := by kernel_rfl
theorem cellsO_rec : Tryz.prog.cellsOf 58 = 3 := by kernel_rfl
theorem opensI : Opens Tryz.prog 3 (fun _ cs (n : Int) => cs = [Value.int .i64 n] ∧ True) := (Opens.i64 Tryz.underlying3).mono fun _ _ n h => ⟨n, h.1, trivial⟩
theorem opensO_arr : Opens Tryz.prog 48 (fun _ cs (a : Ga.Val × Ga.Val) => cs = [Value.int .i64 a.1.1, Value.int .i64 a.1.2, Value.int .i64 a.2.1, Value.int .i64 a.2.2] ∧ True) := by
  intro H enc w fuel cs x hx
  obtain ⟨hl, hf⟩ := Opens.elems Tryz.underlying48 hx
  rw [cellsO_arr] at hl
  match cs, hl with
  | [c0, c1, c2, c3], _ =>
    obtain ⟨m0, y0, h0⟩ := hf 0 (by decide)
    obtain ⟨m1, y1, h1⟩ := hf 1 (by decide)
    rw [cells_val] at h0 h1
    obtain ⟨a, e0, -⟩ := opens_val H enc w m0 _ _ h0
    obtain ⟨b, e1, -⟩ := opens_val H enc w m1 _ _ h1
    simp at e0 e1
    obtain ⟨p0, p1⟩ := e0
    obtain ⟨p2, p3⟩ := e1
    subst p0 p1 p2 p3
    exact ⟨(a, b), rfl, trivial⟩
theorem opensO_ent : Opens Tryz.prog 53 (fun _ cs (x : Tab.En) => cs = encEn x ∧ True) := by
  intro H enc w fuel cs x hx
  obtain ⟨hl, hf⟩ := Opens.fields Tryz.underlying53 hx
  rw [cellsO_ent] at hl
  match cs, hl with
  | [c0, c1, c2, c3, c4, c5], _ =>
    obtain ⟨n0, y0, h0⟩ := hf 0 _ rfl
    obtain ⟨n1, y1, h1⟩ := hf 1 _ rfl
    obtain ⟨n2, y2, h2⟩ := hf 2 _ rfl
    have h0' : DataW.trod enc Tryz.prog w 0 (fun _ => true) true n0 3 (([c0, c1, c2, c3, c4, c5].drop 0).take (Tryz.prog.cellsOf 3)) = some y0 := h0
    rw [cells_int1] at h0'
    have h1' : DataW.trod enc Tryz.prog w 0 (fun _ => true) true n1 3 (([c0, c1, c2, c3, c4, c5].drop 1).take (Tryz.prog.cellsOf 3)) = some y1 := h1
    rw [cells_int1] at h1'
    have h2' : DataW.trod enc Tryz.prog w 0 (fun _ => true) true n2 48 (([c0, c1, c2, c3, c4, c5].drop 2).take (Tryz.prog.cellsOf 48)) = some y2 := h2
    rw [cellsO_arr] at h2'
    obtain ⟨i0, e0, -⟩ := opensI H enc w n0 _ _ h0'
    obtain ⟨i1, e1, -⟩ := opensI H enc w n1 _ _ h1'
    obtain ⟨⟨a, b⟩, e2, -⟩ := opensO_arr H enc w n2 _ _ h2'
    simp at e0 e1 e2
    obtain ⟨p0, p1, p2, p3⟩ := e2
    subst e0 e1 p0 p1 p2 p3
    exact ⟨⟨i0, i1, a, b⟩, rfl, trivial⟩
theorem opensO_rec : Opens Tryz.prog 58 (fun _ cs (x : Rc) => cs = encRc x ∧ True) := by
  intro H enc w fuel cs x hx
  obtain ⟨hl, hf⟩ := Opens.fields Tryz.underlying58 hx
  rw [cellsO_rec] at hl
  match cs, hl with
  | [c0, c1, c2], _ =>
    obtain ⟨n0, y0, h0⟩ := hf 0 _ rfl
    obtain ⟨n1, y1, h1⟩ := hf 1 _ rfl
    have h0' : DataW.trod enc Tryz.prog w 0 (fun _ => true) true n0 3 (([c0, c1, c2].drop 0).take (Tryz.prog.cellsOf 3)) = some y0 := h0
    rw [cells_int1] at h0'
    have h1' : DataW.trod enc Tryz.prog w 0 (fun _ => true) true n1 47 (([c0, c1, c2].drop 1).take (Tryz.prog.cellsOf 47)) = some y1 := h1
    rw [cells_val] at h1'
    obtain ⟨i0, e0, -⟩ := opensI H enc w n0 _ _ h0'
    obtain ⟨a, e1, -⟩ := opens_val H enc w n1 _ _ h1'
    simp at e0 e1
    obtain ⟨p0, p1⟩ := e1
    subst e0 p0 p1
    exact ⟨(i0, a), rfl, trivial⟩
theorem argO_ents {H : Type} {enc : TypeId × Value → H} {w : World} {v : Value} {d : DataW H} {ps : List MemPlace} {r : Reach} {b : Nat} (ho : Value.okWide Tryz.prog w r b 31 v) (h : DataW.Trod enc Tryz.prog w 0 (fun _ => true) true 31 v d ps) : ∃ l : List Tab.En, EntsAt w v l := by
  obtain ⟨l, u, h1, h2⟩ := (Opens.slice Tryz.underlying31 cellsO_ent (by decide) opensO_ent).arg h
  obtain rfl := cells_slice Tryz.underlying31 ho h1
  exact ⟨l, (SlAt.rows (enc := encEn) h2).1⟩
theorem argO_ints {H : Type} {enc : TypeId × Value → H} {w : World} {v : Value} {d : DataW H} {ps : List MemPlace} {r : Reach} {b : Nat} (ho : Value.okWide Tryz.prog w r b 29 v) (h : DataW.Trod enc Tryz.prog w 0 (fun _ => true) true 29 v d ps) : ∃ l : List Int, IntsAt w v l := by
  obtain ⟨l, u, h1, h2⟩ := (Opens.slice Tryz.underlying29 cells_int1 (by decide) opensI).arg h
  obtain rfl := cells_slice Tryz.underlying29 ho h1
  exact ⟨l, (SlAt.rows (enc := fun (x : Int) => [Value.int .i64 x]) h2).1⟩
theorem argO_inss {H : Type} {enc : TypeId × Value → H} {w : World} {v : Value} {d : DataW H} {ps : List MemPlace} {r : Reach} {b : Nat} (ho : Value.okWide Tryz.prog w r b 38 v) (h : DataW.Trod enc Tryz.prog w 0 (fun _ => true) true 38 v d ps) : ∃ l : List Ga.Val, ValsAt w v l := by
  obtain ⟨l, h1, _⟩ := arg_inss ho h
  exact ⟨l, h1⟩
theorem cellsO_rec2 : Tryz.prog.cellsOf 59 = 6 := by kernel_rfl
theorem opensO_rec2 : Opens Tryz.prog 59 (fun _ cs (a : Rc × Rc) => cs = encRc a.1 ++ encRc a.2 ∧ True) := by
  intro H enc w fuel cs x hx
  obtain ⟨hl, hf⟩ := Opens.elems Tryz.underlying59 hx
  rw [cellsO_rec2] at hl
  match cs, hl with
  | [c0, c1, c2, c3, c4, c5], _ =>
    obtain ⟨m0, y0, h0⟩ := hf 0 (by decide)
    obtain ⟨m1, y1, h1⟩ := hf 1 (by decide)
    rw [cellsO_rec] at h0 h1
    obtain ⟨a, e0, -⟩ := opensO_rec H enc w m0 _ _ h0
    obtain ⟨b, e1, -⟩ := opensO_rec H enc w m1 _ _ h1
    refine ⟨(a, b), ?_, trivial⟩
    have h6 : [c0, c1, c2, c3, c4, c5] = [c0, c1, c2] ++ [c3, c4, c5] := rfl
    rw [h6]
    simp at e0 e1
    rw [e0, e1]
theorem argO_rec2 {H : Type} {enc : TypeId × Value → H} {w : World} {v : Value} {d : DataW H} {ps : List MemPlace} {r : Reach} {b : Nat} (ho : Value.okWide Tryz.prog w r b 59 v) (h : DataW.Trod enc Tryz.prog w 0 (fun _ => true) true 59 v d ps) : ∃ k0 x0 y0 k1 x1 y1 : Int, v = .agg #[.int .i64 k0, .int .i64 x0, .int .i64 y0, .int .i64 k1, .int .i64 x1, .int .i64 y1] := by
  obtain ⟨⟨⟨k0, x0, y0⟩, ⟨k1, x1, y1⟩⟩, h1, _⟩ := opensO_rec2.arg h
  unfold Value.okWide at ho
  rw [Tryz.underlying59] at ho
  obtain ⟨c, rfl, _⟩ := ho
  refine ⟨k0, x0, y0, k1, x1, y1, ?_⟩
  have h2 : c.toList = _ := h1
  rw [← Array.toArray_toList (xs := c), h2]
  rfl
end Go.Proofs.YtmdmbimfdpngaaaGreatDoor

/-! What the listed variables give the walks. -/
namespace Go.Proofs.YtmdmbimfdpngaaaGreatDoor
set_option linter.unusedSimpArgs false
set_option linter.unusedVariables false
open Go.RowKit Go.Lib
set_option maxRecDepth 100000

theorem gTabType : (Tryz.prog.globals[1]?).map (·.type) = some 255 := by kernel_rfl
theorem cellsA : Tryz.prog.cellsOf 255 = 20 := by kernel_rfl
theorem cells1 : Tryz.prog.cellsOf 207 = 1 := by kernel_rfl
theorem tab_of_reads {P : Program} {W : World} {name : String} {k : IntKind} {zs : List Int} {g : Nat} {t e : TypeId} {n : Nat}
    (hg : P.globalNamed name = some g) (hty : (P.globals[g]?).map (·.type) = some t) (ht : P.underlying t = some (.array n e)) (he : P.underlying e = some (.int k)) (hce : P.cellsOf e = 1) (hct : P.cellsOf t = n)
    (h : VarReads P W name (tabData k zs)) : TabIs P W name k zs := by
  obtain ⟨g', t', cs, fuel, p, hg', hty', hvar, hd⟩ := h
  obtain rfl := Option.some.inj (hg.symm.trans hg')
  obtain rfl := Option.some.inj (hty.symm.trans hty')
  have hcs := cells_of_tab ht he hce hct hd
  unfold TabIs
  rw [hvar]
  congr 1
  exact Array.toList_inj.1 hcs
theorem pow_of {W : World} {l : List (String × DataW Unit)} (h : laidMet Tryz.prog l W) (hm : ("internal/strconv.uint64pow10", Rows.laid_internal_strconv_uint64pow10) ∈ l) : Pow W :=
  tab_of_reads gPow gTabType Tryz.underlying255 Tryz.underlying207 cells1 cellsA (laidMet.reads h hm)

theorem gES : Tryz.prog.globalNamed "strconv.ErrSyntax" = some 3 := by kernel_rfl
theorem gESType : (Tryz.prog.globals[3]?).map (·.type) = some 145 := by kernel_rfl
theorem gER : Tryz.prog.globalNamed "strconv.ErrRange" = some 4 := by kernel_rfl
theorem gERType : (Tryz.prog.globals[4]?).map (·.type) = some 145 := by kernel_rfl
theorem cellsES : Tryz.prog.cellsOf 303 = 1 := by kernel_rfl
theorem cellsStr : Tryz.prog.cellsOf 9 = 1 := by kernel_rfl
theorem starES : "*" ++ "errors.errorString" = "*errors.errorString" := by decide
theorem rowES (u : TypeId) (h : Tryz.prog.typeName? 3 u = some "*errors.errorString") : u = 301 :=
  typeName_ptr_named (nm := "errors.errorString") (by rw [starES]; kernel_rfl) (by kernel_rfl) (by decide) u (by rw [starES]; exact h)
theorem errs_of {W : World} {r1 r2 : List (String × DataW Unit)} (h1 : laidMet Tryz.prog (("strconv.ErrRange", Rows.laid_strconv_ErrRange) :: r1) W) (h2 : laidMet Tryz.prog (("strconv.ErrSyntax", Rows.laid_strconv_ErrSyntax) :: r2) W) : Errs W := by
  obtain ⟨a1, s1, v1, -, -, -⟩ := laid_sentinel h1 gER gERType Tryz.underlying145 rowES Tryz.underlying301 Tryz.underlying303 rfl rfl Tryz.underlying9 cellsES cellsStr
  obtain ⟨a2, s2, v2, -, -, -⟩ := laid_sentinel h2 gES gESType Tryz.underlying145 rowES Tryz.underlying301 Tryz.underlying303 rfl rfl Tryz.underlying9 cellsES cellsStr
  exact ⟨⟨_, _, v2⟩, ⟨_, _, v1⟩⟩

/-- A witness: two errors in blocks of their own, behind the others. -/
noncomputable def layErrs (w : World) : World :=
  layBlocks ((w.alloc (.cells #[.string ⟨#[118, 97, 108, 117, 101, 32, 111, 117, 116, 32, 111, 102, 32, 114, 97, 110, 103, 101]⟩] 303)).alloc (.cells #[.string ⟨#[105, 110, 118, 97, 108, 105, 100, 32, 115, 121, 110, 116, 97, 120]⟩] 303))
    [(4, #[.iface 301 (.pointer (some ⟨w.heap.size, 0, none⟩))]), (3, #[.iface 301 (.pointer (some ⟨w.heap.size + 1, 0, none⟩))])]
end Go.Proofs.YtmdmbimfdpngaaaGreatDoor

/-! What the listed variables of layer 4's rows give the walks. -/
namespace Go.Proofs.YtmdmbimfdpngaaaGreatDoor
set_option linter.unusedSimpArgs false
set_option linter.unusedVariables false
open Go.RowKit Go.Lib
set_option maxRecDepth 100000

theorem ascIs : (Rows.laid_strings_asciiSpace : DataW Unit) = tabData .u8 Lib.asciiSpaceTab := by kernel_rfl
theorem gAsc : Tryz.prog.globalNamed "strings.asciiSpace" = some 0 := by kernel_rfl
theorem gAscType : (Tryz.prog.globals[0]?).map (·.type) = some 225 := by kernel_rfl
theorem cells256 : Tryz.prog.cellsOf 225 = 256 := by kernel_rfl
theorem cellsU8 : Tryz.prog.cellsOf 5 = 1 := by kernel_rfl
theorem asc_of {W : World} {l : List (String × DataW Unit)} (h : laidMet Tryz.prog l W) (hm : ("strings.asciiSpace", Rows.laid_strings_asciiSpace) ∈ l) : Asc W := by
  rw [ascIs] at hm
  exact tab_of_reads gAsc gAscType Tryz.underlying225 Tryz.underlying5 cellsU8 cells256 (laidMet.reads h hm)
theorem cellM_of {W : World} (h : W.ShapedOpen Tryz.prog) : CellM W := Tryz.laysM145.s1_3 W h

/-- What the rows list. -/
theorem env4_of {W : World} (h : laidMet Tryz.prog Rows.cellApartRow.laid W) (hs : W.ShapedOpen Tryz.prog) : Env4 W :=
  ⟨cellM_of hs, errs_of (laidMet.tail (laidMet.tail (laidMet.tail h))) (laidMet.tail (laidMet.tail (laidMet.tail (laidMet.tail h)))), pow_of h (.tail _ (.tail _ (.head _))), asc_of h (.tail _ (.tail _ (.tail _ (.tail _ (.tail _ (.tail _ (.head _)))))))⟩

/-- A witness: the table of white space. -/
noncomputable def layWhite (w : World) : World :=
  layBlocks ((w.alloc (.cells ((whiteT.map fun n : Nat => Value.int .u16 (n : Int)).toArray) 310)).alloc (.cells #[.slice (some ⟨w.heap.size, 0, none⟩) 7 7, .slice none 0 0, .int .i64 2] 307))
    [(5, #[.pointer (some ⟨w.heap.size + 1, 0, none⟩)])]
noncomputable def laidWorld4 (os : Os) : World := layWhite (layErrs (layBlocks (World.holding Tryz.prog os ⟨#[], #[], []⟩) [(8, tabCells Rows.laid_math_bits_deBruijn32tab), (9, tabCells Rows.laid_math_bits_deBruijn64tab), (1, tabCells Rows.laid_internal_strconv_uint64pow10), (0, tabCells Rows.laid_strings_asciiSpace)]))
end Go.Proofs.YtmdmbimfdpngaaaGreatDoor
