import Derived.Test.YthlmmfljeblflaaGreatDoorMc0
import Derived.ProofKit
import Derived.OpenShut
import Derived.Carry
import Derived.Deep.Slices
import Derived.Test.YthlmmfljeblflaaGreatDoorMc14
import Derived.Test.YthlmmfljeblflaaGreatDoorRows
import Derived.Lib.LaidU8T
import Derived.Lib.LaidTab
import Derived.Stop.LaidErr
import Derived.Test.YthlmmfljeblflaaGreatDoorMa0
import Derived.Test.YthlmmfljeblflaaGreatDoorMc9
import Derived.Test.YthlmmfljeblflaaGreatDoorMc23
/-! How arguments are opened, and how a law's row is closed where nothing old turns. -/
namespace Go
set_option linter.unusedSimpArgs false
set_option linter.unusedVariables false
open Go.RowKit Go.ChangeShapes Go.WideShapes

/-- nil, or with an address. -/
theorem SlAt.nilOr {α : Type} {k : Nat} {R : World → List Value → α → Prop} {w : World} {v : Value} {l : List α} (h : SlAt k R w v l) : v = .slice none 0 0 ∨ ∃ a c, v = .slice (some a) l.length c := by
  obtain ⟨a, cap, rfl, hl, hm, hnil, _⟩ := h
  cases a with
  | none =>
    have h0 := hnil rfl
    have : l.length = 0 := by omega
    rw [h0, this]; exact .inl rfl
  | some a => exact .inr ⟨a, cap, rfl⟩

theorem cells_slice {t e : TypeId} {P : Program} {w : World} {r : Reach} {b : Nat} {v u : Value} (ht : P.underlying t = some (.slice e)) (hv : Value.okWide P w r b t v) (h : v.cells.toList = [u]) : v = u := by
  obtain ⟨a, len, cap, rfl⟩ := okWide_slice ht hv
  simpa [Value.cells] using h
theorem cells_string {t : TypeId} {P : Program} {w : World} {r : Reach} {b : Nat} {v u : Value} (ht : P.underlying t = some .string) (hv : Value.okWide P w r b t v) (h : v.cells.toList = [u]) : v = u := by
  obtain ⟨s, rfl⟩ := okWide_string ht hv
  simpa [Value.cells] using h
theorem cells_int {t : TypeId} {k : IntKind} {P : Program} {w : World} {r : Reach} {b : Nat} {v u : Value} (ht : P.underlying t = some (.int k)) (hv : Value.okWide P w r b t v) (h : v.cells.toList = [u]) : v = u := by
  obtain ⟨n, rfl⟩ := okWide_int ht hv
  simpa [Value.cells] using h
/-- A law's row is met where it returns true and there are new blocks, no other. -/
theorem law_post {H : Type} {enc : TypeId × Value → H} {P : Program} {f : Func} {s : ChangeSpec} {W W' : World} {args : Array Value} {ds gs : List (DataW H)} {before : List MemPlace} {tb : TypeId}
    (hl : laidOutB P = true) (hr : f.params.toList.all (fun t => P.readableRec t && decide (t < P.types.size)) = true) (hv : s.vars = []) (hrt : f.resultTypes = #[tb]) (htb : P.underlying tb = some .bool)
    (hW : DataW.Whole enc P f.params.toList s.vars false W args.toList ds gs before) (hfn : ∀ gs, gs = [] → s.fn H (ds ++ gs) = { results := [.lit (.bool true)], args := ds }) (hg : Grew W W') :
    s.post enc P f false true false false W args (.bool true) W' := by
  have hW' := hW
  obtain ⟨p, q, hA, hV, rfl, hfz, hnd⟩ := hW
  have hlt : ∀ x ∈ p ++ q, x.block < W.heap.size := fun x hx => hW'.lt x hx
  rw [hv] at hV
  obtain ⟨rfl, rfl⟩ := trodVars_none hV
  have e := hfn [] rfl
  refine ⟨ds, [], p ++ [], [], p, [], hW', ?_, ?_, ?_, ?_, fun h => by cases h⟩
  · rw [e, hrt]
    exact ⟨[], [], shut_bool htb true, rfl, rfl⟩
  · rw [e]
    exact TrodAll.below hl hg.below _ _ _ _ (fun t ht => by simpa using List.all_eq_true.1 hr t ht) (fun x hx => hlt x (List.mem_append_left _ hx)) hA
  · rw [e, hv]; rfl
  · exact hg.below.frame _

/-- Of the listed variables the first one may be left off. -/
theorem laidMet_tail {P : Program} {x : String × DataW Unit} {r : List (String × DataW Unit)} {w : World} (h : laidMet P (x :: r) w) : laidMet P r w := by
  obtain ⟨ps, hv, hn, hc⟩ := h
  obtain ⟨g, t, cs, fuel, p, q, _, _, _, _, hr, rfl⟩ := hv
  exact ⟨q, hr, (List.nodup_append.1 hn).2.1, fun b off hm => hc b off (List.mem_append_right _ hm)⟩

/-- A table's cells, for a witness. -/
def litCell : DataW Unit → Value
  | .lit x => x.value
  | _ => undef
def tabCells : DataW Unit → Array Value
  | .agg l => (l.map litCell).toArray
  | _ => #[]
def tabCells2 : DataW Unit → Array Value
  | .agg l => (l.flatMap fun d => (tabCells d).toList).toArray
  | _ => #[]
/-- A world whose variables hold what is listed, for a witness: block by block. -/
noncomputable def layBlocks (w : World) : List (Nat × Array Value) → World
  | [] => w
  | (g, cs) :: l => layBlocks { w with heap := w.heap.modify g fun
      | .cells _ t frozen => .cells cs t frozen
      | o => o } l
end Go

/-! What the listed variables give the walks. -/
namespace Go.Proofs.YthlmmfljeblflaaGreatDoor
set_option linter.unusedSimpArgs false
set_option linter.unusedVariables false
open Go.RowKit Go.Lib
set_option maxRecDepth 100000

theorem gPow : Tryz.prog.globalNamed "internal/strconv.uint64pow10" = some 0 := by kernel_rfl
theorem gTabType : (Tryz.prog.globals[0]?).map (·.type) = some 186 := by kernel_rfl
theorem cellsA : Tryz.prog.cellsOf 186 = 20 := by kernel_rfl
theorem cells1 : Tryz.prog.cellsOf 151 = 1 := by kernel_rfl
theorem tab_of_reads {P : Program} {W : World} {name : String} {k : IntKind} {zs : List Int} {g : Nat} {t e : TypeId} {n : Nat}
    (hg : P.globalNamed name = some g) (hty : (P.globals[g]?).map (·.type) = some t) (ht : P.underlying t = some (.array n e)) (he : P.underlying e = some (.int k)) (hce : P.cellsOf e = 1) (hct : P.cellsOf t = n)
    (h : VarReads P W name (tabData k zs)) : TabIs P W name k zs := by
  obtain ⟨g', t', cs, fuel, p, hg', hty', hvar, hd⟩ := h
  obtain rfl := Option.some.inj (hg.symm.trans hg')
  obtain rfl := Option.some.inj (hty.symm.trans hty')
  have hcs := cells_of_tab ht he hce hct hd
  unfold TabIs
  rw [hvar]
  congr 1
  exact Array.toList_inj.1 hcs
theorem pow_of {W : World} {l : List (String × DataW Unit)} (h : laidMet Tryz.prog l W) (hm : ("internal/strconv.uint64pow10", Rows.laid_internal_strconv_uint64pow10) ∈ l) : Pow W :=
  tab_of_reads gPow gTabType Tryz.underlying186 Tryz.underlying151 cells1 cellsA (laidMet.reads h hm)


theorem gES : Tryz.prog.globalNamed "strconv.ErrSyntax" = some 2 := by kernel_rfl
theorem gESType : (Tryz.prog.globals[2]?).map (·.type) = some 97 := by kernel_rfl
theorem gER : Tryz.prog.globalNamed "strconv.ErrRange" = some 3 := by kernel_rfl
theorem gERType : (Tryz.prog.globals[3]?).map (·.type) = some 97 := by kernel_rfl
theorem cellsES : Tryz.prog.cellsOf 231 = 1 := by kernel_rfl
theorem cellsStr : Tryz.prog.cellsOf 9 = 1 := by kernel_rfl
theorem starES : "*" ++ "errors.errorString" = "*errors.errorString" := by decide
theorem rowES (u : TypeId) (h : Tryz.prog.typeName? 3 u = some "*errors.errorString") : u = 229 :=
  typeName_ptr_named (nm := "errors.errorString") (by rw [starES]; kernel_rfl) (by kernel_rfl) (by decide) u (by rw [starES]; exact h)
theorem errs_of {W : World} {r1 r2 : List (String × DataW Unit)} (h1 : laidMet Tryz.prog (("strconv.ErrRange", Rows.laid_strconv_ErrRange) :: r1) W) (h2 : laidMet Tryz.prog (("strconv.ErrSyntax", Rows.laid_strconv_ErrSyntax) :: r2) W) : Errs W := by
  obtain ⟨a1, s1, v1, -, -, -⟩ := laid_sentinel h1 gER gERType Tryz.underlying97 rowES Tryz.underlying229 Tryz.underlying231 rfl rfl Tryz.underlying9 cellsES cellsStr
  obtain ⟨a2, s2, v2, -, -, -⟩ := laid_sentinel h2 gES gESType Tryz.underlying97 rowES Tryz.underlying229 Tryz.underlying231 rfl rfl Tryz.underlying9 cellsES cellsStr
  exact ⟨⟨_, _, v2⟩, ⟨_, _, v1⟩⟩

/-- A witness: two errors in blocks of their own, behind the others. -/
noncomputable def layErrs (w : World) : World :=
  layBlocks ((w.alloc (.cells #[.string ⟨#[118, 97, 108, 117, 101, 32, 111, 117, 116, 32, 111, 102, 32, 114, 97, 110, 103, 101]⟩] 231)).alloc (.cells #[.string ⟨#[105, 110, 118, 97, 108, 105, 100, 32, 115, 121, 110, 116, 97, 120]⟩] 231))
    [(3, #[.iface 229 (.pointer (some ⟨w.heap.size, 0, none⟩))]), (2, #[.iface 229 (.pointer (some ⟨w.heap.size + 1, 0, none⟩))])]
end Go.Proofs.YthlmmfljeblflaaGreatDoor

/-! What the listed variables of layers 27 and 28 give the walks. -/
namespace Go.Proofs.YthlmmfljeblflaaGreatDoor
set_option linter.unusedSimpArgs false
set_option linter.unusedVariables false
open Go.RowKit Go.Lib
set_option maxRecDepth 100000

theorem ascIs : (Rows.laid_strings_asciiSpace : DataW Unit) = tabData .u8 Lib.asciiSpaceTab := by kernel_rfl
theorem gAsc : Tryz.prog.globalNamed "strings.asciiSpace" = some 4 := by kernel_rfl
theorem gAscType : (Tryz.prog.globals[4]?).map (·.type) = some 208 := by kernel_rfl
theorem cells256 : Tryz.prog.cellsOf 208 = 256 := by kernel_rfl
theorem cellsU8 : Tryz.prog.cellsOf 5 = 1 := by kernel_rfl
theorem asc_of {W : World} {l : List (String × DataW Unit)} (h : laidMet Tryz.prog l W) (hm : ("strings.asciiSpace", Rows.laid_strings_asciiSpace) ∈ l) : Asc W := by
  rw [ascIs] at hm
  exact tab_of_reads gAsc gAscType Tryz.underlying208 Tryz.underlying5 cellsU8 cells256 (laidMet.reads h hm)
theorem cellM_of {W : World} (h : W.ShapedOpen Tryz.prog) : CellM W := Tryz.laysM145.s1_3 W h
/-- What LinesTell's row lists. -/
theorem env27_of {W : World} (h : laidMet Tryz.prog Rows.linesTellRow.laid W) (hs : W.ShapedOpen Tryz.prog) : Env27 W :=
  ⟨cellM_of hs, errs_of (laidMet.tail (laidMet.tail (laidMet.tail (laidMet.tail h)))) (laidMet.tail (laidMet.tail (laidMet.tail (laidMet.tail (laidMet.tail h))))), pow_of h (.tail _ (.tail _ (.head _))), asc_of h (.tail _ (.tail _ (.tail _ (.tail _ (.tail _ (.tail _ (.tail _ (.head _))))))))⟩
/-- A witness: the table of white space. -/
noncomputable def layWhite (w : World) : World :=
  layBlocks ((w.alloc (.cells ((whiteT.map fun n : Nat => Value.int .u16 (n : Int)).toArray) 255)).alloc (.cells #[.slice (some ⟨w.heap.size, 0, none⟩) 7 7, .slice none 0 0, .int .i64 2] 252))
    [(7, #[.pointer (some ⟨w.heap.size + 1, 0, none⟩)])]
noncomputable def laidWorld27 (os : Os) : World := layWhite (layErrs (layBlocks (World.holding Tryz.prog os ⟨#[], #[], []⟩) [(8, tabCells Rows.laid_math_bits_deBruijn32tab), (9, tabCells Rows.laid_math_bits_deBruijn64tab), (0, tabCells Rows.laid_internal_strconv_uint64pow10), (6, tabCells2 Rows.laid_unicode_utf8_acceptRanges), (5, tabCells Rows.laid_unicode_utf8_first), (4, tabCells Rows.laid_strings_asciiSpace)]))
end Go.Proofs.YthlmmfljeblflaaGreatDoor

/-! Answers as arguments. -/
namespace Go.Proofs.YthlmmfljeblflaaGreatDoor
set_option linter.unusedSimpArgs false
set_option maxRecDepth 100000
set_option linter.unusedVariables false
open Go.RowKit Ga Go.ChangeShapes Go.WideShapes

theorem cells_errno : Tryz.prog.cellsOf 22 = 1 := by kernel_rfl
theorem cells_answer : Tryz.prog.cellsOf 24 = 3 := by kernel_rfl
theorem opens_errno : Opens Tryz.prog 22 (fun _ cs (n : Int) => cs = [Value.int .i64 n] ∧ True) := (Opens.i64 Tryz.underlying22).mono fun _ _ n h => ⟨n, h.1, trivial⟩
theorem opens_answer : Opens Tryz.prog 24 (fun _ cs (a : Int × Int × Bool) => cs = [Value.int .i64 a.1, Value.int .i64 a.2.1, Value.bool a.2.2] ∧ True) := by
  intro H enc w fuel cs x hx
  obtain ⟨hl, hf⟩ := Opens.fields Tryz.underlying24 hx
  rw [cells_answer] at hl
  match cs, hl with
  | [c0, c1, c2], _ =>
    obtain ⟨n0, y0, h0⟩ := hf 0 _ rfl
    obtain ⟨n1, y1, h1⟩ := hf 1 _ rfl
    obtain ⟨n2, y2, h2⟩ := hf 2 _ rfl
    have h0' : DataW.trod enc Tryz.prog w 0 (fun _ => true) true n0 22 (([c0, c1, c2].drop 0).take (Tryz.prog.cellsOf 22)) = some y0 := h0
    have h1' : DataW.trod enc Tryz.prog w 0 (fun _ => true) true n1 3 (([c0, c1, c2].drop 1).take (Tryz.prog.cellsOf 3)) = some y1 := h1
    have h2' : DataW.trod enc Tryz.prog w 0 (fun _ => true) true n2 4 (([c0, c1, c2].drop 2).take (Tryz.prog.cellsOf 4)) = some y2 := h2
    rw [cells_errno] at h0'
    rw [cells_int1] at h1'
    rw [cells_bool1] at h2'
    obtain ⟨i0, e0, -⟩ := opens_errno H enc w n0 _ _ h0'
    obtain ⟨i1, e1, -⟩ := opens_int1 H enc w n1 _ _ h1'
    obtain ⟨b2, e2, -⟩ := opens_bool1 H enc w n2 _ _ h2'
    simp at e0 e1 e2
    subst e0 e1 e2
    exact ⟨(i0, i1, b2), rfl, trivial⟩
theorem arg_answer {H : Type} {enc : TypeId × Value → H} {w : World} {v : Value} {d : DataW H} {ps : List MemPlace} {r : Reach} {b : Nat} (ho : Value.okWide Tryz.prog w r b 24 v) (h : DataW.Trod enc Tryz.prog w 0 (fun _ => true) true 24 v d ps) : ∃ (e n : Int) (d : Bool), v = .agg #[.int .i64 e, .int .i64 n, .bool d] := by
  obtain ⟨⟨e, n, d⟩, h1, h2⟩ := opens_answer.arg h
  exact ⟨e, n, d, cells_agg Tryz.underlying24 ho h1⟩
end Go.Proofs.YthlmmfljeblflaaGreatDoor
