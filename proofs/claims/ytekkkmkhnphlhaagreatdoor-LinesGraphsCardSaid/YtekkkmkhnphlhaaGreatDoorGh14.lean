import Derived.Test.YtekkkmkhnphlhaaGreatDoorGh10
import Derived.Test.YtekkkmkhnphlhaaGreatDoorGh0
import Derived.Test.YtekkkmkhnphlhaaGreatDoorGh8
import Derived.Lib.ConvBytes
import Derived.Laws.BitsAllLaws
import Derived.Test.YtekkkmkhnphlhaaGreatDoorGh2
import Derived.Lib.AtoiTie
import Derived.Lib.PathFns
import Derived.Test.YtekkkmkhnphlhaaGreatDoorGh9
import Derived.Test.YtekkkmkhnphlhaaGreatDoorGh7
import Derived.Deep.LoopGhost
import Derived.Deep.DeepCutAuto
import Derived.Deep.QuietTactic
import Derived.BigQuiet
import Derived.Test.YtekkkmkhnphlhaaGreatDoorGh3
import Derived.Test.YtekkkmkhnphlhaaGreatDoorGh4
import Derived.Test.YtekkkmkhnphlhaaGreatDoorGh5
import Derived.Test.YtekkkmkhnphlhaaGreatDoorRows
import Derived.Lib.LaidU8T
import Derived.Lib.LaidTab
import Derived.Stop.LaidErr
/-! octet.Reader. -/
namespace Go.Proofs.YtekkkmkhnphlhaaGreatDoor
set_option linter.unusedSimpArgs false
set_option linter.unusedVariables false
open Go.RowKit
set_option maxRecDepth 100000

/-- The reader at block B: what is left. -/
def ReaderAt (base B : Nat) (W : World) (s : List UInt8) : Prop :=
  base ≤ B ∧ W.heap[B]? = some (.cells #[.string ⟨s.toArray⟩] 168)

theorem ReaderAt.grew {base B : Nat} {W W' : World} {s : List UInt8} (h : ReaderAt base B W s) (g : Grew W W') : ReaderAt base B W' s :=
  ⟨h.1, by rw [g.below.block B (Array.getElem?_eq_some_iff.1 h.2).1]; exact h.2⟩

/-- What Within does. -/
def within (s : List UInt8) (a b : Int) : Int × Int × List UInt8 := if s.length < 4 then (0, 3, s) else if Oc.num s < a ∨ b < Oc.num s then (0, 2, s) else (Oc.num s, 0, s.drop 4)

theorem own_ne {α : Type} {base B : Nat} {e t : TypeId} {k : Nat} {enc : α → List Value} {w : World} {v : Value} {l : List α} {c : Array Value} {f : Nat × Nat} (ho : OwnAt base e k enc w v l) (h : w.heap[B]? = some (.cells c t f)) (ht : t ≠ e) : v.ownBlock ≠ some B := by
  intro q
  obtain ⟨h1, h2⟩ := ho
  rcases h2 with ⟨rfl, _⟩ | ⟨g, cap, cur, rfl, hb, hh, _⟩
  · cases q
  · cases q
    rw [show (Addr.block ⟨g, 0, none⟩) = g from rfl] at h
    rw [hh] at h
    cases h
    exact ht rfl

theorem WriterAt.grew {base B : Nat} {W W' : World} {vb : Value} {bs : List UInt8} (h : WriterAt base B W vb bs) (g : Grew W W') : WriterAt base B W' vb bs :=
  ⟨h.1, by rw [g.below.block B (Array.getElem?_eq_some_iff.1 h.2.1).1]; exact h.2.1, h.2.2.grew g⟩

end Go.Proofs.YtekkkmkhnphlhaaGreatDoor

/-! gauss.Parse. -/
namespace Go.Proofs.YtekkkmkhnphlhaaGreatDoor
open Go.RowKit Ga
set_option linter.unusedSimpArgs false
set_option linter.unusedVariables false
set_option maxRecDepth 100000

/-- What strconv's errors are. -/
def Errs (w : World) : Prop := (∃ tp p, w.var? Tryz.prog "strconv.ErrSyntax" = some #[.iface tp p]) ∧ (∃ tp p, w.var? Tryz.prog "strconv.ErrRange" = some #[.iface tp p])
theorem Errs.grew {w w' : World} (h : Errs w) (g : Grew w w') : Errs w' := by
  obtain ⟨⟨t, p, h1⟩, ⟨t2, p2, h2⟩⟩ := h
  exact ⟨⟨t, p, var_grew h1 g⟩, ⟨t2, p2, var_grew h2 g⟩⟩

end Go.Proofs.YtekkkmkhnphlhaaGreatDoor

/-! slices.Equal at numbers and at instructions. -/
namespace Go.Proofs.YtekkkmkhnphlhaaGreatDoor
set_option linter.unusedSimpArgs false
set_option linter.unusedVariables false
open Go.RowKit Ga
set_option maxRecDepth 100000

set_option maxHeartbeats 4000000 in
theorem eqInts_any (v u : Value) (l m : List Int) (w : World) (hv : IntsAt w v l) (hu : IntsAt w u m) : Calls Tryz.prog 207 #[v, u] w (Gives (.bool (decide (l = m))) w) := by
  have HV := Lib.hid hv
  have HU := Lib.hid hu
  obtain ⟨a, cap, rfl, hm, -⟩ := ints_open hv
  obtain ⟨a2, cap2, rfl, hm2, -⟩ := ints_open hu
  clear hv hu
  by_cases hlen : l.length = m.length
  · have hD2 : ((l.length : Int) != (m.length : Int)) = false := by rw [hlen]; simp
    have HLEN := Lib.hid hlen
    clear hlen
    go_enter Tryz.func207, Tryz.ntmps207
    go_wp2
    go_loopg [13] l.length (fun gg s13 wr => ∃ g : Nat, g ≤ l.length ∧ l.length - g ≤ gg ∧ s13 = .int .i64 g ∧ Hid (Grew w wr) ∧ Hid (l.take g = m.take g))
    case atStart => exact ⟨0, by omega, by omega, rfl, Lib.hid (by repeat (first | with_reducible exact Grew.refl _ | apply Grew.more | apply Grew.alloc | apply Grew.drew | apply Grew.drewN)), Lib.hid rfl⟩
    case round =>
      obtain ⟨g, hg8, hgg, rfl, HGR, HNO⟩ := hrel
      by_cases hlt : g < l.length
      · have hlt2 : g < m.length := by have := HLEN.out; omega
        obtain ⟨av, cv, e, -, hx⟩ := ints_open (HV.out.grew HGR.out)
        cases e
        obtain ⟨av2, cv2, e, -, hx2⟩ := ints_open (HU.out.grew HGR.out)
        cases e
        obtain ⟨b, off, rfl, hb, cx⟩ := hx g hlt
        obtain ⟨b2, off2, rfl, hb2, dx⟩ := hx2 g hlt2
        have hs := take_eq_succ hlt hlt2 HNO.out
        have hf := neq_at hlt hlt2
        have HS := Lib.hid hs
        have HF := Lib.hid hf
        clear hx hx2 hs hf
        generalize l[g] = x at *
        generalize m[g] = y at *
        by_cases hr : x = y
        · cases hr
          go_upto_region 6 with fail
          go_quiet (fail)
          go_wp2
          go_roundg (l.length - (g + 1))
          case measure => omega
          case rel => exact ⟨g + 1, by omega, by omega, by go_num, Lib.hid (HGR.out.trans (by repeat (first | with_reducible exact Grew.refl _ | apply Grew.more | apply Grew.alloc | apply Grew.drew | apply Grew.drewN))), Lib.hid (HS.out (by first | exact rfl | trivial))⟩
        · have HR := Lib.hid hr
          have hfin : decide (l = m) = false := decide_eq_false (HF.out hr)
          have HFIN := Lib.hid hfin
          have hne : (x != y) = true := by rw [bne_iff_ne]; exact hr
          clear hr hfin
          go_upto_region 6 with fail
          go_quiet (fail)
          go_wp2
          go_ret
          exact ⟨by rw [HFIN.out]; rfl, HGR.out.trans (by repeat (first | with_reducible exact Grew.refl _ | apply Grew.more | apply Grew.alloc | apply Grew.drew | apply Grew.drewN))⟩
      · obtain rfl : g = l.length := by omega
        have hz := HNO.out
        rw [List.take_length, List.take_of_length_le (by have := HLEN.out; omega)] at hz
        have hfin : decide (l = m) = true := decide_eq_true hz
        have HFIN := Lib.hid hfin
        clear hz hfin
        go_wp2
        go_ret
        exact ⟨by rw [HFIN.out]; rfl, HGR.out⟩
  · have hD2 : ((l.length : Int) != (m.length : Int)) = true := by rw [bne_iff_ne]; omega
    have hfin : decide (l = m) = false := decide_eq_false fun h => hlen (by rw [h])
    have HFIN := Lib.hid hfin
    clear hfin hlen
    go_enter Tryz.func207, Tryz.ntmps207
    go_wp2
    go_ret
    exact ⟨by rw [HFIN.out]; rfl, by repeat (first | with_reducible exact Grew.refl _ | apply Grew.more | apply Grew.alloc | apply Grew.drew | apply Grew.drewN)⟩
set_option maxHeartbeats 4000000 in
theorem eqVals_any (v u : Value) (l m : List Val) (w : World) (hv : ValsAt w v l) (hu : ValsAt w u m) : Calls Tryz.prog 208 #[v, u] w (Gives (.bool (decide (l = m))) w) := by
  have HV := Lib.hid hv
  have HU := Lib.hid hu
  obtain ⟨a, cap, rfl, hm, -⟩ := hv.open2
  obtain ⟨a2, cap2, rfl, hm2, -⟩ := hu.open2
  clear hv hu
  by_cases hlen : l.length = m.length
  · have hD2 : ((l.length : Int) != (m.length : Int)) = false := by rw [hlen]; simp
    have HLEN := Lib.hid hlen
    clear hlen
    go_enter Tryz.func208, Tryz.ntmps208
    go_wp2
    go_loopg [13] l.length (fun gg s13 wr => ∃ g : Nat, g ≤ l.length ∧ l.length - g ≤ gg ∧ s13 = .int .i64 g ∧ Hid (Grew w wr) ∧ Hid (l.take g = m.take g))
    case atStart => exact ⟨0, by omega, by omega, rfl, Lib.hid (by repeat (first | with_reducible exact Grew.refl _ | apply Grew.more | apply Grew.alloc | apply Grew.drew | apply Grew.drewN)), Lib.hid rfl⟩
    case round =>
      obtain ⟨g, hg8, hgg, rfl, HGR, HNO⟩ := hrel
      by_cases hlt : g < l.length
      · have hlt2 : g < m.length := by have := HLEN.out; omega
        obtain ⟨av, cv, e, -, hx⟩ := (HV.out.grew HGR.out).open2
        cases e
        obtain ⟨av2, cv2, e, -, hx2⟩ := (HU.out.grew HGR.out).open2
        cases e
        obtain ⟨b, off, rfl, hb, cx, cy⟩ := hx g hlt
        obtain ⟨b2, off2, rfl, hb2, dx, dy⟩ := hx2 g hlt2
        have hs := take_eq_succ hlt hlt2 HNO.out
        have hf := neq_at hlt hlt2
        have HS := Lib.hid hs
        have HF := Lib.hid hf
        clear hx hx2 hs hf
        generalize l[g] = x at *
        generalize m[g] = y at *
        obtain ⟨x, x'⟩ := x
        obtain ⟨y, y'⟩ := y
        simp only at cx cy dx dy
        by_cases hr : ((x, x') : Val) = (y, y')
        · cases hr
          go_upto_region 6 with fail
          go_quiet (fail)
          go_wp2
          go_roundg (l.length - (g + 1))
          case measure => omega
          case rel => exact ⟨g + 1, by omega, by omega, by go_num, Lib.hid (HGR.out.trans (by repeat (first | with_reducible exact Grew.refl _ | apply Grew.more | apply Grew.alloc | apply Grew.drew | apply Grew.drewN))), Lib.hid (HS.out (by first | exact rfl | trivial))⟩
        · have HR := Lib.hid hr
          have hfin : decide (l = m) = false := decide_eq_false (HF.out hr)
          have HFIN := Lib.hid hfin
          have hq := run_neq_ins x x' y y' true (by
            have := HR.out
            by_cases e1 : x = y <;> by_cases e2 : x' = y' <;> simp [e1, e2]
            exact this (by rw [e1, e2]))
          clear hr hfin
          go_upto_region 6 with fail
          go_quiet (fail)
          go_wp2
          go_ret
          exact ⟨by rw [HFIN.out]; rfl, HGR.out.trans (by repeat (first | with_reducible exact Grew.refl _ | apply Grew.more | apply Grew.alloc | apply Grew.drew | apply Grew.drewN))⟩
      · obtain rfl : g = l.length := by omega
        have hz := HNO.out
        rw [List.take_length, List.take_of_length_le (by have := HLEN.out; omega)] at hz
        have hfin : decide (l = m) = true := decide_eq_true hz
        have HFIN := Lib.hid hfin
        clear hz hfin
        go_wp2
        go_ret
        exact ⟨by rw [HFIN.out]; rfl, HGR.out⟩
  · have hD2 : ((l.length : Int) != (m.length : Int)) = true := by rw [bne_iff_ne]; omega
    have hfin : decide (l = m) = false := decide_eq_false fun h => hlen (by rw [h])
    have HFIN := Lib.hid hfin
    clear hfin hlen
    go_enter Tryz.func208, Tryz.ntmps208
    go_wp2
    go_ret
    exact ⟨by rw [HFIN.out]; rfl, by repeat (first | with_reducible exact Grew.refl _ | apply Grew.more | apply Grew.alloc | apply Grew.drew | apply Grew.drewN)⟩
end Go.Proofs.YtekkkmkhnphlhaaGreatDoor

/-! code.Put, forebayref01.Put and Get, forebayref04.Put. -/
namespace Go.Proofs.YtekkkmkhnphlhaaGreatDoor
set_option linter.unusedSimpArgs false
set_option linter.unusedVariables false
open Go.RowKit Ga
set_option maxRecDepth 100000

/-- A program's numbers. -/
def nums (l : List Val) : List Int := l.flatMap fun i => [i.1, i.2]
def putI (l : List Val) : List UInt8 := Oc.be l.length ++ Oc.bes (nums l)
theorem nums_len : ∀ (l : List Val), (nums l).length = l.length * 2
  | [] => rfl
  | i :: l => by have := nums_len l; unfold nums at *; simp at *; omega
/-! ### the document's -/
end Go.Proofs.YtekkkmkhnphlhaaGreatDoor

/-! octet.Writer: what a write leaves as it was. -/
namespace Go.Proofs.YtekkkmkhnphlhaaGreatDoor
set_option linter.unusedSimpArgs false
set_option linter.unusedVariables false
open Go.RowKit Ga
set_option maxRecDepth 100000

/-- all blocks stand as they stood but the writer's own -/
def KeptW (base B : Nat) (W W' : World) : Prop := W.heap.size ≤ W'.heap.size ∧ ∀ q, q < W.heap.size → q ≠ B → Safe base q W → W'.heap[q]? = W.heap[q]?
theorem KeptW.refl (base B : Nat) (W : World) : KeptW base B W W := ⟨Nat.le_refl _, fun _ _ _ _ => rfl⟩
theorem KeptW.ofGrew {base B : Nat} {W W' : World} (g : Grew W W') : KeptW base B W W' := ⟨g.below.size, fun q hq _ _ => g.below.block q hq⟩
theorem KeptW.trans {base B : Nat} {a b c : World} (h : KeptW base B a b) (k : KeptW base B b c) : KeptW base B a c :=
  ⟨Nat.le_trans h.1 k.1, fun q hq hn hs => by
    have h1 := h.2 q hq hn hs
    rw [k.2 q (Nat.lt_of_lt_of_le hq h.1) hn (hs.sameBlock h1), h1]⟩
theorem KeptW.step {base B : Nat} {wr W9 : World} {o : Obj} {vk v9 : Value} {ys : List UInt8} (hw : WriterAt base B wr vk ys) (hk : ∀ q, q < (wr.alloc o).heap.size → vk.ownBlock ≠ some q → W9.heap[q]? = (wr.alloc o).heap[q]?) : KeptW base B wr (W9.setCell ⟨B, 0, none⟩ v9) := by
  have hat : ∀ q, q < wr.heap.size → q ≠ B → Safe base q wr → (W9.setCell ⟨B, 0, none⟩ v9).heap[q]? = wr.heap[q]? := fun q hq hn hs => by
    rw [heap_set_other (fun e => hn e.symm), hk q (by rw [World.size_alloc]; omega) (hs.own hw.2.2)]
    have : wr.heap[q]? = some wr.heap[q] := Array.getElem?_eq_getElem hq
    rw [this]
    exact heap_alloc_old this _
  refine ⟨?_, hat⟩
  rw [World.size_setCell]
  have hne : vk.ownBlock ≠ some wr.heap.size := fun e => by
    have := (World.ownsRow.lt hw.2.2 _ e).2
    omega
  have h1 := hk wr.heap.size (by rw [World.size_alloc]; omega) hne
  rw [heap_new_at wr o _ rfl] at h1
  have := (Array.getElem?_eq_some_iff.1 h1).1
  omega
end Go.Proofs.YtekkkmkhnphlhaaGreatDoor

/-! code.Get and forebayref04.Get. -/
namespace Go.Proofs.YtekkkmkhnphlhaaGreatDoor
set_option linter.unusedSimpArgs false
set_option linter.unusedVariables false
open Go.RowKit Ga
set_option maxRecDepth 100000

end Go.Proofs.YtekkkmkhnphlhaaGreatDoor

/-! A program's bytes: what is put is got, what is got was put. -/
namespace Go.Proofs.YtekkkmkhnphlhaaGreatDoor
set_option linter.unusedSimpArgs false
set_option linter.unusedVariables false
open Go.RowKit Ga
set_option maxRecDepth 100000

end Go.Proofs.YtekkkmkhnphlhaaGreatDoor

/-! What the listed variables give the walks. -/
namespace Go.Proofs.YtekkkmkhnphlhaaGreatDoor
set_option linter.unusedSimpArgs false
set_option linter.unusedVariables false
open Go.RowKit Go.Lib
set_option maxRecDepth 100000

theorem gTabType : (Tryz.prog.globals[6]?).map (·.type) = some 265 := by kernel_rfl
theorem cellsA : Tryz.prog.cellsOf 265 = 20 := by kernel_rfl
theorem cells1 : Tryz.prog.cellsOf 225 = 1 := by kernel_rfl
theorem tab_of_reads {P : Program} {W : World} {name : String} {k : IntKind} {zs : List Int} {g : Nat} {t e : TypeId} {n : Nat}
    (hg : P.globalNamed name = some g) (hty : (P.globals[g]?).map (·.type) = some t) (ht : P.underlying t = some (.array n e)) (he : P.underlying e = some (.int k)) (hce : P.cellsOf e = 1) (hct : P.cellsOf t = n)
    (h : VarReads P W name (tabData k zs)) : TabIs P W name k zs := by
  obtain ⟨g', t', cs, fuel, p, hg', hty', hvar, hd⟩ := h
  obtain rfl := Option.some.inj (hg.symm.trans hg')
  obtain rfl := Option.some.inj (hty.symm.trans hty')
  have hcs := cells_of_tab ht he hce hct hd
  unfold TabIs
  rw [hvar]
  congr 1
  exact Array.toList_inj.1 hcs
theorem pow_of {W : World} {l : List (String × DataW Unit)} (h : laidMet Tryz.prog l W) (hm : ("internal/strconv.uint64pow10", Rows.laid_internal_strconv_uint64pow10) ∈ l) : Pow W :=
  tab_of_reads gPow gTabType Tryz.underlying265 Tryz.underlying225 cells1 cellsA (laidMet.reads h hm)

theorem gES : Tryz.prog.globalNamed "strconv.ErrSyntax" = some 4 := by kernel_rfl
theorem gESType : (Tryz.prog.globals[4]?).map (·.type) = some 101 := by kernel_rfl
theorem gER : Tryz.prog.globalNamed "strconv.ErrRange" = some 5 := by kernel_rfl
theorem gERType : (Tryz.prog.globals[5]?).map (·.type) = some 101 := by kernel_rfl
theorem cellsES : Tryz.prog.cellsOf 289 = 1 := by kernel_rfl
theorem cellsStr : Tryz.prog.cellsOf 9 = 1 := by kernel_rfl
theorem starES : "*" ++ "errors.errorString" = "*errors.errorString" := by decide
theorem rowES (u : TypeId) (h : Tryz.prog.typeName? 3 u = some "*errors.errorString") : u = 287 :=
  typeName_ptr_named (nm := "errors.errorString") (by rw [starES]; kernel_rfl) (by kernel_rfl) (by decide) u (by rw [starES]; exact h)
theorem errs_of {W : World} {r1 r2 : List (String × DataW Unit)} (h1 : laidMet Tryz.prog (("strconv.ErrRange", Rows.laid_strconv_ErrRange) :: r1) W) (h2 : laidMet Tryz.prog (("strconv.ErrSyntax", Rows.laid_strconv_ErrSyntax) :: r2) W) : Errs W := by
  obtain ⟨a1, s1, v1, -, -, -⟩ := laid_sentinel h1 gER gERType Tryz.underlying101 rowES Tryz.underlying287 Tryz.underlying289 rfl rfl Tryz.underlying9 cellsES cellsStr
  obtain ⟨a2, s2, v2, -, -, -⟩ := laid_sentinel h2 gES gESType Tryz.underlying101 rowES Tryz.underlying287 Tryz.underlying289 rfl rfl Tryz.underlying9 cellsES cellsStr
  exact ⟨⟨_, _, v2⟩, ⟨_, _, v1⟩⟩

/-- A witness: two errors in blocks of their own, behind the others. -/
noncomputable def layErrs (w : World) : World :=
  layBlocks ((w.alloc (.cells #[.string ⟨#[118, 97, 108, 117, 101, 32, 111, 117, 116, 32, 111, 102, 32, 114, 97, 110, 103, 101]⟩] 289)).alloc (.cells #[.string ⟨#[105, 110, 118, 97, 108, 105, 100, 32, 115, 121, 110, 116, 97, 120]⟩] 289))
    [(5, #[.iface 287 (.pointer (some ⟨w.heap.size, 0, none⟩))]), (4, #[.iface 287 (.pointer (some ⟨w.heap.size + 1, 0, none⟩))])]
end Go.Proofs.YtekkkmkhnphlhaaGreatDoor
