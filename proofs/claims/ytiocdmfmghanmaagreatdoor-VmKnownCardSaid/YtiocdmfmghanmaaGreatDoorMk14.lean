import Derived.Test.YtiocdmfmghanmaaGreatDoorGaussB
import Derived.Test.YtiocdmfmghanmaaGreatDoorDigits
import Derived.Test.YtiocdmfmghanmaaGreatDoorTextMath
import Derived.Test.YtiocdmfmghanmaaGreatDoorShelf
import Derived.Lib.LaidTab
import Derived.WalkSmall
/-! Texts of values. -/
namespace Go.Proofs.YtiocdmfmghanmaaGreatDoor
set_option linter.unusedSimpArgs false
set_option linter.unusedVariables false
open Go.RowKit Ga

theorem grew_grow (w : World) (k : Nat) (os : Array Obj) : Grew w (Sort.grow (w.drewN k) os) := ⟨os, w.drawn + k, rfl⟩
theorem grew_bytes (w : World) (t : TypeId) (x : ByteArray) : Grew w (Lib.bytesWorld w t x) := by
  apply Grew.ofBelow
  unfold Lib.bytesWorld
  exact below_freeze (((Below.refl _ _).drew).alloc (Nat.le_refl _) _) (p := ⟨w.heap.size, _, none⟩) (Nat.le_refl w.heap.size) _

/-- The table that strconv.Itoa reads. -/
def Pow (w : World) : Prop := Lib.TabIs Tryz.prog w "internal/strconv.uint64pow10" .u64 Lib.pow10Tab
theorem gPow : Tryz.prog.globalNamed "internal/strconv.uint64pow10" = some 5 := by kernel_rfl
theorem var_grew {n : String} {cs : Array Value} {w w' : World} (h : w.var? Tryz.prog n = some cs) (g : Grew w w') : w'.var? Tryz.prog n = some cs := by
  cases hg : Tryz.prog.globalNamed n with
  | none => unfold World.var? at h; simp [hg] at h
  | some i =>
    by_cases hi : i < w.heap.size
    · exact var?_below g.below hg hi h
    · unfold World.var? at h
      have : w.heap[i]? = none := Array.getElem?_eq_none (by omega)
      simp [hg, this] at h
theorem Pow.grew {w w' : World} (h : Pow w) (g : Grew w w') : Pow w' := var_grew h g

/-- A value's text. -/
def textV (a : Val) : List UInt8 := Lib.itoa (into a.1) ++ (if into a.2 < 0 then [] else [43]) ++ Lib.itoa (into a.2) ++ [105]
theorem textV_neg {a : Val} (h : into a.2 < 0) : textV a = Lib.itoa (into a.1) ++ [] ++ Lib.itoa (into a.2) ++ [105] := by unfold textV; rw [if_pos h]
theorem textV_pos {a : Val} (h : ¬ into a.2 < 0) : textV a = Lib.itoa (into a.1) ++ [43] ++ Lib.itoa (into a.2) ++ [105] := by unfold textV; rw [if_neg h]

theorem itoa_any (n : Int) (h : -9223372036854775808 ≤ n ∧ n ≤ 9223372036854775807) (w : World) (hp : Pow w) : Calls Tryz.prog 43 #[.int .i64 n] w (Gives (str (Lib.itoa n)) w) := by
  refine (Tryz.strconv_Itoa n h.1 h.2 w hp).mono ?_
  rintro e w' ⟨rfl, k, os, rfl⟩
  exact ⟨rfl, grew_grow w k os⟩

end Go.Proofs.YtiocdmfmghanmaaGreatDoor

/-! forebayref03.Text. -/
namespace Go.Proofs.YtiocdmfmghanmaaGreatDoor
set_option linter.unusedSimpArgs false
set_option linter.unusedVariables false
open Go.RowKit Ga
set_option maxRecDepth 100000

theorem textL_lt {x y : Int} (h : y < 0) : Tx.textL x y = Lib.itoa x ++ Lib.itoa y ++ [105] := by unfold Tx.textL; rw [if_pos h]; simp
theorem textL_ge {x y : Int} (h : ¬ y < 0) : Tx.textL x y = Lib.itoa x ++ [43] ++ Lib.itoa y ++ [105] := by unfold Tx.textL; rw [if_neg h]

end Go.Proofs.YtiocdmfmghanmaaGreatDoor
