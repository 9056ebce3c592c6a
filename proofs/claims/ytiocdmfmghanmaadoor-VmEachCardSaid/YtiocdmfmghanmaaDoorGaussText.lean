import Derived.Test.YtiocdmfmghanmaaDoorGaussB
import Derived.Test.YtiocdmfmghanmaaDoorDigits
import Derived.Test.YtiocdmfmghanmaaDoorTextMath
import Derived.Test.YtiocdmfmghanmaaDoorShelf
import Derived.Lib.LaidTab
import Derived.WalkSmall
/-! Texts of values. -/
namespace Go.Proofs.YtiocdmfmghanmaaDoor
set_option linter.unusedSimpArgs false
set_option linter.unusedVariables false
open Go.RowKit Ga

theorem grew_grow (w : World) (k : Nat) (os : Array Obj) : Grew w (Sort.grow (w.drewN k) os) := ⟨os, w.drawn + k, rfl⟩
theorem grew_bytes (w : World) (t : TypeId) (x : ByteArray) : Grew w (Lib.bytesWorld w t x) := by
  apply Grew.ofBelow
  unfold Lib.bytesWorld
  exact below_freeze (((Below.refl _ _).drew).alloc (Nat.le_refl _) _) (p := ⟨w.heap.size, _, none⟩) (Nat.le_refl w.heap.size) _

/-- The table that strconv.Itoa reads. -/
def Pow (w : World) : Prop := Lib.TabIs Tryd.prog w "internal/strconv.uint64pow10" .u64 Lib.pow10Tab
theorem gPow : Tryd.prog.globalNamed "internal/strconv.uint64pow10" = some 5 := by kernel_rfl
theorem var_grew {n : String} {cs : Array Value} {w w' : World} (h : w.var? Tryd.prog n = some cs) (g : Grew w w') : w'.var? Tryd.prog n = some cs := by
  cases hg : Tryd.prog.globalNamed n with
  | none => unfold World.var? at h; simp [hg] at h
  | some i =>
    by_cases hi : i < w.heap.size
    · exact var?_below g.below hg hi h
    · unfold World.var? at h
      have : w.heap[i]? = none := Array.getElem?_eq_none (by omega)
      simp [hg, this] at h
theorem Pow.grew {w w' : World} (h : Pow w) (g : Grew w w') : Pow w' := var_grew h g

/-- A value's text. -/
def textV (a : Val) : List UInt8 := Lib.itoa (into a.1) ++ (if into a.2 < 0 then [] else [43]) ++ Lib.itoa (into a.2) ++ [105]
theorem textV_neg {a : Val} (h : into a.2 < 0) : textV a = Lib.itoa (into a.1) ++ [] ++ Lib.itoa (into a.2) ++ [105] := by unfold textV; rw [if_pos h]
theorem textV_pos {a : Val} (h : ¬ into a.2 < 0) : textV a = Lib.itoa (into a.1) ++ [43] ++ Lib.itoa (into a.2) ++ [105] := by unfold textV; rw [if_neg h]

theorem itoa_any (n : Int) (h : -9223372036854775808 ≤ n ∧ n ≤ 9223372036854775807) (w : World) (hp : Pow w) : Calls Tryd.prog 40 #[.int .i64 n] w (Gives (str (Lib.itoa n)) w) := by
  refine (Tryd.strconv_Itoa n h.1 h.2 w hp).mono ?_
  rintro e w' ⟨rfl, k, os, rfl⟩
  exact ⟨rfl, grew_grow w k os⟩

set_option maxHeartbeats 1000000 in
theorem text_any (a : Val) (w : World) (hp : Pow w) : Calls Tryd.prog 12 #[vv a] w (Gives (str (textV a)) w) := by
  obtain ⟨x, y⟩ := a
  have b1 := into_range x
  have b2 := into_range y
  have l1 := itoa_len (into x) (by omega)
  have l2 := itoa_len (into y) (by omega)
  have HP := Lib.hid hp
  clear hp
  by_cases hneg : into y < 0
  all_goals
    go_enter Tryd.func12, Tryd.ntmps12
    go_wp2_with (go_at_call 10; refine (of_any _ _ _).mono ?_; rintro e w1 ⟨rfl, R, n, rfl⟩)
    refine wp_region_seq 11 Tryd.mixed (by kernel_rfl) (by kernel_rfl) ?_
    iterate 11
      apply Seq.val
      focus
        rintro w1 u ⟨R1, n1, rfl⟩ hF
        simp [moreFacts, Fact.more, Oper.deps, Region.binds, List.filter_cons, World.more_drew] at hF
        simp [putFacts, Oper.deps, Region.binds, List.filter_cons, Region.dstOf, Fact.at, Act.put, World.more_drew]
        go_wp2_with (go_at_call 40; refine (itoa_any _ (by omega) _ (HP.out.grew (by repeat (first | exact Grew.refl _ | apply Grew.more | apply Grew.alloc | apply Grew.drew)))).mono ?_; rintro e w1 ⟨rfl, R2, n2, rfl⟩)
        exact ⟨by repeat (first | exact Grew.refl _ | apply Grew.more | apply Grew.alloc | apply Grew.drew), rfl, _, _, rfl, rfl, rfl⟩
    rintro u w1 ⟨R1, n1, rfl⟩ hF
    clear hF
    simp [putFacts, Region.dstOf, Fact.at, Act.put, List.range_succ, World.more_drew]
    go_wp2
    go_ret
    refine ⟨?_, ?_⟩
    · first | rw [textV_neg (a := (x, y)) hneg] | rw [textV_pos (a := (x, y)) (by simpa using hneg)]
      exact congrArg (fun b => Ending.returned (Value.string b)) (by first | (rw [← str_cat, ← str_cat, ← str_cat]; done) | (rw [← str_cat, ← str_cat, ← str_cat]; rfl))
    repeat (first | exact Grew.refl _ | apply Grew.more | apply Grew.alloc | apply Grew.drew)
/-- .. by its two numbers. -/
theorem text_xy (x y : Int) (w : World) (hp : Pow w) : Calls Tryd.prog 12 #[.agg #[.int .i64 x, .int .i64 y]] w (Gives (str (textV (x, y))) w) := text_any (x, y) w hp
theorem text_xyL (x y : Int) (w : World) (hp : Pow w) : Calls Tryd.prog 12 #[.agg #[.int .i64 x, .int .i64 y]] w (Gives (str (Tx.textL (into x) (into y))) w) := text_any (x, y) w hp
end Go.Proofs.YtiocdmfmghanmaaDoor
