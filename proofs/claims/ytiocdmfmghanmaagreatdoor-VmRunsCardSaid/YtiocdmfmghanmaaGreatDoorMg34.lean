import Derived.Test.YtiocdmfmghanmaaGreatDoorMg33
import Derived.DeepKeys4
import Derived.DeepKeys5
import Derived.Maps.Views
/-! A set of places, as a map that the call makes. -/
namespace Go.Proofs.YtiocdmfmghanmaaGreatDoor
set_option linter.unusedSimpArgs false
set_option linter.unusedVariables false
open Go.RowKit Ga
set_option maxRecDepth 100000

theorem laidOutP : laidOutB Tryz.prog = true := by kernel_rfl
theorem place_law : Maps.Keyed Tryz.prog 56 := Maps.Keyed.of_law (deep_law_laid laidOutP (m := 3) (by decide) (of_decide_eq_true (by kernel_rfl)) (by kernel_rfl) (by kernel_rfl))
abbrev Pl := Int × Int × Int
def plV (x : Pl) : Value := .agg #[.int .i64 x.1, .int .i64 x.2.1, .int .i64 x.2.2]
theorem plV_inj {x y : Pl} (h : plV x = plV y) : x = y := by
  obtain ⟨a, b, c⟩ := x
  obtain ⟨d, e, f⟩ := y
  unfold plV at h
  simp at h
  obtain ⟨rfl, rfl, rfl⟩ := h
  rfl
def small (n : Int) : Prop := -9223372036854775808 ≤ n ∧ n ≤ 9223372036854775807
theorem keyTypeP : Tryz.prog.keyType 56 = true := by kernel_rfl
theorem cellsP : Tryz.prog.cellsOf 56 = 3 := by kernel_rfl
theorem cellsI1 : Tryz.prog.cellsOf 3 = 1 := by kernel_rfl
theorem sizeP : Tryz.prog.types.size ≠ 0 := of_decide_eq_true (by kernel_rfl)
theorem keyP (x : Pl) (h1 : small x.1) (h2 : small x.2.1) (h3 : small x.2.2) : ∃ kl, keyOf Tryz.prog 56 (plV x) = some kl := by
  have w1 := WalkArith.wf_i64 h1
  have w2 := WalkArith.wf_i64 h2
  have w3 := WalkArith.wf_i64 h3
  unfold plV keyOf
  obtain ⟨m, hm⟩ := Nat.exists_eq_succ_of_ne_zero sizeP
  simp only [Tryz.underlying56, keyTypeP, hm]
  simp [Value.formed, Tryz.underlying56, cellsP, Program.keyLits, Value.cells, Tryz.underlying3, cellsI1, w1, w2, w3]

/-- Block b is the set of the places M. -/
def SetAt (W : World) (b n : Nat) (M : List Pl) : Prop := ∃ D : DataW Unit, W.ownsMap Tryz.prog 56 (plainElem Tryz.prog 4) b n D ∧ Maps.IsMap D ∧ ∀ x kl, keyOf Tryz.prog 56 (plV x) = some kl → D.atKey kl (.lit (.bool false)) = .lit (.bool (decide (x ∈ M)))
theorem SetAt.made (W : World) : SetAt (W.alloc (.map #[] 0)) W.heap.size 0 [] :=
  ⟨_, World.ownsMap_made _ _ _ _, ⟨_, rfl⟩, fun x kl _ => by simp [WideAt.atKey_none]⟩
theorem SetAt.same {W W' : World} {b n : Nat} {M : List Pl} (h : SetAt W b n M) (hb : W'.heap[b]? = W.heap[b]?) : SetAt W' b n M := by
  obtain ⟨D, ⟨es, c, h1, h2⟩, h3⟩ := h
  exact ⟨D, ⟨es, c, by rw [hb]; exact h1, h2⟩, h3⟩
theorem zeroBool (w : World) : (zeroValue 4).run Tryz.prog w = .ok (.bool false) w := by kernel_rfl
theorem plainBool_inv {v : Value} {b : Bool} {ps : List MemPlace} (h : plainElem (H := Unit) Tryz.prog 4 v = some (.lit (.bool b), ps)) : v = .bool b := by
  unfold plainElem at h
  rw [Tryz.underlying4] at h
  cases v <;> simp at h
  rw [h.1]
theorem SetAt.look {W : World} {b n : Nat} {M : List Pl} (h : SetAt W b n M) (x : Pl) (h1 : small x.1) (h2 : small x.2.1) (h3 : small x.2.2) : (Instr.lookup 54 (.map (some b)) (plV x) false).run Tryz.prog W = .ok (.bool (decide (x ∈ M))) W := by
  obtain ⟨D, ho, _, hD⟩ := h
  obtain ⟨kl, hk⟩ := keyP x h1 h2 h3
  obtain ⟨v, ps, hr, hv⟩ := World.ownsMap.lookup ho place_law Tryz.underlying54 (zeroBool W) (zd := .lit (.bool false)) (zp := []) (plainElem_bool Tryz.underlying4 false) hk
  rw [hD x kl hk] at hv
  rw [hr, plainBool_inv hv]
theorem SetAt.add {W : World} {b n : Nat} {M : List Pl} (h : SetAt W b n M) (hn : n < maxLen) (x : Pl) (h1 : small x.1) (h2 : small x.2.1) (h3 : small x.2.2) :
    ∃ W', (Instr.mapUpdate 54 (.map (some b)) (plV x) (.bool true)).run Tryz.prog W = .ok () W' ∧ SetAt W' b (n + 1) (x :: M) ∧ W.grownBy W' (some b) := by
  obtain ⟨D, ho, hm, hD⟩ := h
  obtain ⟨kl, hk⟩ := keyP x h1 h2 h3
  obtain ⟨W', hr, ho', hg⟩ := World.ownsMap.update ho place_law Tryz.underlying54 hn hk (plainElem_bool Tryz.underlying4 true)
  refine ⟨W', hr, ⟨_, ho', ?_, fun y ky hy => ?_⟩, hg⟩
  · obtain ⟨es, rfl⟩ := hm
    exact ⟨_, rfl⟩
  · by_cases hyx : y = x
    · subst hyx
      rw [hk] at hy
      cases hy
      rw [Maps.atKey_put_same hm (place_law.key hk)]
      simp
    · have hne : ky ≠ kl := fun e => hyx (plV_inj (place_law.inj (e ▸ hy) hk))
      rw [Maps.atKey_put_other hne, hD y ky hy]
      simp [hyx]
theorem wpList_setAdd {w0 W : World} {ops : Array Oper} {rest : List Oper} {o : Oper} {a : Act} {Q : Exit → Act → World → Prop} {b n : Nat} {M : List Pl}
    (hg : o.guard = none) (m k v : Operand) (hop : o.op = Op.mapUpdate 54 m k v) (hgr : Grew w0 W) (hb : w0.heap.size ≤ b)
    (hm : a.eval m = .map (some b)) (h : SetAt W b n M) (hn : n < maxLen) (x : Pl) (h1 : small x.1) (h2 : small x.2.1) (h3 : small x.2.2) (hk : a.eval k = plV x) (hv : a.eval v = .bool true)
    (hK : ∀ W', SetAt W' b (n + 1) (x :: M) → Grew w0 W' → (∀ q, q < W.heap.size → q ≠ b → W'.heap[q]? = W.heap[q]?) → W.heap.size ≤ W'.heap.size → wpList Tryz.prog ops Q rest (a.put o.dst undef) W') : wpList Tryz.prog ops Q (o :: rest) a W := by
  refine wpList_plain hg fun K' hK' => ?_
  obtain ⟨W', hrun, r1, r2⟩ := h.add hn x h1 h2 h3
  unfold Oper.wp
  simp [execOp, hop, hm, hk, hv, hrun, Result.andThen]
  exact hK' _ _ (hK W' r1 (hgr.grown r2 (fun q hq => by cases hq; exact hb)) (fun q hq hne => r2.block q hq (by simpa using hne)) r2.size)
end Go.Proofs.YtiocdmfmghanmaaGreatDoor
