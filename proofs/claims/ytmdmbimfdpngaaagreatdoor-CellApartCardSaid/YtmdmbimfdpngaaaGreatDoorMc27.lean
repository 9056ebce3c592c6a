import Derived.Test.YtmdmbimfdpngaaaGreatDoorMc26
import Derived.Ground.SlsfProg
import Derived.Shelf.SlSortCmp.WholeK
import Derived.Shelf.SlSortCmp.NoneTotal
import Derived.Test.YtmdmbimfdpngaaaGreatDoorProg
/-! What the library's sorts leave of a slice of one's own, whatever its elements. -/
namespace Go.Proofs.YtmdmbimfdpngaaaGreatDoor
set_option linter.unusedSimpArgs false
set_option linter.unusedVariables false
open Go.RowKit Ga
set_option maxRecDepth 100000

section
variable {α : Type} [Inhabited α] {enc : α → List Value} {k : Nat} {e : TypeId}
theorem flat_flatKG (henc : ∀ x, (enc x).length = k) (hk : 0 < k) (lc : List α) (j : Nat) (hj : j < lc.length * k) : (lc.flatMap enc)[j]? = some ((Sort.flatK enc k lc.toArray)[j]!) := by
  have hi : j / k < lc.length := Nat.div_lt_of_lt_mul (by rw [Nat.mul_comm]; exact hj)
  rw [Sort.get_flatK enc k lc.toArray j (by simpa using hj)]
  have e1 : lc.toArray[j / k]! = lc[j / k] := by rw [getElem!_pos lc.toArray (j / k) (by simpa using hi)]; simp
  rw [e1]
  have hm : j % k < (enc lc[j / k]).length := by rw [henc]; exact Nat.mod_lt _ hk
  have h2 : (enc lc[j / k])[j % k]? = some ((enc lc[j / k])[j % k]!) := by rw [List.getElem?_eq_getElem hm, getElem!_pos (enc lc[j / k]) (j % k) hm]
  have h3 := flat_get henc lc (j / k) lc[j / k] (List.getElem?_eq_getElem hi) (j % k) _ h2
  rw [show j / k * k + j % k = j from by rw [Nat.mul_comm]; exact Nat.div_add_mod j k] at h3
  exact h3
theorem own_holdsKG (henc : ∀ x, (enc x).length = k) (hk : 0 < k) {base : Nat} {W : World} {b cap n : Nat} {lc : List α} (h : OwnAt base e k enc W (.slice (some ⟨b, 0, none⟩) n cap) lc) : Sort.HoldsK enc k W b 0 lc.toArray ∧ base ≤ b ∧ b < W.heap.size := by
  obtain ⟨h1, h2⟩ := h
  rcases h2 with ⟨h, _⟩ | ⟨g, cap', cur, hv, hb, hh, hc, hm, hs, ht⟩
  · cases h
  · cases hv
    refine ⟨fun j hj => ?_, hb, (Array.getElem?_eq_some_iff.1 hh).1⟩
    rw [Sort.size_flatK] at hj
    have hj' : j < lc.length * k := by simpa using hj
    rw [Nat.zero_add, cell_of_heap hh, frozen_of_heap hh]
    refine ⟨?_, rfl⟩
    have h3 := flat_flatKG henc hk lc j hj'
    rw [← ht, List.getElem?_take, if_pos hj'] at h3
    simpa using h3
theorem own_ofSortG (henc : ∀ x, (enc x).length = k) (hk : 0 < k) {base : Nat} {W : World} {b cap n m : Nat} {lc lc' : List α} {os : Array Obj} (h : OwnAt base e k enc W (.slice (some ⟨b, 0, none⟩) n cap) lc) (hl : lc'.length = lc.length) :
    OwnAt base e k enc (Go.Proofs.sortWorldK enc k W b 0 m lc'.toArray os) (.slice (some ⟨b, 0, none⟩) n cap) lc' ∧ (∀ q, q < W.heap.size → q ≠ b → (Go.Proofs.sortWorldK enc k W b 0 m lc'.toArray os).heap[q]? = W.heap[q]?) ∧ W.heap.size ≤ (Go.Proofs.sortWorldK enc k W b 0 m lc'.toArray os).heap.size := by
  obtain ⟨h1, h2⟩ := h
  rcases h2 with ⟨h, _⟩ | ⟨g, cap', cur, hv, hb, hh, hc, hm, hs, ht⟩
  · cases h
  · cases hv
    have hblk : b < W.heap.size := (Array.getElem?_eq_some_iff.1 hh).1
    have hat : ∀ q, q < W.heap.size → (Go.Proofs.sortWorldK enc k W b 0 m lc'.toArray os).heap[q]? = (Sort.putRowK enc k (Sort.ahead W m) b 0 lc'.toArray).heap[q]? := by
      intro q hq
      unfold sortWorldK Sort.grow
      simp only
      rw [Array.getElem?_append_left]
      show q < (Sort.putRow id _ _ _ _).heap.size
      rw [Sort.size_putRow]
      exact hq
    have hself : (Go.Proofs.sortWorldK enc k W b 0 m lc'.toArray os).heap[b]? = some (.cells (Sort.putCells id 0 (Sort.flatK enc k lc'.toArray) cur) e) := by
      rw [hat b hblk]
      unfold Sort.putRowK Sort.putRow Sort.mapBlock
      simp only [Array.getElem?_modify, if_true]
      rw [show (Sort.ahead W m).heap = W.heap from rfl]
      have hh' : W.heap[b]? = some (.cells cur e) := hh
      rw [hh']
      rfl
    have hps : (Sort.putCells id 0 (Sort.flatK enc k lc'.toArray) cur).size = cur.size := by unfold Sort.putCells; rw [Array.size_mapIdx]
    refine ⟨⟨by rw [flat_length henc], .inr ⟨b, cap, _, by rw [hl], hb, hself, by rw [hl]; exact hc, hm, by rw [hps]; exact hs, ?_⟩⟩, fun q hq hne => ?_, ?_⟩
    · refine List.ext_getElem? fun j => ?_
      by_cases hj : j < lc'.length * k
      · rw [List.getElem?_take, if_pos hj, flat_flatKG henc hk lc' j hj]
        have hjc : j < cur.size := by
          rw [hs]
          exact Nat.lt_of_lt_of_le hj (Nat.mul_le_mul_right k (by rw [hl]; exact hc))
        unfold Sort.putCells
        rw [Array.getElem?_toList, Array.getElem?_mapIdx, Array.getElem?_eq_getElem hjc]
        simp only [Option.map_some, Nat.zero_le, true_and, Nat.zero_add, Sort.size_flatK, Nat.sub_zero, id]
        rw [if_pos (by simpa using hj)]
      · rw [List.getElem?_take, if_neg hj, List.getElem?_eq_none (by rw [flat_length henc]; omega)]
    · rw [hat q hq]
      unfold Sort.putRowK Sort.putRow Sort.mapBlock
      simp only [Array.getElem?_modify]
      rw [if_neg (fun e => hne e.symm)]
      rfl
    · unfold sortWorldK Sort.grow Sort.putRowK
      simp only [Array.size_append, Sort.size_putRow]
      exact Nat.le_add_right _ _
end
end Go.Proofs.YtmdmbimfdpngaaaGreatDoor

/-
  DERIVED: THE SHELF's CONTRACTS AT THIS DUMP, IN PLAIN WORDS (tools/lay-plain.mjs out of 'TryzShelf2.lean', which tools/lay-shelf.mjs wrote): THE SAME DECLARATIONS UNDER THE SAME NAMES: 'import', 'namespace', 'open', 'def', 'theorem' AND NOTHING ELSE: no command of the shelf's: FOR A HAND-IN. Each laying: the table of numbers ('.._ren') and one theorem, a field a fact of the dump's own or the kernel's comparison; each contract: ONE APPLICATION.
-/
namespace Go.Proofs
open Go.Shelf
def Tryz.sortEnt_ren : Go.Shelf.Ren := ⟨fun | 6 => 79 | 15 => 128 | 14 => 127 | 28 => 181 | 29 => 182 | 20 => 173 | 21 => 174 | 22 => 175 | 23 => 176 | 24 => 177 | 25 => 178 | 26 => 179 | 27 => 180 | 46 => 227 | 47 => 228 | 48 => 229 | 49 => 230 | 50 => 231 | 57 => 249 | n => n, fun | 22 => 31 | 24 => 53 | 25 => 153 | 3 => 3 | 39 => 197 | 0 => 0 | 53 => 245 | 55 => 207 | 4 => 4 | 46 => 238 | 45 => 237 | 50 => 242 | 5 => 5 | 9 => 9 | 66 => 289 | 70 => 293 | 76 => 322 | 77 => 323 | n => n, fun | n => n⟩
theorem Tryz.sortEnt : Go.Proofs.SlLaysF0.n6 Tryz.prog Tryz.sortEnt_ren := {
  mixed := by kernel_rfl
  f6 := ⟨Tryz.f79.name, by decide, Tryz.func79.trans (congrArg some (by kernel_rfl))⟩
  f14 := ⟨Tryz.f127.name, by decide, Tryz.func127.trans (congrArg some (by kernel_rfl))⟩
  f15 := Tryz.func128.trans (congrArg some (by kernel_rfl))
  f20 := ⟨Tryz.f173.name, by decide, Tryz.func173.trans (congrArg some (by kernel_rfl))⟩
  f21 := ⟨Tryz.f174.name, by decide, Tryz.func174.trans (congrArg some (by kernel_rfl))⟩
  f22 := ⟨Tryz.f175.name, by decide, Tryz.func175.trans (congrArg some (by kernel_rfl))⟩
  f23 := ⟨Tryz.f176.name, by decide, Tryz.func176.trans (congrArg some (by kernel_rfl))⟩
  f24 := ⟨Tryz.f177.name, by decide, Tryz.func177.trans (congrArg some (by kernel_rfl))⟩
  f25 := ⟨Tryz.f178.name, by decide, Tryz.func178.trans (congrArg some (by kernel_rfl))⟩
  f26 := ⟨Tryz.f179.name, by decide, Tryz.func179.trans (congrArg some (by kernel_rfl))⟩
  f27 := ⟨Tryz.f180.name, by decide, Tryz.func180.trans (congrArg some (by kernel_rfl))⟩
  f28 := Tryz.func181.trans (congrArg some (by kernel_rfl))
  f29 := Tryz.func182.trans (congrArg some (by kernel_rfl))
  f46 := ⟨Tryz.f227.name, by decide, Tryz.func227.trans (congrArg some (by kernel_rfl))⟩
  f47 := Tryz.func228.trans (congrArg some (by kernel_rfl))
  f48 := Tryz.func229.trans (congrArg some (by kernel_rfl))
  f49 := ⟨Tryz.f230.name, by decide, Tryz.func230.trans (congrArg some (by kernel_rfl))⟩
  f50 := ⟨Tryz.f231.name, by decide, Tryz.func231.trans (congrArg some (by kernel_rfl))⟩
  f57 := ⟨Tryz.f249.name, by decide, Tryz.func249.trans (congrArg some (by kernel_rfl))⟩
  t0 := Tryz.underlying0
  a0 := Tryz.isAgg0
  z0 := Tryz.sizeOf0
  v0 := Tryz.zeroValue0
  t3 := Tryz.underlying3
  a3 := Tryz.isAgg3
  z3 := Tryz.sizeOf3
  v3 := Tryz.zeroValue3
  t4 := Tryz.underlying4
  a4 := Tryz.isAgg4
  z4 := Tryz.sizeOf4
  v4 := Tryz.zeroValue4
  t5 := Tryz.underlying5
  a5 := Tryz.isAgg5
  z5 := Tryz.sizeOf5
  v5 := Tryz.zeroValue5
  t9 := Tryz.underlying9
  a9 := Tryz.isAgg9
  z9 := Tryz.sizeOf9
  v9 := Tryz.zeroValue9
  t22 := Tryz.underlying31
  a22 := Tryz.isAgg31
  z22 := Tryz.sizeOf31
  v22 := Tryz.zeroValue31
  t25 := Tryz.underlying153
  a25 := Tryz.isAgg153
  z25 := Tryz.sizeOf153
  v25 := Tryz.zeroValue153
  t39 := Tryz.underlying197
  a39 := Tryz.isAgg197
  z39 := Tryz.sizeOf197
  v39 := Tryz.zeroValue197
  t45 := Tryz.underlying237
  a45 := Tryz.isAgg237
  z45 := Tryz.sizeOf237
  v45 := Tryz.zeroValue237
  t46 := Tryz.underlying238
  a46 := Tryz.isAgg238
  z46 := Tryz.sizeOf238
  v46 := Tryz.zeroValue238
  t50 := Tryz.underlying242
  a50 := Tryz.isAgg242
  z50 := Tryz.sizeOf242
  v50 := Tryz.zeroValue242
  t53 := Tryz.underlying245
  a53 := Tryz.isAgg245
  z53 := Tryz.sizeOf245
  v53 := Tryz.zeroValue245
  t55 := Tryz.underlying207
  a55 := Tryz.isAgg207
  z55 := Tryz.sizeOf207
  v55 := Tryz.zeroValue207
  t66 := Tryz.underlying289
  a66 := Tryz.isAgg289
  z66 := Tryz.sizeOf289
  v66 := Tryz.zeroValue289
  t70 := Tryz.underlying293
  a70 := Tryz.isAgg293
  z70 := Tryz.sizeOf293
  v70 := Tryz.zeroValue293
  t76 := Tryz.underlying322
  a76 := Tryz.isAgg322
  z76 := Tryz.sizeOf322
  v76 := Tryz.zeroValue322
  t77 := Tryz.underlying323
  a77 := Tryz.isAgg323
  z77 := Tryz.sizeOf323
  v77 := Tryz.zeroValue323 }
end Go.Proofs
