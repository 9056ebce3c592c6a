import Derived.Test.YtmdmbimfdpngaaaGreatDoorMp9
import Derived.Test.YtmdmbimfdpngaaaGreatDoorMp5
import Derived.Test.YtmdmbimfdpngaaaGreatDoorMp13
import Derived.Test.YtmdmbimfdpngaaaGreatDoorShelf
import Derived.Test.YtmdmbimfdpngaaaGreatDoorMp4
import Derived.Test.YtmdmbimfdpngaaaGreatDoorMp15
import Derived.OwnWalk
import Derived.Laws.CopyOwn
import Derived.Deep.RegionLaw
import Derived.Test.YtmdmbimfdpngaaaGreatDoorMp7
/-! forebayref03.Text. -/
namespace Go.Proofs.YtmdmbimfdpngaaaGreatDoor
set_option linter.unusedSimpArgs false
set_option linter.unusedVariables false
open Go.RowKit Ga
set_option maxRecDepth 100000

end Go.Proofs.YtmdmbimfdpngaaaGreatDoor

/-! The names of the operations; code.Text and the document's. -/
namespace Go.Proofs.YtmdmbimfdpngaaaGreatDoor
set_option linter.unusedSimpArgs false
set_option linter.unusedVariables false
open Go.RowKit Ga
set_option maxRecDepth 100000

/-- A pointer to a cell that holds x. -/
def PtsTo (x v : Value) (w : World) : Prop := ∃ b o, v = .pointer (some ⟨b, o, none⟩) ∧ w.cell? ⟨b, o, none⟩ = some x
theorem cell_grew {w w' : World} {b o : Nat} {x : Value} (h : w.cell? ⟨b, o, none⟩ = some x) (g : Grew w w') : w'.cell? ⟨b, o, none⟩ = some x := by
  obtain ⟨R, n, rfl⟩ := g
  rw [World.cell?_more_past R n _ _ (Pre.ofCell h)]; exact h
theorem PtsTo.st (x : Value) : ∀ v w w', PtsTo x v w → Grew w w' → PtsTo x v w' := fun _ _ _ ⟨b, o, h1, h2⟩ g => ⟨b, o, h1, cell_grew h2 g⟩

/-- A slice of eighteen texts, the names. -/
def NamesAt (v : Value) (w : World) : Prop := ∃ b, v = .slice (some ⟨b, 0, none⟩) 18 18 ∧ ∀ j, j < 18 → w.cell? ⟨b, j, none⟩ = some (.string ⟨(Co.namesL.getD j []).toArray⟩)
theorem NamesAt.st : ∀ v w w', NamesAt v w → Grew w w' → NamesAt v w' := fun _ _ _ ⟨b, h1, h2⟩ g => ⟨b, h1, fun j hj => cell_grew (h2 j hj) g⟩
theorem namesVals_at : ∀ j, j < 18 → ((Co.namesL.map fun l => Value.string ⟨l.toArray⟩).toArray)[j]? = some (.string ⟨(Co.namesL.getD j []).toArray⟩) := by
  intro j hj
  have h : j < Co.namesL.length := hj
  rw [List.getD_eq_getElem?_getD, List.getElem?_eq_getElem h]
  simp [List.getElem?_eq_getElem h]
theorem NamesAt.fresh (w : World) (t : TypeId) : NamesAt (.slice (some ⟨w.heap.size, 0, none⟩) 18 18) (w.alloc (.cells (Co.namesL.map fun l => Value.string ⟨l.toArray⟩).toArray t)) :=
  ⟨_, rfl, fun j hj => by rw [World.cell?_alloc_at _ _ _ _ (by simp)]; exact namesVals_at j hj⟩

/-- The table that strings.Fields reads. -/
def Asc (w : World) : Prop := Lib.TabIs Tryz.prog w "strings.asciiSpace" .u8 Lib.asciiSpaceTab
theorem Asc.grew {w w' : World} (h : Asc w) (g : Grew w w') : Asc w' := var_grew h g

def namesS : List UInt8 := [72, 65, 76, 84, 32, 80, 85, 83, 72, 32, 80, 85, 83, 72, 73, 32, 73, 78, 32, 76, 79, 65, 68, 32, 83, 84, 79, 82, 69, 32, 65, 68, 68, 32, 83, 85, 66, 32, 77, 85, 76, 32, 67, 79, 78, 74, 32, 84, 85, 82, 78, 32, 68, 85, 80, 32, 83, 87, 65, 80, 32, 68, 82, 79, 80, 32, 69, 77, 73, 84, 32, 74, 90, 32, 74, 77, 80, 32, 76, 84]
theorem namesS_fields : Lib.fields namesS = Co.namesL := by decide +kernel
theorem namesS_ascii : ∀ b ∈ namesS, b.toNat < 128 := by decide

theorem names_any (w : World) (h : Asc w) : Calls Tryz.prog 76 #[] w fun e w' => ∃ v, e = .returned v ∧ NamesAt v w' ∧ Grew w w' := by
  have hF := Tryz.strings_Fields ⟨namesS.toArray⟩ w (by decide) (fun j b hb => namesS_ascii b (List.mem_of_getElem? hb)) h
  go_enter Tryz.func76, Tryz.ntmps76
  go_wp2_with (go_at_call 120; refine hF.mono ?_; rintro e w1 ⟨rfl, hw⟩; rw [hw])
  go_ret
  refine ⟨_, rfl, ?_, ?_⟩
  · show NamesAt (.slice (some ⟨w.heap.size, 0, none⟩) (Lib.fields namesS).length (Lib.fields namesS).length) (w.alloc (.cells ((Lib.fields namesS).map fun l => Value.string ⟨l.toArray⟩).toArray 9))
    rw [namesS_fields]
    exact NamesAt.fresh w _
  · repeat (first | with_reducible exact Grew.refl _ | apply Grew.more | apply Grew.alloc | apply Grew.drew | apply Grew.drewN)

def encS (l : List UInt8) : List Value := [.string ⟨l.toArray⟩]
theorem infoStr : (Tryz.prog.info? 9).map (fun i => (i.zero, i.size, i.bytes)) = some (some (.string ByteArray.empty), 1, 16) := by kernel_rfl
theorem encS_len (l : List UInt8) : (encS l).length = 1 := rfl
theorem encS_one (l : List UInt8) : ∀ u ∈ encS l, u.oneCell' = true := by intro u hu; simp [encS] at hu; subst hu; rfl
theorem encS_new (W : World) (l : List UInt8) (t : TypeId) (b : Nat) (hb : b = W.heap.size) : ∀ j u, (encS l)[j]? = some u → (W.alloc (.cells #[.string ⟨l.toArray⟩] t)).cell? ⟨b, j, none⟩ = some u := by
  intro j u hu
  rw [new_cells W _ t b hb j]
  simpa [encS] using hu

theorem encS_at (W : World) (l : List UInt8) (x : ByteArray) (t : TypeId) (b : Nat) (hx : x = ⟨l.toArray⟩) (hb : b = W.heap.size) : ∀ j u, (encS l)[j]? = some u → (W.alloc (.cells #[.string x] t)).cell? ⟨b, j, none⟩ = some u := by
  subst hx; exact encS_new W l t b hb
/-- strings.Join of texts that were gathered. -/
theorem join_any (v : Value) (xs : List (List UInt8)) (sep : List UInt8) (base : Nat) (w : World) (h : OwnAt base 9 1 encS w v xs) (hn : xs.length ≤ 1000) (hlen : (Lib.join xs sep).length ≤ 1000000) :
    Calls Tryz.prog 63 #[v, .string ⟨sep.toArray⟩] w (Gives (str (Lib.join xs sep)) w) := by
  rcases h.form with ⟨rfl, rfl⟩ | ⟨b, cap, rfl, hb, hc, hm⟩
  · refine (Tryz.strings_Join_none none 0 _ w).mono ?_
    rintro e w' ⟨rfl, rfl⟩
    exact ⟨rfl, Grew.refl _⟩
  · have hr := h.rows encS_len
    have e1 : (xs.map fun l => (⟨l.toArray⟩ : ByteArray)).map (·.data.toList) = xs := by
      rw [List.map_map]; simp [Function.comp_def]
    by_cases hnil : xs = []
    · subst hnil
      refine (Tryz.strings_Join_none (some ⟨b, 0, none⟩) cap _ w).mono ?_
      rintro e w' ⟨rfl, rfl⟩
      exact ⟨rfl, Grew.refl _⟩
    · obtain ⟨a, cap', hv, _, hx⟩ := hr
      obtain ⟨b', off, hab, hx⟩ := hx hnil
      cases hv
      cases hab
      have hcell : ∀ (j : Nat) x, (xs.map fun l => (⟨l.toArray⟩ : ByteArray))[j]? = some x → w.cell? ⟨b, 0 + j, none⟩ = some (.string x) := by
        intro j x hj
        rw [List.getElem?_map] at hj
        cases hq : xs[j]? with
        | none => rw [hq] at hj; cases hj
        | some y =>
          rw [hq] at hj; cases hj
          have := hx j y hq 0 (.string ⟨y.toArray⟩) rfl
          simpa using this
      have hlt : b < w.heap.size := by
        cases xs with
        | nil => exact absurd rfl hnil
        | cons x xs => exact World.block_lt_of_cell? w _ (hcell 0 ⟨x.toArray⟩ rfl)
      have hJ := Tryz.strings_Join b 0 cap (xs.map fun l => (⟨l.toArray⟩ : ByteArray)) ⟨sep.toArray⟩ w hcell hlt (by simp; omega) (by simpa using hc) (by rw [e1]; show (Lib.join xs sep).length ≤ _; omega)
      rw [List.length_map, e1] at hJ
      refine hJ.mono ?_
      rintro e w' ⟨rfl, hb⟩
      exact ⟨rfl, Grew.ofBelow hb⟩

end Go.Proofs.YtmdmbimfdpngaaaGreatDoor

/-! slices.Repeat of one number. -/
namespace Go.Proofs.YtmdmbimfdpngaaaGreatDoor
set_option linter.unusedSimpArgs false
set_option linter.unusedVariables false
open Go.RowKit Ga
set_option maxRecDepth 100000

def filled (d : Int) (n m : Nat) : List Value := List.replicate m (.int .i64 d) ++ List.replicate (n - m) (.int .i64 0)
theorem filled_splice (d : Int) (n m c : Nat) (h : m + c ≤ n) : splice (filled d n m) m (List.replicate c (.int .i64 d)) = filled d n (m + c) := by
  unfold splice filled
  rw [List.take_append_of_le_length (by simp)]
  apply List.ext_getElem?
  intro i
  simp only [List.length_replicate]
  grind
theorem filled_len (d : Int) (n m : Nat) (h : m ≤ n) : (filled d n m).length = n := by unfold filled; simp; omega
theorem filled_all (d : Int) (n : Nat) : (filled d n n).toArray = ints (List.replicate n d) := by
  unfold filled ints; simp
theorem infoInt : (Tryz.prog.info? 3).map (fun i => (i.zero, i.size, i.bytes)) = some (some (.int .i64 0), 1, 8) := by kernel_rfl
theorem sizeInt : (Tryz.prog.info? 3).map (·.size) = some 1 := by kernel_rfl

theorem made_filled (d : Int) (n : Nat) : (madeCells (Value.int .i64 0).cells (n * 1)) = (filled d n 0).toArray := by
  unfold madeCells filled
  apply Array.ext
  · simp
  · intro i h1 h2
    simp [Value.cells, Nat.mod_one]
theorem own_block_of {W : World} {base e n : Nat} {g : Nat} {xs : List Value} (h : W.ownsRow base e 1 (.slice (some ⟨g, 0, none⟩) n n) n xs) : W.heap[g]? = some (.cells xs.toArray e) := by
  obtain ⟨h1, h2⟩ := h
  rcases h2 with ⟨h, _⟩ | ⟨g', cap, cur, hv, hb, hh, hc, hm, hs, ht⟩
  · cases h
  · cases hv
    rw [hh]
    have : cur = xs.toArray := by
      rw [← ht, List.take_of_length_le (by simp [hs])]
    rw [this]

theorem rep_one (d : Int) (c : Nat) : ∀ v ∈ List.replicate c (Value.int .i64 d), v.oneCell' = true := by
  intro v hv
  rw [(List.mem_replicate.1 hv).2]; rfl
theorem rep_fit {d : Int} {n m c : Nat} (h : m + c ≤ n) : m + (List.replicate c (Value.int .i64 d)).length ≤ (filled d n m).length := by
  rw [filled_len d n m (by omega), List.length_replicate]; exact h
theorem rep_src1 {w : World} {b g : Nat} {d : Int} {c : Nat} (h : w.cell? ⟨b, 0, none⟩ = some (.int .i64 d)) (h1 : c ≤ 1) : 0 < (List.replicate c (Value.int .i64 d)).length → some (⟨g, 0, none⟩ : Addr) = some ⟨g, 0, none⟩ ∧ ∃ ad, some (⟨b, 0, none⟩ : Addr) = some ad ∧ ∀ j v, (List.replicate c (Value.int .i64 d))[j]? = some v → w.cell? (ad.add j) = some v := by
  intro _
  refine ⟨rfl, _, rfl, fun j v hv => ?_⟩
  rw [List.getElem?_replicate] at hv
  split at hv
  · cases hv
    obtain rfl : j = 0 := by omega
    exact h
  · cases hv
theorem rep_src {w : World} {g : Nat} {d : Int} {n m c : Nat} (h : w.heap[g]? = some (.cells (filled d n m).toArray 3)) (hc : c ≤ m) : 0 < (List.replicate c (Value.int .i64 d)).length → some (⟨g, m, none⟩ : Addr) = some ⟨g, m, none⟩ ∧ ∃ ad, some (⟨g, 0, none⟩ : Addr) = some ad ∧ ∀ j v, (List.replicate c (Value.int .i64 d))[j]? = some v → w.cell? (ad.add j) = some v := by
  intro _
  refine ⟨rfl, _, rfl, fun j v hv => ?_⟩
  rw [List.getElem?_replicate] at hv
  split at hv
  · cases hv
    rw [addr_add_zero, cell_of h, List.getElem?_toArray]
    unfold filled
    rw [List.getElem?_append_left (by simp; omega), List.getElem?_replicate, if_pos (by omega)]
  · cases hv

set_option maxHeartbeats 4000000 in
theorem repeat_any (d : Int) (n : Nat) (hn : n ≤ 24) (w : World) (b : Nat) (hc : w.cell? ⟨b, 0, none⟩ = some (.int .i64 d)) :
    Calls Tryz.prog 217 #[.slice (some ⟨b, 0, none⟩) 1 1, .int .i64 n] w fun e w' => ∃ g, e = .returned (.slice (some ⟨g, 0, none⟩) n n) ∧ w.heap.size ≤ g ∧ w'.heap[g]? = some (.cells (ints (List.replicate n d)) 3) ∧ Grew w w' := by
  obtain ⟨i0, hi, hz0, hz1, hz2⟩ := info_parts infoInt
  have hM := fun w => (Tryz.bits_Mul 1 n (by omega) (by omega) w).mono fun e w' h => (⟨h.1, h.2.symm⟩ : _ ∧ w = w')
  have HM := Lib.hid hM
  clear hM
  go_enter Tryz.func217, Tryz.ntmps217
  go_wp2_with (first
    | (go_at_call 246; refine (HM.out _).mono ?_; rintro e w1 ⟨rfl, rfl⟩)
    | (at_make; refine wpList_make_full _ rfl (.tmp 29) (.tmp 29) 29 rfl w.heap.size 3 i0 (.int .i64 0) 1 Tryz.underlying29 hi hz0 hz1 .i64 .i64 _ _ n rfl rfl (by omega) (by omega) (by rw [hz2]; omega) (by unfold maxLen; omega) (Nat.le_refl _) ?_; intro w2 hown2 hgr2; (have hb2 := own_block_of hown2); (have hgw : Grew w w2 := (Grew.refl w).grown hgr2 (by intro k hk; cases hk)); rw [show (madeCells (Value.int .i64 0).cells (n * 1)).toList = filled d n 0 by rw [made_filled d]] at hb2; (have HB2 := Lib.hid hb2); (have HGW := Lib.hid hgw); clear hown2 hgr2 hb2 hgw)
    | (with_reducible refine wpList_copy_splice rfl (.tmp 31) (.tmp 32) 29 29 rfl 3 Tryz.underlying29 sizeInt (some ⟨w.heap.size, 0, none⟩) (some ⟨b, 0, none⟩) n n 1 1 rfl rfl w.heap.size 0 (filled d n 0) 3 HB2.out (List.replicate (min 1 n) (.int .i64 d)) List.length_replicate (rep_src1 (cell_grew hc HGW.out) (Nat.min_le_left _ _)) (rep_fit (by omega)) (rep_one _ _) w.heap.size w HGW.out.below (Nat.le_refl _) ?_; intro w4 hg4 hb4; rw [filled_splice d n 0 (min 1 n) (by omega), Nat.zero_add] at hg4; rw [List.length_replicate])
    )
  go_loopw [8] (fun i wr => ∃ m : Nat, m ≤ n ∧ (0 < n → 0 < m) ∧ i = .int .i64 m ∧ wr.heap[w.heap.size]? = some (.cells (filled d n m).toArray 3) ∧ Grew w wr) (fun i _ => n - (intOf i).toNat)
  case atStart => exact ⟨min 1 n, Nat.min_le_right _ _, by omega, rfl, hg4.out, Grew.ofBelow hb4⟩
  case round =>
    obtain ⟨m, hm, hm0, rfl, hbm, hgm⟩ := hrel
    by_cases hlt : m < n
    · have hm1 : 0 < m := hm0 (by omega)
      have HBM := Lib.hid hbm
      have HGM := Lib.hid hgm
      clear hbm hgm hm0 hg4 hb4
      obtain ⟨c, hcd, hcm, hcn, hc0⟩ : ∃ c, c = Nat.min m (n - m) ∧ c ≤ m ∧ m + c ≤ n ∧ 0 < c := ⟨_, rfl, Nat.min_le_left _ _, by have : min m (n - m) = Nat.min m (n - m) := rfl; omega, by have : min m (n - m) = Nat.min m (n - m) := rfl; omega⟩
      have HCD := Lib.hid hcd
      clear hcd
      have hwr : IntKind.i64.wrap ((m : Int) + c) = m + c := IntWalk.i64_in _ (by omega)
      go_wp2
      go_region_law (refine step_copy_splice rfl (.tmp 41) (.tmp 44) 29 29 rfl 3 Tryz.underlying29 sizeInt (some ⟨w.heap.size, m, none⟩) (some ⟨w.heap.size, 0, none⟩) (n - m) (n - m) m n (by simp [Act.eval, Act.put]; omega) (by simp [Act.eval, Act.put]) w.heap.size m (filled d n m) 3 HBM.out (List.replicate c (.int .i64 d)) (List.length_replicate.trans HCD.out) (rep_src HBM.out hcm) (rep_fit hcn) (rep_one _ _) w.heap.size w HGM.out.drew.below (Nat.le_refl _) ?_; intro w5 hg5 hb5; rw [filled_splice d n m c hcn] at hg5; rw [List.length_replicate]; simp only [goInt])
      all_goals
        go_wp2
        go_roundw
        case rel => exact ⟨m + c, hcn, by omega, by go_num, hg5.out, Grew.ofBelow hb5⟩
        case measure => first | (simp [intOf]; done) | (simp [intOf]; omega)
    · obtain rfl : m = n := by omega
      rw [filled_all] at hbm
      have HBM := Lib.hid hbm
      clear hbm
      go_wp2
      go_ret
      exact ⟨_, rfl, Nat.le_refl _, HBM.out, hgm⟩
end Go.Proofs.YtmdmbimfdpngaaaGreatDoor

/-! What is known of a program stays within bounds. -/
namespace Vm
set_option linter.unusedSimpArgs false
set_option linter.unusedVariables false
open Ga
def Inv (s : Cst) : Prop := (∀ k, s.depth.getD k (-1) = -1 ∨ (0 ≤ s.depth.getD k (-1) ∧ s.depth.getD k (-1) ≤ 8)) ∧ ∀ k, 0 ≤ s.emits.getD k 0 ∧ s.emits.getD k 0 ≤ 4
theorem getD_set {α : Type} (l : List α) (k j : Nat) (d z : α) : (l.set k d).getD j z = if j = k ∧ k < l.length then d else l.getD j z := by
  rw [List.getD_eq_getElem?_getD, List.getD_eq_getElem?_getD, List.getElem?_set]
  by_cases h : k = j
  · subst h
    by_cases h2 : k < l.length
    · simp [h2]
    · simp [h2]
  · have h' : ¬ j = k := fun e => h e.symm
    rw [if_neg h, if_neg (fun x => h' x.1)]
theorem Inv.come {s : Cst} (h : Inv s) {n k : Nat} {d e : Int} (hd : 0 ≤ d) (he : 0 ≤ e) : Inv (Vm.come n s k d e).1 := by
  unfold Vm.come
  split
  · exact h
  split
  · exact h
  split
  · exact h
  · refine ⟨fun j => ?_, fun j => ?_⟩
    · show (s.depth.set k d).getD j (-1) = -1 ∨ _
      simp only [getD_set]
      split
      · right; omega
      · exact h.1 j
    · show 0 ≤ (s.emits.set k _).getD j 0 ∧ (s.emits.set k _).getD j 0 ≤ 4
      simp only [getD_set]
      split
      · have := h.2 k; omega
      · exact h.2 j
theorem Inv.comes {n : Nat} {d e : Int} (hd : 0 ≤ d) (he : 0 ≤ e) : ∀ (l : List Nat) {s : Cst}, Inv s → Inv (Vm.comes n d e l s).1
  | [], s, h => h
  | k :: l, s, h => by
    rw [Vm.comes]
    split
    · exact Inv.comes hd he l (h.come hd he)
    · exact h.come hd he
theorem Inv.uses {s : Cst} (h : Inv s) (i : Ins) : Inv (Vm.uses s i) := by
  unfold Vm.uses
  split
  · split <;> exact h
  · exact h
theorem Inv.step {p : List Ins} {s : Cst} (h : Inv s) {k : Nat} {i : Ins} (hk : s.depth.getD k (-1) ≠ -1) : Inv (Vm.stepC p s k i).1 := by
  unfold Vm.stepC
  split
  · exact h
  · rename_i ht
    have h1 := (h.1 k).resolve_left hk
    have h2 := h.2 k
    have : (0 : Int) ≤ if i.1 = 14 then 1 else 0 := by split <;> omega
    exact Inv.comes (by omega) (by omega) _ (h.uses i)
theorem Inv.zero (n : Nat) : Inv ⟨List.replicate n (-1), List.replicate n 0, 0, 0, false, false⟩ := by
  refine ⟨fun k => .inl ?_, fun k => ?_⟩
  · show (List.replicate n (-1 : Int)).getD k (-1) = -1
    rw [List.getD_eq_getElem?_getD, List.getElem?_replicate]
    split <;> rfl
  · show 0 ≤ (List.replicate n (0 : Int)).getD k 0 ∧ (List.replicate n (0 : Int)).getD k 0 ≤ 4
    rw [List.getD_eq_getElem?_getD, List.getElem?_replicate]
    split <;> decide
theorem Inv.start (n : Nat) : Inv (Vm.start n) := (Inv.zero n).come (Int.le_refl _) (Int.le_refl _)
theorem goC_at {p : List Ins} {j : Nat} {s : Cst} (h : j < p.length) : goC p (p.drop j) j s = if s.depth.getD j (-1) ≠ -1 then (if (stepC p s j p[j]).2 then goC p (p.drop (j + 1)) (j + 1) (stepC p s j p[j]).1 else none) else goC p (p.drop (j + 1)) (j + 1) s := by
  rw [List.drop_eq_getElem_cons h, goC]
end Vm
