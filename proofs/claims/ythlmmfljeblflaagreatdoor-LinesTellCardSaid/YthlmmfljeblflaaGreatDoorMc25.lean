import Derived.Test.YthlmmfljeblflaaGreatDoorMc24
import Derived.Test.YthlmmfljeblflaaGreatDoorMc7
import Derived.Test.YthlmmfljeblflaaGreatDoorMc17
import Derived.OwnWalk
import Derived.Laws.CopyOwn
import Derived.Deep.RegionLaw
/-! slices.Repeat of one number. -/
namespace Go.Proofs.YthlmmfljeblflaaGreatDoor
set_option linter.unusedSimpArgs false
set_option linter.unusedVariables false
open Go.RowKit Ga
set_option maxRecDepth 100000

def filled (d : Int) (n m : Nat) : List Value := List.replicate m (.int .i64 d) ++ List.replicate (n - m) (.int .i64 0)
theorem filled_splice (d : Int) (n m c : Nat) (h : m + c ≤ n) : splice (filled d n m) m (List.replicate c (.int .i64 d)) = filled d n (m + c) := by
  unfold splice filled
  rw [List.take_append_of_le_length (by simp)]
  apply List.ext_getElem?
  intro i
  simp only [List.length_replicate]
  grind
theorem filled_len (d : Int) (n m : Nat) (h : m ≤ n) : (filled d n m).length = n := by unfold filled; simp; omega
theorem filled_all (d : Int) (n : Nat) : (filled d n n).toArray = ints (List.replicate n d) := by
  unfold filled ints; simp
theorem infoInt : (Tryz.prog.info? 3).map (fun i => (i.zero, i.size, i.bytes)) = some (some (.int .i64 0), 1, 8) := by kernel_rfl
theorem sizeInt : (Tryz.prog.info? 3).map (·.size) = some 1 := by kernel_rfl

theorem made_filled (d : Int) (n : Nat) : (madeCells (Value.int .i64 0).cells (n * 1)) = (filled d n 0).toArray := by
  unfold madeCells filled
  apply Array.ext
  · simp
  · intro i h1 h2
    simp [Value.cells, Nat.mod_one]
theorem own_block_of {W : World} {base e n : Nat} {g : Nat} {xs : List Value} (h : W.ownsRow base e 1 (.slice (some ⟨g, 0, none⟩) n n) n xs) : W.heap[g]? = some (.cells xs.toArray e) := by
  obtain ⟨h1, h2⟩ := h
  rcases h2 with ⟨h, _⟩ | ⟨g', cap, cur, hv, hb, hh, hc, hm, hs, ht⟩
  · cases h
  · cases hv
    rw [hh]
    have : cur = xs.toArray := by
      rw [← ht, List.take_of_length_le (by simp [hs])]
    rw [this]

theorem rep_one (d : Int) (c : Nat) : ∀ v ∈ List.replicate c (Value.int .i64 d), v.oneCell' = true := by
  intro v hv
  rw [(List.mem_replicate.1 hv).2]; rfl
theorem rep_fit {d : Int} {n m c : Nat} (h : m + c ≤ n) : m + (List.replicate c (Value.int .i64 d)).length ≤ (filled d n m).length := by
  rw [filled_len d n m (by omega), List.length_replicate]; exact h
theorem rep_src1 {w : World} {b g : Nat} {d : Int} {c : Nat} (h : w.cell? ⟨b, 0, none⟩ = some (.int .i64 d)) (h1 : c ≤ 1) : 0 < (List.replicate c (Value.int .i64 d)).length → some (⟨g, 0, none⟩ : Addr) = some ⟨g, 0, none⟩ ∧ ∃ ad, some (⟨b, 0, none⟩ : Addr) = some ad ∧ ∀ j v, (List.replicate c (Value.int .i64 d))[j]? = some v → w.cell? (ad.add j) = some v := by
  intro _
  refine ⟨rfl, _, rfl, fun j v hv => ?_⟩
  rw [List.getElem?_replicate] at hv
  split at hv
  · cases hv
    obtain rfl : j = 0 := by omega
    exact h
  · cases hv
theorem rep_src {w : World} {g : Nat} {d : Int} {n m c : Nat} (h : w.heap[g]? = some (.cells (filled d n m).toArray 3)) (hc : c ≤ m) : 0 < (List.replicate c (Value.int .i64 d)).length → some (⟨g, m, none⟩ : Addr) = some ⟨g, m, none⟩ ∧ ∃ ad, some (⟨g, 0, none⟩ : Addr) = some ad ∧ ∀ j v, (List.replicate c (Value.int .i64 d))[j]? = some v → w.cell? (ad.add j) = some v := by
  intro _
  refine ⟨rfl, _, rfl, fun j v hv => ?_⟩
  rw [List.getElem?_replicate] at hv
  split at hv
  · cases hv
    rw [addr_add_zero, cell_of h, List.getElem?_toArray]
    unfold filled
    rw [List.getElem?_append_left (by simp; omega), List.getElem?_replicate, if_pos (by omega)]
  · cases hv

set_option maxHeartbeats 4000000 in
theorem repeat_any (d : Int) (n : Nat) (hn : n ≤ 24) (w : World) (b : Nat) (hc : w.cell? ⟨b, 0, none⟩ = some (.int .i64 d)) :
    Calls Tryz.prog 178 #[.slice (some ⟨b, 0, none⟩) 1 1, .int .i64 n] w fun e w' => ∃ g, e = .returned (.slice (some ⟨g, 0, none⟩) n n) ∧ w.heap.size ≤ g ∧ w'.heap[g]? = some (.cells (ints (List.replicate n d)) 3) ∧ Grew w w' := by
  obtain ⟨i0, hi, hz0, hz1, hz2⟩ := info_parts infoInt
  have hM := fun w => (Tryz.bits_Mul 1 n (by omega) (by omega) w).mono fun e w' h => (⟨h.1, h.2.symm⟩ : _ ∧ w = w')
  have HM := Lib.hid hM
  clear hM
  go_enter Tryz.func178, Tryz.ntmps178
  go_wp2_with (first
    | (go_at_call 185; refine (HM.out _).mono ?_; rintro e w1 ⟨rfl, rfl⟩)
    | (at_make; refine wpList_make_full _ rfl (.tmp 29) (.tmp 29) 29 rfl w.heap.size 3 i0 (.int .i64 0) 1 Tryz.underlying29 hi hz0 hz1 .i64 .i64 _ _ n rfl rfl (by omega) (by omega) (by rw [hz2]; omega) (by unfold maxLen; omega) (Nat.le_refl _) ?_; intro w2 hown2 hgr2; (have hb2 := own_block_of hown2); (have hgw : Grew w w2 := (Grew.refl w).grown hgr2 (by intro k hk; cases hk)); rw [show (madeCells (Value.int .i64 0).cells (n * 1)).toList = filled d n 0 by rw [made_filled d]] at hb2; (have HB2 := Lib.hid hb2); (have HGW := Lib.hid hgw); clear hown2 hgr2 hb2 hgw)
    | (with_reducible refine wpList_copy_splice rfl (.tmp 31) (.tmp 32) 29 29 rfl 3 Tryz.underlying29 sizeInt (some ⟨w.heap.size, 0, none⟩) (some ⟨b, 0, none⟩) n n 1 1 rfl rfl w.heap.size 0 (filled d n 0) 3 HB2.out (List.replicate (min 1 n) (.int .i64 d)) List.length_replicate (rep_src1 (cell_grew hc HGW.out) (Nat.min_le_left _ _)) (rep_fit (by omega)) (rep_one _ _) w.heap.size w HGW.out.below (Nat.le_refl _) ?_; intro w4 hg4 hb4; rw [filled_splice d n 0 (min 1 n) (by omega), Nat.zero_add] at hg4; rw [List.length_replicate])
    )
  go_loopw [8] (fun i wr => ∃ m : Nat, m ≤ n ∧ (0 < n → 0 < m) ∧ i = .int .i64 m ∧ wr.heap[w.heap.size]? = some (.cells (filled d n m).toArray 3) ∧ Grew w wr) (fun i _ => n - (intOf i).toNat)
  case atStart => exact ⟨min 1 n, Nat.min_le_right _ _, by omega, rfl, hg4.out, Grew.ofBelow hb4⟩
  case round =>
    obtain ⟨m, hm, hm0, rfl, hbm, hgm⟩ := hrel
    by_cases hlt : m < n
    · have hm1 : 0 < m := hm0 (by omega)
      have HBM := Lib.hid hbm
      have HGM := Lib.hid hgm
      clear hbm hgm hm0 hg4 hb4
      obtain ⟨c, hcd, hcm, hcn, hc0⟩ : ∃ c, c = Nat.min m (n - m) ∧ c ≤ m ∧ m + c ≤ n ∧ 0 < c := ⟨_, rfl, Nat.min_le_left _ _, by have : min m (n - m) = Nat.min m (n - m) := rfl; omega, by have : min m (n - m) = Nat.min m (n - m) := rfl; omega⟩
      have HCD := Lib.hid hcd
      clear hcd
      have hwr : IntKind.i64.wrap ((m : Int) + c) = m + c := IntWalk.i64_in _ (by omega)
      go_wp2
      go_region_law (refine step_copy_splice rfl (.tmp 41) (.tmp 44) 29 29 rfl 3 Tryz.underlying29 sizeInt (some ⟨w.heap.size, m, none⟩) (some ⟨w.heap.size, 0, none⟩) (n - m) (n - m) m n (by simp [Act.eval, Act.put]; omega) (by simp [Act.eval, Act.put]) w.heap.size m (filled d n m) 3 HBM.out (List.replicate c (.int .i64 d)) (List.length_replicate.trans HCD.out) (rep_src HBM.out hcm) (rep_fit hcn) (rep_one _ _) w.heap.size w HGM.out.drew.below (Nat.le_refl _) ?_; intro w5 hg5 hb5; rw [filled_splice d n m c hcn] at hg5; rw [List.length_replicate]; simp only [goInt])
      all_goals
        go_wp2
        go_roundw
        case rel => exact ⟨m + c, hcn, by omega, by go_num, hg5.out, Grew.ofBelow hb5⟩
        case measure => first | (simp [intOf]; done) | (simp [intOf]; omega)
    · obtain rfl : m = n := by omega
      rw [filled_all] at hbm
      have HBM := Lib.hid hbm
      clear hbm
      go_wp2
      go_ret
      exact ⟨_, rfl, Nat.le_refl _, HBM.out, hgm⟩
end Go.Proofs.YthlmmfljeblflaaGreatDoor
