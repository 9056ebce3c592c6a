import Derived.Test.YtmnllmbchpebbaaGreatDoorGe11
import Derived.Test.YtmnllmbchpebbaaGreatDoorGe9
import Derived.Test.YtmnllmbchpebbaaGreatDoorGe6
import Derived.Test.YtmnllmbchpebbaaGreatDoorGe0
import Derived.Deep.QuietTactic
import Derived.BigQuiet
/-! route: Right, Task. -/
namespace Go.Proofs.YtmnllmbchpebbaaGreatDoor
set_option linter.unusedSimpArgs false
set_option linter.unusedVariables false
open Go.RowKit Ga
set_option maxRecDepth 100000

/-- may a route be? -/
def rtB (par : Int) (r : List Int) : Bool := decide (1 ≤ par) && (decide (par ≤ 3) && r.all fun t => decide (0 ≤ t) && decide (t < par))
theorem rtB_iff {par : Int} {r : List Int} : rtB par r = true ↔ (1 ≤ par ∧ par ≤ 3) ∧ ∀ t ∈ r, 0 ≤ t ∧ t < par := by
  unfold rtB
  simp [and_assoc]
theorem index8 (r0 r1 r2 r3 r4 r5 r6 r7 : Int) (k : Nat) (hk : k < 8) (w : World) : (Instr.index 40 (.agg #[.int .i64 r0, .int .i64 r1, .int .i64 r2, .int .i64 r3, .int .i64 r4, .int .i64 r5, .int .i64 r6, .int .i64 r7]) (.int .i64 k)).run Tryz.prog w = .ok (.int .i64 ([r0, r1, r2, r3, r4, r5, r6, r7].getD k 0)) w := by
  rcases (show k = 0 ∨ k = 1 ∨ k = 2 ∨ k = 3 ∨ k = 4 ∨ k = 5 ∨ k = 6 ∨ k = 7 by omega) with rfl | rfl | rfl | rfl | rfl | rfl | rfl | rfl <;> kernel_rfl
set_option maxHeartbeats 4000000 in
theorem routeRight_any (par r0 r1 r2 r3 r4 r5 r6 r7 : Int) (w : World) : Calls Tryz.prog 142 #[.int .i64 par, .agg #[.int .i64 r0, .int .i64 r1, .int .i64 r2, .int .i64 r3, .int .i64 r4, .int .i64 r5, .int .i64 r6, .int .i64 r7]] w (Gives (.bool (rtB par [r0, r1, r2, r3, r4, r5, r6, r7])) w) := by
  have hmem : ∀ k, k < 8 → [r0, r1, r2, r3, r4, r5, r6, r7].getD k 0 ∈ [r0, r1, r2, r3, r4, r5, r6, r7] := fun k hk => by
    rw [List.getD_eq_getElem?_getD, List.getElem?_eq_getElem (by simpa using hk)]
    exact List.getElem_mem _
  have hall : (∀ k, k < 8 → 0 ≤ [r0, r1, r2, r3, r4, r5, r6, r7].getD k 0 ∧ [r0, r1, r2, r3, r4, r5, r6, r7].getD k 0 < par) → ∀ t ∈ [r0, r1, r2, r3, r4, r5, r6, r7], 0 ≤ t ∧ t < par := fun h t ht => by
    obtain ⟨i, hi, e⟩ := List.mem_iff_getElem.1 ht
    have := h i (by simpa using hi)
    rw [List.getD_eq_getElem?_getD, List.getElem?_eq_getElem hi, e] at this
    exact this
  have hix := index8 r0 r1 r2 r3 r4 r5 r6 r7
  have HIFF := Lib.hid (rtB_iff (par := par) (r := [r0, r1, r2, r3, r4, r5, r6, r7]))
  have HMEM := Lib.hid hmem
  have HALL := Lib.hid hall
  have HIX := Lib.hid hix
  clear hmem hall hix
  generalize hQ : rtB par [r0, r1, r2, r3, r4, r5, r6, r7] = q at *
  clear hQ
  by_cases h1 : 1 ≤ par
  case neg =>
    have hq : q = false := by cases hq : q; · rfl
                              · exact absurd (HIFF.out.1 hq).1.1 h1
    subst hq
    go_enter Tryz.func142, Tryz.ntmps142
    go_wp2
    go_ret
    refine ⟨rfl, ?_⟩
    repeat (first | with_reducible exact Grew.refl _ | apply Grew.more | apply Grew.alloc | apply Grew.drew | apply Grew.drewN)
  by_cases h2 : par ≤ 3
  case neg =>
    have hq : q = false := by cases hq : q; · rfl
                              · exact absurd (HIFF.out.1 hq).1.2 h2
    subst hq
    go_enter Tryz.func142, Tryz.ntmps142
    go_wp2
    go_ret
    refine ⟨rfl, ?_⟩
    repeat (first | with_reducible exact Grew.refl _ | apply Grew.more | apply Grew.alloc | apply Grew.drew | apply Grew.drewN)
  go_enter Tryz.func142, Tryz.ntmps142
  go_wp2
  go_loopg [14] 8 (fun gg s14 wr => ∃ k : Nat, k ≤ 8 ∧ 8 - k ≤ gg ∧ s14 = .int .i64 k ∧ Hid (Grew w wr) ∧ Hid (∀ j, j < k → 0 ≤ [r0, r1, r2, r3, r4, r5, r6, r7].getD j 0 ∧ [r0, r1, r2, r3, r4, r5, r6, r7].getD j 0 < par))
  case atStart => exact ⟨0, by omega, by omega, rfl, Lib.hid (by repeat (first | with_reducible exact Grew.refl _ | apply Grew.more | apply Grew.alloc | apply Grew.drew | apply Grew.drewN)), Lib.hid fun j h => by omega⟩
  case round =>
    obtain ⟨k, hk, hgg, rfl, HG, HNO⟩ := hrel
    by_cases hlt : k < 8
    · have hi := HIX.out k hlt
      have hm := HMEM.out k hlt
      have hstep : (0 ≤ [r0, r1, r2, r3, r4, r5, r6, r7].getD k 0 ∧ [r0, r1, r2, r3, r4, r5, r6, r7].getD k 0 < par) → ∀ j, j < k + 1 → 0 ≤ [r0, r1, r2, r3, r4, r5, r6, r7].getD j 0 ∧ [r0, r1, r2, r3, r4, r5, r6, r7].getD j 0 < par := fun h j hj => by
        rcases Nat.lt_or_ge j k with h1 | h1
        · exact HNO.out j h1
        · obtain rfl : j = k := by omega
          exact h
      generalize hy : [r0, r1, r2, r3, r4, r5, r6, r7].getD k 0 = y at *
      by_cases h3 : 0 ≤ y
      case neg =>
        have hq : q = false := by cases hq : q; · rfl
                                  · exact absurd ((HIFF.out.1 hq).2 y hm).1 h3
        subst hq
        clear hm hstep hy
        go_wp2
        go_ret
        exact ⟨rfl, HG.out.trans (by repeat (first | with_reducible exact Grew.refl _ | apply Grew.more | apply Grew.alloc | apply Grew.drew | apply Grew.drewN))⟩
      by_cases h4 : y < par
      case neg =>
        have hq : q = false := by cases hq : q; · rfl
                                  · exact absurd ((HIFF.out.1 hq).2 y hm).2 h4
        subst hq
        clear hm hstep hy
        go_wp2
        go_ret
        exact ⟨rfl, HG.out.trans (by repeat (first | with_reducible exact Grew.refl _ | apply Grew.more | apply Grew.alloc | apply Grew.drew | apply Grew.drewN))⟩
      have HS := Lib.hid (hstep ⟨h3, h4⟩)
      clear hm hstep hy
      go_wp2
      go_roundg (8 - (k + 1))
      case measure => omega
      case rel => exact ⟨k + 1, by omega, by omega, by go_num, HG, HS⟩
    · obtain rfl : k = 8 := by omega
      have hq : q = true := HIFF.out.2 ⟨⟨h1, h2⟩, HALL.out HNO.out⟩
      subst hq
      go_wp2
      go_ret
      exact ⟨rfl, HG.out.trans (by repeat (first | with_reducible exact Grew.refl _ | apply Grew.more | apply Grew.alloc | apply Grew.drew | apply Grew.drewN))⟩
end Go.Proofs.YtmnllmbchpebbaaGreatDoor

/-! route.Text; route.Parse of a text. -/
namespace Go.Proofs.YtmnllmbchpebbaaGreatDoor
set_option linter.unusedSimpArgs false
set_option linter.unusedVariables false
open Go.RowKit Ga
set_option maxRecDepth 100000

def rbt (t : Int) : UInt8 := UInt8.ofNat (48 + t.toNat)
/-- a route's text -/
def rtxt (r : List Int) : List UInt8 := r.map rbt
theorem by_at (W : World) (x : UInt8) (t : TypeId) (b : Nat) {c : Array Value} (hc : c = (encB x).toArray) (hb : b = W.heap.size) : ∀ j u, (([x] : List UInt8).flatMap encB)[j]? = some u → (W.alloc (.cells c t)).cell? ⟨b, j, none⟩ = some u := by
  subst hc
  intro j u hu
  rw [new_cells W _ t b hb j]
  simpa using hu
theorem conv_own (W : World) (base : Nat) (v : Value) (bs : List UInt8) (h : OwnAt base 5 1 encB W v bs) : (convert 75 9 v).run Tryz.prog W = .ok (str bs) W := by
  rcases h.form with ⟨rfl, rfl⟩ | ⟨b, cap, rfl, hb1, hb2, hb3⟩
  · rw [run_convert_bytes_string W _ _ 5 none 0 0 Tryz.underlying75 Tryz.underlying5 Tryz.underlying9]
    rfl
  · have hr := h.rows encB_len
    exact run_convert_bytes_back W _ _ 5 ⟨b, 0, none⟩ cap bs Tryz.underlying75 Tryz.underlying5 Tryz.underlying9 (by
      intro j hj
      obtain ⟨a', cap', hv, _, hx⟩ := hr
      obtain ⟨b', off', hab, hx⟩ := hx (by intro e; subst e; simp at hj)
      cases hv
      cases hab
      rw [addr_add_zero]
      have := hx j bs[j] (List.getElem?_eq_getElem hj) 0 (.int .u8 bs[j].toNat) rfl
      simpa using this)
set_option maxHeartbeats 8000000 in
theorem routeText_any (r0 r1 r2 r3 r4 r5 r6 r7 : Int) (w : World) (hr : rtB 3 [r0, r1, r2, r3, r4, r5, r6, r7] = true) : Calls Tryz.prog 107 #[.agg #[.int .i64 r0, .int .i64 r1, .int .i64 r2, .int .i64 r3, .int .i64 r4, .int .i64 r5, .int .i64 r6, .int .i64 r7]] w (Gives (str (rtxt [r0, r1, r2, r3, r4, r5, r6, r7])) w) := by
  have HR := Lib.hid (rtB_iff.1 hr).2
  have hrt := fun W => routeRight_any 3 r0 r1 r2 r3 r4 r5 r6 r7 W
  simp only [hr] at hrt
  have HRT := Lib.hid hrt
  have HIX := Lib.hid (index8 r0 r1 r2 r3 r4 r5 r6 r7)
  have HMEM := Lib.hid fun k (hk : k < 8) => (by
    rw [List.getD_eq_getElem?_getD, List.getElem?_eq_getElem (by simpa using hk)]
    exact List.getElem_mem _ : [r0, r1, r2, r3, r4, r5, r6, r7].getD k 0 ∈ [r0, r1, r2, r3, r4, r5, r6, r7])
  have HTK := Lib.hid fun k (hk : k < 8) => (by
    have hk' : k < [r0, r1, r2, r3, r4, r5, r6, r7].length := hk
    unfold rtxt
    rw [List.take_succ_eq_append_getElem hk', List.map_append, List.getD_eq_getElem?_getD, List.getElem?_eq_getElem hk']
    rfl : rtxt ([r0, r1, r2, r3, r4, r5, r6, r7].take (k + 1)) = rtxt ([r0, r1, r2, r3, r4, r5, r6, r7].take k) ++ [rbt ([r0, r1, r2, r3, r4, r5, r6, r7].getD k 0)])
  have HLN := Lib.hid fun k => (by unfold rtxt; rw [List.length_map, List.length_take]; exact Nat.min_le_right .. : (rtxt ([r0, r1, r2, r3, r4, r5, r6, r7].take k)).length ≤ 8)
  clear hr hrt
  go_enter Tryz.func107, Tryz.ntmps107
  go_wp2_with (go_at_call 142; refine (HRT.out _).mono ?_; rintro e w1 ⟨rfl, R1, n1, rfl⟩)
  go_loopg [3, 10] 8 (fun gg s3 s10 wr => ∃ k : Nat, k ≤ 8 ∧ 8 - k ≤ gg ∧ s10 = .int .i64 k ∧ Hid (Grew w wr) ∧ Hid (OwnAt w.heap.size 5 1 encB wr s3 (rtxt ([r0, r1, r2, r3, r4, r5, r6, r7].take k))))
  case atStart => exact ⟨0, by omega, by omega, rfl, Lib.hid (by repeat (first | with_reducible exact Grew.refl _ | apply Grew.more | apply Grew.alloc | apply Grew.drew | apply Grew.drewN)), Lib.hid (OwnAt.nil _)⟩
  case round =>
    obtain ⟨k, hk, hgg, rfl, HG, HO⟩ := hrel
    rename World => wa
    by_cases hlt : k < 8
    · have hi := HIX.out k hlt
      have hm := HMEM.out k hlt
      have hT := HTK.out k hlt
      have hln := HLN.out k
      generalize hy : [r0, r1, r2, r3, r4, r5, r6, r7].getD k 0 = y at *
      obtain ⟨y0, y3⟩ := HR.out y hm
      have HT := Lib.hid hT
      clear hm hT hy
      generalize rtxt ([r0, r1, r2, r3, r4, r5, r6, r7].take k) = bs at *
      rcases (show y = 0 ∨ y = 1 ∨ y = 2 by omega) with rfl | rfl | rfl
      · go_wp2_with (at_builtin; go_loud (refine wpList_ownK (w0 := w) rfl (.tmp 13) (.tmp 17) 75 _ _ _ _ [rbt 0] rfl Tryz.underlying75 infoU8 rfl (by decide) encB_len encB_one rfl (OwnAt.grew HO.out (by repeat (first | with_reducible exact Grew.refl _ | apply Grew.more | apply Grew.alloc | apply Grew.drew | apply Grew.drewN))) (HG.out.trans (by repeat (first | with_reducible exact Grew.refl _ | apply Grew.more | apply Grew.alloc | apply Grew.drew | apply Grew.drewN))) rfl (by_at _ _ _ _ rfl (by simp [go_sem])) (by simp; omega) (by decide) (by simp) ?_); intro v7 W7 hA; (have HA := Lib.hid hA); clear hA)
        go_roundg (8 - (k + 1))
        case measure => omega
        case rel => exact ⟨k + 1, by omega, by omega, by go_num, Lib.hid HA.out.1, Lib.hid (by rw [HT.out]; exact HA.out.2.1)⟩
      · go_wp2_with (at_builtin; go_loud (refine wpList_ownK (w0 := w) rfl (.tmp 13) (.tmp 17) 75 _ _ _ _ [rbt 1] rfl Tryz.underlying75 infoU8 rfl (by decide) encB_len encB_one rfl (OwnAt.grew HO.out (by repeat (first | with_reducible exact Grew.refl _ | apply Grew.more | apply Grew.alloc | apply Grew.drew | apply Grew.drewN))) (HG.out.trans (by repeat (first | with_reducible exact Grew.refl _ | apply Grew.more | apply Grew.alloc | apply Grew.drew | apply Grew.drewN))) rfl (by_at _ _ _ _ rfl (by simp [go_sem])) (by simp; omega) (by decide) (by simp) ?_); intro v7 W7 hA; (have HA := Lib.hid hA); clear hA)
        go_roundg (8 - (k + 1))
        case measure => omega
        case rel => exact ⟨k + 1, by omega, by omega, by go_num, Lib.hid HA.out.1, Lib.hid (by rw [HT.out]; exact HA.out.2.1)⟩
      · go_wp2_with (at_builtin; go_loud (refine wpList_ownK (w0 := w) rfl (.tmp 13) (.tmp 17) 75 _ _ _ _ [rbt 2] rfl Tryz.underlying75 infoU8 rfl (by decide) encB_len encB_one rfl (OwnAt.grew HO.out (by repeat (first | with_reducible exact Grew.refl _ | apply Grew.more | apply Grew.alloc | apply Grew.drew | apply Grew.drewN))) (HG.out.trans (by repeat (first | with_reducible exact Grew.refl _ | apply Grew.more | apply Grew.alloc | apply Grew.drew | apply Grew.drewN))) rfl (by_at _ _ _ _ rfl (by simp [go_sem])) (by simp; omega) (by decide) (by simp) ?_); intro v7 W7 hA; (have HA := Lib.hid hA); clear hA)
        go_roundg (8 - (k + 1))
        case measure => omega
        case rel => exact ⟨k + 1, by omega, by omega, by go_num, Lib.hid HA.out.1, Lib.hid (by rw [HT.out]; exact HA.out.2.1)⟩
    · obtain rfl : k = 8 := by omega
      rw [show [r0, r1, r2, r3, r4, r5, r6, r7].take 8 = [r0, r1, r2, r3, r4, r5, r6, r7] from rfl] at HO
      generalize rtxt [r0, r1, r2, r3, r4, r5, r6, r7] = bs at *
      have hcv := conv_own wa _ _ _ HO.out
      obtain ⟨av, cv, rfl⟩ := (OwnAt.rows HO.out encB_len).len
      go_wp2
      go_ret
      exact ⟨rfl, HG.out.trans (by repeat (first | with_reducible exact Grew.refl _ | apply Grew.more | apply Grew.alloc | apply Grew.drew | apply Grew.drewN))⟩
end Go.Proofs.YtmnllmbchpebbaaGreatDoor
