import Derived.Test.YtlgbipfpnfphjaaGreatDoorGb9
import Derived.Test.YtlgbipfpnfphjaaGreatDoorGb11
import Derived.Test.YtlgbipfpnfphjaaGreatDoorGb5
import Derived.Test.YtlgbipfpnfphjaaGreatDoorGb0
import Derived.Deep.QuietTactic
import Derived.BigQuiet
import Derived.Test.YtlgbipfpnfphjaaGreatDoorGb13
import Derived.Test.YtlgbipfpnfphjaaGreatDoorGb14
import Derived.Deep.RegionHeld3
/-! route: Right, Task. -/
namespace Go.Proofs.YtlgbipfpnfphjaaGreatDoor
set_option linter.unusedSimpArgs false
set_option linter.unusedVariables false
open Go.RowKit Ga
set_option maxRecDepth 100000

/-- may a route be? -/
def rtB (par : Int) (r : List Int) : Bool := decide (1 ≤ par) && (decide (par ≤ 3) && r.all fun t => decide (0 ≤ t) && decide (t < par))
theorem rtB_iff {par : Int} {r : List Int} : rtB par r = true ↔ (1 ≤ par ∧ par ≤ 3) ∧ ∀ t ∈ r, 0 ≤ t ∧ t < par := by
  unfold rtB
  simp [and_assoc]
theorem index8 (r0 r1 r2 r3 r4 r5 r6 r7 : Int) (k : Nat) (hk : k < 8) (w : World) : (Instr.index 47 (.agg #[.int .i64 r0, .int .i64 r1, .int .i64 r2, .int .i64 r3, .int .i64 r4, .int .i64 r5, .int .i64 r6, .int .i64 r7]) (.int .i64 k)).run Tryz.prog w = .ok (.int .i64 ([r0, r1, r2, r3, r4, r5, r6, r7].getD k 0)) w := by
  rcases (show k = 0 ∨ k = 1 ∨ k = 2 ∨ k = 3 ∨ k = 4 ∨ k = 5 ∨ k = 6 ∨ k = 7 by omega) with rfl | rfl | rfl | rfl | rfl | rfl | rfl | rfl <;> kernel_rfl
set_option maxHeartbeats 4000000 in
theorem routeRight_any (par r0 r1 r2 r3 r4 r5 r6 r7 : Int) (w : World) : Calls Tryz.prog 143 #[.int .i64 par, .agg #[.int .i64 r0, .int .i64 r1, .int .i64 r2, .int .i64 r3, .int .i64 r4, .int .i64 r5, .int .i64 r6, .int .i64 r7]] w (Gives (.bool (rtB par [r0, r1, r2, r3, r4, r5, r6, r7])) w) := by
  have hmem : ∀ k, k < 8 → [r0, r1, r2, r3, r4, r5, r6, r7].getD k 0 ∈ [r0, r1, r2, r3, r4, r5, r6, r7] := fun k hk => by
    rw [List.getD_eq_getElem?_getD, List.getElem?_eq_getElem (by simpa using hk)]
    exact List.getElem_mem _
  have hall : (∀ k, k < 8 → 0 ≤ [r0, r1, r2, r3, r4, r5, r6, r7].getD k 0 ∧ [r0, r1, r2, r3, r4, r5, r6, r7].getD k 0 < par) → ∀ t ∈ [r0, r1, r2, r3, r4, r5, r6, r7], 0 ≤ t ∧ t < par := fun h t ht => by
    obtain ⟨i, hi, e⟩ := List.mem_iff_getElem.1 ht
    have := h i (by simpa using hi)
    rw [List.getD_eq_getElem?_getD, List.getElem?_eq_getElem hi, e] at this
    exact this
  have hix := index8 r0 r1 r2 r3 r4 r5 r6 r7
  have HIFF := Lib.hid (rtB_iff (par := par) (r := [r0, r1, r2, r3, r4, r5, r6, r7]))
  have HMEM := Lib.hid hmem
  have HALL := Lib.hid hall
  have HIX := Lib.hid hix
  clear hmem hall hix
  generalize hQ : rtB par [r0, r1, r2, r3, r4, r5, r6, r7] = q at *
  clear hQ
  by_cases h1 : 1 ≤ par
  case neg =>
    have hq : q = false := by cases hq : q; · rfl
                              · exact absurd (HIFF.out.1 hq).1.1 h1
    subst hq
    go_enter Tryz.func143, Tryz.ntmps143
    go_wp2
    go_ret
    refine ⟨rfl, ?_⟩
    repeat (first | with_reducible exact Grew.refl _ | apply Grew.more | apply Grew.alloc | apply Grew.drew | apply Grew.drewN)
  by_cases h2 : par ≤ 3
  case neg =>
    have hq : q = false := by cases hq : q; · rfl
                              · exact absurd (HIFF.out.1 hq).1.2 h2
    subst hq
    go_enter Tryz.func143, Tryz.ntmps143
    go_wp2
    go_ret
    refine ⟨rfl, ?_⟩
    repeat (first | with_reducible exact Grew.refl _ | apply Grew.more | apply Grew.alloc | apply Grew.drew | apply Grew.drewN)
  go_enter Tryz.func143, Tryz.ntmps143
  go_wp2
  go_loopg [14] 8 (fun gg s14 wr => ∃ k : Nat, k ≤ 8 ∧ 8 - k ≤ gg ∧ s14 = .int .i64 k ∧ Hid (Grew w wr) ∧ Hid (∀ j, j < k → 0 ≤ [r0, r1, r2, r3, r4, r5, r6, r7].getD j 0 ∧ [r0, r1, r2, r3, r4, r5, r6, r7].getD j 0 < par))
  case atStart => exact ⟨0, by omega, by omega, rfl, Lib.hid (by repeat (first | with_reducible exact Grew.refl _ | apply Grew.more | apply Grew.alloc | apply Grew.drew | apply Grew.drewN)), Lib.hid fun j h => by omega⟩
  case round =>
    obtain ⟨k, hk, hgg, rfl, HG, HNO⟩ := hrel
    by_cases hlt : k < 8
    · have hi := HIX.out k hlt
      have hm := HMEM.out k hlt
      have hstep : (0 ≤ [r0, r1, r2, r3, r4, r5, r6, r7].getD k 0 ∧ [r0, r1, r2, r3, r4, r5, r6, r7].getD k 0 < par) → ∀ j, j < k + 1 → 0 ≤ [r0, r1, r2, r3, r4, r5, r6, r7].getD j 0 ∧ [r0, r1, r2, r3, r4, r5, r6, r7].getD j 0 < par := fun h j hj => by
        rcases Nat.lt_or_ge j k with h1 | h1
        · exact HNO.out j h1
        · obtain rfl : j = k := by omega
          exact h
      generalize hy : [r0, r1, r2, r3, r4, r5, r6, r7].getD k 0 = y at *
      by_cases h3 : 0 ≤ y
      case neg =>
        have hq : q = false := by cases hq : q; · rfl
                                  · exact absurd ((HIFF.out.1 hq).2 y hm).1 h3
        subst hq
        clear hm hstep hy
        go_wp2
        go_ret
        exact ⟨rfl, HG.out.trans (by repeat (first | with_reducible exact Grew.refl _ | apply Grew.more | apply Grew.alloc | apply Grew.drew | apply Grew.drewN))⟩
      by_cases h4 : y < par
      case neg =>
        have hq : q = false := by cases hq : q; · rfl
                                  · exact absurd ((HIFF.out.1 hq).2 y hm).2 h4
        subst hq
        clear hm hstep hy
        go_wp2
        go_ret
        exact ⟨rfl, HG.out.trans (by repeat (first | with_reducible exact Grew.refl _ | apply Grew.more | apply Grew.alloc | apply Grew.drew | apply Grew.drewN))⟩
      have HS := Lib.hid (hstep ⟨h3, h4⟩)
      clear hm hstep hy
      go_wp2
      go_roundg (8 - (k + 1))
      case measure => omega
      case rel => exact ⟨k + 1, by omega, by omega, by go_num, HG, HS⟩
    · obtain rfl : k = 8 := by omega
      have hq : q = true := HIFF.out.2 ⟨⟨h1, h2⟩, HALL.out HNO.out⟩
      subst hq
      go_wp2
      go_ret
      exact ⟨rfl, HG.out.trans (by repeat (first | with_reducible exact Grew.refl _ | apply Grew.more | apply Grew.alloc | apply Grew.drew | apply Grew.drewN))⟩
end Go.Proofs.YtlgbipfpnfphjaaGreatDoor

/-! route.Text; route.Parse of a text. -/
namespace Go.Proofs.YtlgbipfpnfphjaaGreatDoor
set_option linter.unusedSimpArgs false
set_option linter.unusedVariables false
open Go.RowKit Ga
set_option maxRecDepth 100000

def rbt (t : Int) : UInt8 := UInt8.ofNat (48 + t.toNat)
/-- a route's text -/
def rtxt (r : List Int) : List UInt8 := r.map rbt
theorem by_at (W : World) (x : UInt8) (t : TypeId) (b : Nat) {c : Array Value} (hc : c = (encB x).toArray) (hb : b = W.heap.size) : ∀ j u, (([x] : List UInt8).flatMap encB)[j]? = some u → (W.alloc (.cells c t)).cell? ⟨b, j, none⟩ = some u := by
  subst hc
  intro j u hu
  rw [new_cells W _ t b hb j]
  simpa using hu
theorem conv_own (W : World) (base : Nat) (v : Value) (bs : List UInt8) (h : OwnAt base 5 1 encB W v bs) : (convert 86 9 v).run Tryz.prog W = .ok (str bs) W := by
  rcases h.form with ⟨rfl, rfl⟩ | ⟨b, cap, rfl, hb1, hb2, hb3⟩
  · rw [run_convert_bytes_string W _ _ 5 none 0 0 Tryz.underlying86 Tryz.underlying5 Tryz.underlying9]
    rfl
  · have hr := h.rows encB_len
    exact run_convert_bytes_back W _ _ 5 ⟨b, 0, none⟩ cap bs Tryz.underlying86 Tryz.underlying5 Tryz.underlying9 (by
      intro j hj
      obtain ⟨a', cap', hv, _, hx⟩ := hr
      obtain ⟨b', off', hab, hx⟩ := hx (by intro e; subst e; simp at hj)
      cases hv
      cases hab
      rw [addr_add_zero]
      have := hx j bs[j] (List.getElem?_eq_getElem hj) 0 (.int .u8 bs[j].toNat) rfl
      simpa using this)
set_option maxHeartbeats 8000000 in
theorem routeText_any (r0 r1 r2 r3 r4 r5 r6 r7 : Int) (w : World) (hr : rtB 3 [r0, r1, r2, r3, r4, r5, r6, r7] = true) : Calls Tryz.prog 115 #[.agg #[.int .i64 r0, .int .i64 r1, .int .i64 r2, .int .i64 r3, .int .i64 r4, .int .i64 r5, .int .i64 r6, .int .i64 r7]] w (Gives (str (rtxt [r0, r1, r2, r3, r4, r5, r6, r7])) w) := by
  have HR := Lib.hid (rtB_iff.1 hr).2
  have hrt := fun W => routeRight_any 3 r0 r1 r2 r3 r4 r5 r6 r7 W
  simp only [hr] at hrt
  have HRT := Lib.hid hrt
  have HIX := Lib.hid (index8 r0 r1 r2 r3 r4 r5 r6 r7)
  have HMEM := Lib.hid fun k (hk : k < 8) => (by
    rw [List.getD_eq_getElem?_getD, List.getElem?_eq_getElem (by simpa using hk)]
    exact List.getElem_mem _ : [r0, r1, r2, r3, r4, r5, r6, r7].getD k 0 ∈ [r0, r1, r2, r3, r4, r5, r6, r7])
  have HTK := Lib.hid fun k (hk : k < 8) => (by
    have hk' : k < [r0, r1, r2, r3, r4, r5, r6, r7].length := hk
    unfold rtxt
    rw [List.take_succ_eq_append_getElem hk', List.map_append, List.getD_eq_getElem?_getD, List.getElem?_eq_getElem hk']
    rfl : rtxt ([r0, r1, r2, r3, r4, r5, r6, r7].take (k + 1)) = rtxt ([r0, r1, r2, r3, r4, r5, r6, r7].take k) ++ [rbt ([r0, r1, r2, r3, r4, r5, r6, r7].getD k 0)])
  have HLN := Lib.hid fun k => (by unfold rtxt; rw [List.length_map, List.length_take]; exact Nat.min_le_right .. : (rtxt ([r0, r1, r2, r3, r4, r5, r6, r7].take k)).length ≤ 8)
  clear hr hrt
  go_enter Tryz.func115, Tryz.ntmps115
  go_wp2_with (go_at_call 143; refine (HRT.out _).mono ?_; rintro e w1 ⟨rfl, R1, n1, rfl⟩)
  go_loopg [3, 10] 8 (fun gg s3 s10 wr => ∃ k : Nat, k ≤ 8 ∧ 8 - k ≤ gg ∧ s10 = .int .i64 k ∧ Hid (Grew w wr) ∧ Hid (OwnAt w.heap.size 5 1 encB wr s3 (rtxt ([r0, r1, r2, r3, r4, r5, r6, r7].take k))))
  case atStart => exact ⟨0, by omega, by omega, rfl, Lib.hid (by repeat (first | with_reducible exact Grew.refl _ | apply Grew.more | apply Grew.alloc | apply Grew.drew | apply Grew.drewN)), Lib.hid (OwnAt.nil _)⟩
  case round =>
    obtain ⟨k, hk, hgg, rfl, HG, HO⟩ := hrel
    rename World => wa
    by_cases hlt : k < 8
    · have hi := HIX.out k hlt
      have hm := HMEM.out k hlt
      have hT := HTK.out k hlt
      have hln := HLN.out k
      generalize hy : [r0, r1, r2, r3, r4, r5, r6, r7].getD k 0 = y at *
      obtain ⟨y0, y3⟩ := HR.out y hm
      have HT := Lib.hid hT
      clear hm hT hy
      generalize rtxt ([r0, r1, r2, r3, r4, r5, r6, r7].take k) = bs at *
      rcases (show y = 0 ∨ y = 1 ∨ y = 2 by omega) with rfl | rfl | rfl
      · go_wp2_with (at_builtin; go_loud (refine wpList_ownK (w0 := w) rfl (.tmp 13) (.tmp 17) 86 _ _ _ _ [rbt 0] rfl Tryz.underlying86 infoU8 rfl (by decide) encB_len encB_one rfl (OwnAt.grew HO.out (by repeat (first | with_reducible exact Grew.refl _ | apply Grew.more | apply Grew.alloc | apply Grew.drew | apply Grew.drewN))) (HG.out.trans (by repeat (first | with_reducible exact Grew.refl _ | apply Grew.more | apply Grew.alloc | apply Grew.drew | apply Grew.drewN))) rfl (by_at _ _ _ _ rfl (by simp [go_sem])) (by simp; omega) (by decide) (by simp) ?_); intro v7 W7 hA; (have HA := Lib.hid hA); clear hA)
        go_roundg (8 - (k + 1))
        case measure => omega
        case rel => exact ⟨k + 1, by omega, by omega, by go_num, Lib.hid HA.out.1, Lib.hid (by rw [HT.out]; exact HA.out.2.1)⟩
      · go_wp2_with (at_builtin; go_loud (refine wpList_ownK (w0 := w) rfl (.tmp 13) (.tmp 17) 86 _ _ _ _ [rbt 1] rfl Tryz.underlying86 infoU8 rfl (by decide) encB_len encB_one rfl (OwnAt.grew HO.out (by repeat (first | with_reducible exact Grew.refl _ | apply Grew.more | apply Grew.alloc | apply Grew.drew | apply Grew.drewN))) (HG.out.trans (by repeat (first | with_reducible exact Grew.refl _ | apply Grew.more | apply Grew.alloc | apply Grew.drew | apply Grew.drewN))) rfl (by_at _ _ _ _ rfl (by simp [go_sem])) (by simp; omega) (by decide) (by simp) ?_); intro v7 W7 hA; (have HA := Lib.hid hA); clear hA)
        go_roundg (8 - (k + 1))
        case measure => omega
        case rel => exact ⟨k + 1, by omega, by omega, by go_num, Lib.hid HA.out.1, Lib.hid (by rw [HT.out]; exact HA.out.2.1)⟩
      · go_wp2_with (at_builtin; go_loud (refine wpList_ownK (w0 := w) rfl (.tmp 13) (.tmp 17) 86 _ _ _ _ [rbt 2] rfl Tryz.underlying86 infoU8 rfl (by decide) encB_len encB_one rfl (OwnAt.grew HO.out (by repeat (first | with_reducible exact Grew.refl _ | apply Grew.more | apply Grew.alloc | apply Grew.drew | apply Grew.drewN))) (HG.out.trans (by repeat (first | with_reducible exact Grew.refl _ | apply Grew.more | apply Grew.alloc | apply Grew.drew | apply Grew.drewN))) rfl (by_at _ _ _ _ rfl (by simp [go_sem])) (by simp; omega) (by decide) (by simp) ?_); intro v7 W7 hA; (have HA := Lib.hid hA); clear hA)
        go_roundg (8 - (k + 1))
        case measure => omega
        case rel => exact ⟨k + 1, by omega, by omega, by go_num, Lib.hid HA.out.1, Lib.hid (by rw [HT.out]; exact HA.out.2.1)⟩
    · obtain rfl : k = 8 := by omega
      rw [show [r0, r1, r2, r3, r4, r5, r6, r7].take 8 = [r0, r1, r2, r3, r4, r5, r6, r7] from rfl] at HO
      generalize rtxt [r0, r1, r2, r3, r4, r5, r6, r7] = bs at *
      have hcv := conv_own wa _ _ _ HO.out
      obtain ⟨av, cv, rfl⟩ := (OwnAt.rows HO.out encB_len).len
      go_wp2
      go_ret
      exact ⟨rfl, HG.out.trans (by repeat (first | with_reducible exact Grew.refl _ | apply Grew.more | apply Grew.alloc | apply Grew.drew | apply Grew.drewN))⟩
end Go.Proofs.YtlgbipfpnfphjaaGreatDoor

/-! lines: the words of the document's example. -/
namespace Go.Proofs.YtlgbipfpnfphjaaGreatDoor
set_option linter.unusedSimpArgs false
set_option linter.unusedVariables false
open Go.RowKit Ga
set_option maxRecDepth 100000

/-- what the walks of texts ask of the library's variables -/
structure Env27 (w : World) : Prop where
  m : CellM w
  e : Errs w
  p : Pow w
  a : Asc w
theorem Env27.grew {w w' : World} (h : Env27 w) (g : Grew w w') : Env27 w' := ⟨h.m.grew g, h.e.grew g, h.p.grew g, h.a.grew g⟩
theorem split_at (s sep : ByteArray) (xs : List (List UInt8)) (hx : Lib.splitB sep 0 (Lib.countB s sep) s = xs.map fun l => (⟨l.toArray⟩ : ByteArray)) (hs : s.size ≤ 1000000) (h1 : 1 ≤ sep.size) (hn : xs.length ≤ 1000000) (w : World) (hM : CellM w) :
    Calls Tryz.prog 35 #[.string s, .string sep] w (fun e w' => ∃ v, e = .returned v ∧ OwnAt w.heap.size 9 1 encS w' v xs ∧ Grew w w') := by
  obtain ⟨m, hm⟩ := hM
  have hlen := Lib.splitB_all sep h1 0 _ s rfl
  rw [hx, List.length_map] at hlen
  refine (Tryz.strings_Split s sep m w (by omega) hm h1).mono ?_
  rintro e w' ⟨rfl, rfl⟩
  refine ⟨_, rfl, ?_, (Grew.refl w).alloc _⟩
  rw [hx]
  exact OwnAt.fresh (t := 9) rfl hlen.symm hlen.symm (by unfold maxLen; omega) encS_len rfl (Nat.le_refl _) (by rw [flatMap_encS, List.map_map]; rfl)
theorem strs_open {base : Nat} {w : World} {v : Value} {xs : List (List UInt8)} (h : OwnAt base 9 1 encS w v xs) (hne : xs ≠ []) : ∃ b cap, v = .slice (some ⟨b, 0, none⟩) xs.length cap ∧ Pre b w ∧ ∀ i (hi : i < xs.length), w.cell? ⟨b, i, none⟩ = some (.string ⟨xs[i].toArray⟩) := by
  have hr := h.rows encS_len
  rcases h.form with ⟨-, e⟩ | ⟨b, cap, rfl, -⟩
  · exact absurd e hne
  obtain ⟨a', c', e, -, hx⟩ := hr
  cases e
  obtain ⟨b', off, e2, hc⟩ := hx hne
  cases e2
  have h1 : ∀ i (hi : i < xs.length), w.cell? ⟨b, i, none⟩ = some (.string ⟨xs[i].toArray⟩) := fun i hi => by
    have := hc i xs[i] (List.getElem?_eq_getElem hi) 0 _ rfl
    simpa using this
  refine ⟨b, cap, rfl, ?_, h1⟩
  exact Pre.ofCell (h1 0 (by cases xs with | nil => exact absurd rfl hne | cons => simp))
def z8 : Array Value := #[.int .i64 0, .int .i64 0, .int .i64 0, .int .i64 0, .int .i64 0, .int .i64 0, .int .i64 0, .int .i64 0]
end Go.Proofs.YtlgbipfpnfphjaaGreatDoor

/-! lines: the parser at the document's example. -/
namespace Go.Proofs.YtlgbipfpnfphjaaGreatDoor
set_option linter.unusedSimpArgs false
set_option linter.unusedVariables false
open Go.RowKit Ga
set_option maxRecDepth 100000

theorem encN_1 (x : Int) : ∀ u ∈ encN x, u.oneCell' = true := by intro u hu; simp [encN] at hu; subst hu; rfl
theorem infoI_1 : (Tryz.prog.info? 3).map (fun i => (i.zero, i.size, i.bytes)) = some (some (.int .i64 0), 1, 8) := by kernel_rfl
theorem int_at1 (W : World) (x : Int) (t : TypeId) (b : Nat) {c : Array Value} (hc : c = (encN x).toArray) (hb : b = W.heap.size) : ∀ j u, (([x] : List Int).flatMap encN)[j]? = some u → (W.alloc (.cells c t)).cell? ⟨b, j, none⟩ = some u := by
  subst hc
  intro j u hu
  rw [new_cells W _ t b hb j]
  simpa using hu
end Go.Proofs.YtlgbipfpnfphjaaGreatDoor

/-! lines: the parser at the document's example: a step. -/
namespace Go.Proofs.YtlgbipfpnfphjaaGreatDoor
set_option linter.unusedSimpArgs false
set_option linter.unusedVariables false
open Go.RowKit Ga
set_option maxRecDepth 100000

/-- "ADD 2 SINK 0 1 00000000" -/
def stL : List UInt8 := [65, 68, 68, 32, 50, 32, 83, 73, 78, 75, 32, 48, 32, 49, 32, 48, 48, 48, 48, 48, 48, 48, 48]
def N2 : Gr.Nd := ⟨2, 2, [0], [], 1, List.replicate 8 0⟩
def S2 : Gr.Stp := ⟨2, N2, false⟩
theorem own_swap {α : Type} {base : Nat} {e : TypeId} {k : Nat} {enc : α → List Value} {X Y : World} {R : Array Obj} {n : Nat} {v : Value} {l : List α} (h : OwnAt base e k enc (X.more R n) v l) (hs : Y.heap.size = X.heap.size) (hb : X.heap.size ≤ base) : OwnAt base e k enc (Y.more R n) v l := OwnAt.same h fun b hq => by
  have := h.lt b hq
  rw [heap_more_in _ _ _ _ (by omega), heap_more_in _ _ _ _ (by omega), hs]
end Go.Proofs.YtlgbipfpnfphjaaGreatDoor

/-! lines: numbers, lists, routes. -/
namespace Go.Proofs.YtlgbipfpnfphjaaGreatDoor
set_option linter.unusedSimpArgs false
set_option linter.unusedVariables false
open Go.RowKit Ga
set_option maxRecDepth 100000

theorem str_at (W : World) (x : List UInt8) (y : ByteArray) (t : TypeId) (b : Nat) {c : Array Value} (hy : y = ⟨x.toArray⟩) (hc : c = #[.string y]) (hb : b = W.heap.size) : ∀ j u, (([x] : List (List UInt8)).flatMap encS)[j]? = some u → (W.alloc (.cells c t)).cell? ⟨b, j, none⟩ = some u := by
  subst hc hy
  intro j u hu
  rw [new_cells W _ t b hb j]
  simpa [encS] using hu
theorem ints_two (w : World) (a b : Int) (B : Nat) (hB : B = w.heap.size) : IntsAt (w.alloc (.cells #[.int .i64 a, .int .i64 b] 3)) (.slice (some ⟨B, 0, none⟩) 2 2) [a, b] :=
  OwnAt.rows (OwnAt.fresh (base := w.heap.size) (k := 1) (enc := encN) (l := [a, b]) (t := 3) rfl rfl rfl (by simp [maxLen]) encN_len hB (by omega) rfl) encN_len
theorem num1_any (x : Int) (w : World) : Calls Tryz.prog 93 #[.int .i64 x] w (Gives (.bool (!Li.num x)) w) := by
  by_cases h1 : x < -1000000
  · have e : (!Li.num x) = true := by unfold Li.num; simp; omega
    rw [e]
    go_enter Tryz.func93, Tryz.ntmps93
    go_wp2
    go_ret
    refine ⟨rfl, ?_⟩
    repeat (first | with_reducible exact Grew.refl _ | apply Grew.more | apply Grew.alloc | apply Grew.drew | apply Grew.drewN)
  by_cases h2 : 1000000 < x
  · have e : (!Li.num x) = true := by unfold Li.num; simp; omega
    rw [e]
    go_enter Tryz.func93, Tryz.ntmps93
    go_wp2
    go_ret
    refine ⟨rfl, ?_⟩
    repeat (first | with_reducible exact Grew.refl _ | apply Grew.more | apply Grew.alloc | apply Grew.drew | apply Grew.drewN)
  · have e : (!Li.num x) = false := by unfold Li.num; simp; omega
    rw [e]
    go_enter Tryz.func93, Tryz.ntmps93
    go_wp2
    go_ret
    refine ⟨rfl, ?_⟩
    repeat (first | with_reducible exact Grew.refl _ | apply Grew.more | apply Grew.alloc | apply Grew.drew | apply Grew.drewN)
set_option maxHeartbeats 4000000 in
theorem idxNum_any (v : Value) (l : List Int) (w : World) (hv : IntsAt w v l) : Calls Tryz.prog 129 #[v, .func (.func 93) #[] #[]] w (fun e w' => ∃ k : Int, e = .returned (.int .i64 k) ∧ decide (0 ≤ k) = !l.all Li.num ∧ Grew w w') := by
  have HV := Lib.hid hv
  obtain ⟨a, cap, rfl, hm, -⟩ := ints_open hv
  clear hv
  go_enter Tryz.func129, Tryz.ntmps129
  go_wp2
  go_loopg [8] l.length (fun gg s8 wr => ∃ k : Nat, k ≤ l.length ∧ l.length - k ≤ gg ∧ s8 = .int .i64 k ∧ Hid (Grew w wr) ∧ Hid ((l.take k).all Li.num = true))
  case atStart => exact ⟨0, by omega, by omega, rfl, Lib.hid (by repeat (first | with_reducible exact Grew.refl _ | apply Grew.more | apply Grew.alloc | apply Grew.drew | apply Grew.drewN)), Lib.hid rfl⟩
  case round =>
    obtain ⟨k, hk, hgg, rfl, HG, HA⟩ := hrel
    rename World => wa
    by_cases hlt : k < l.length
    · obtain ⟨a', cap', e, -, hx⟩ := ints_open (HV.out.grew HG.out)
      cases e
      obtain ⟨b, off, rfl, hb, c0⟩ := hx k hlt
      have HS := Lib.hid (take_all_succ (p := Li.num) hlt HA.out)
      have HF := Lib.hid (all_false_at (p := Li.num) hlt)
      clear hx
      generalize l[k] = x at *
      cases hr : Li.num x
      all_goals
        have HR := Lib.hid hr
        clear hr
        go_wp2_with (go_at_call 93; refine (num1_any _ _).mono ?_; rintro e w1 ⟨rfl, R1, n1, rfl⟩; rw [HR.out])
      · go_ret
        refine ⟨k, rfl, ?_, HG.out.trans (by repeat (first | with_reducible exact Grew.refl _ | apply Grew.more | apply Grew.alloc | apply Grew.drew | apply Grew.drewN))⟩
        rw [HF.out HR.out]
        simp
      · go_roundg (l.length - (k + 1))
        case measure => omega
        case rel => exact ⟨k + 1, by omega, by omega, by go_num, Lib.hid (HG.out.trans (by repeat (first | with_reducible exact Grew.refl _ | apply Grew.more | apply Grew.alloc | apply Grew.drew | apply Grew.drewN))), Lib.hid (HS.out HR.out)⟩
    · obtain rfl : k = l.length := by omega
      have hz := HA.out
      rw [List.take_length] at hz
      have HZ := Lib.hid hz
      clear hz HA
      go_wp2
      go_ret
      exact ⟨-1, rfl, by rw [HZ.out]; rfl, HG.out⟩
set_option maxHeartbeats 4000000 in
theorem num_any (v : Value) (l : List Int) (w : World) (hv : IntsAt w v l) : Calls Tryz.prog 41 #[v] w (Gives (.bool (l.all Li.num)) w) := by
  have HI := Lib.hid fun W (q : Grew w W) => idxNum_any v l W (hv.grew q)
  have HK : Hid (∀ W, Grew w W → Calls Tryz.prog 92 #[v, .func (.func 93) #[] #[]] W (Gives (.bool (!l.all Li.num)) W)) := Lib.hid fun W q => by
    have HI2 := Lib.hid fun W2 (q2 : Grew W W2) => HI.out W2 (q.trans q2)
    clear HI q hv
    go_enter Tryz.func92, Tryz.ntmps92
    go_wp2_with (go_at_call 129; refine (HI2.out _ (by repeat (first | with_reducible exact Grew.refl _ | apply Grew.more | apply Grew.alloc | apply Grew.drew | apply Grew.drewN))).mono ?_; rintro e w1 ⟨k, rfl, hk, R1, n1, rfl⟩; (have HK := Lib.hid hk); clear hk)
    go_ret
    exact ⟨ret_bool HK.out, by repeat (first | with_reducible exact Grew.refl _ | apply Grew.more | apply Grew.alloc | apply Grew.drew | apply Grew.drewN)⟩
  obtain ⟨a, cap, rfl, hm, -⟩ := ints_open hv
  clear HI hv
  generalize l.all Li.num = q at *
  go_enter Tryz.func41, Tryz.ntmps41
  go_wp2_with (go_at_call 92; refine (HK.out _ (by repeat (first | with_reducible exact Grew.refl _ | apply Grew.more | apply Grew.alloc | apply Grew.drew | apply Grew.drewN))).mono ?_; rintro e w1 ⟨rfl, R1, n1, rfl⟩)
  go_ret
  exact ⟨by simp, by repeat (first | with_reducible exact Grew.refl _ | apply Grew.more | apply Grew.alloc | apply Grew.drew | apply Grew.drewN)⟩

theorem map_take_snoc {α β : Type} (f : α → β) (l : List α) (k : Nat) (h : k < l.length) : (l.take (k + 1)).map f = (l.take k).map f ++ [f l[k]] := by
  rw [List.take_succ_eq_append_getElem h, List.map_append]; rfl
theorem lens_le (xs : List (List UInt8)) (n : Nat) (h : ∀ x ∈ xs, x.length ≤ n) : Lib.lens xs ≤ n * xs.length := by
  induction xs with
  | nil => simp [Lib.lens]
  | cons x r ih =>
    have h1 := h x (by simp)
    have h2 := ih fun y hy => h y (List.mem_cons_of_mem _ hy)
    unfold Lib.lens at *
    simp only [List.map_cons, List.sum_cons, List.length_cons, Nat.mul_succ]
    omega
theorem join_len (xs : List (List UInt8)) (sep : List UInt8) (n : Nat) (h : ∀ x ∈ xs, x.length ≤ n) : (Lib.join xs sep).length ≤ (n + sep.length) * xs.length := by
  cases xs with
  | nil => simp [Lib.join, List.intercalate]
  | cons x r =>
    have h1 := h x (by simp)
    have h2 := lens_le r n fun y hy => h y (List.mem_cons_of_mem _ hy)
    rw [Lib.join_cons, List.length_append, Lib.joinTail_length, List.length_cons, Nat.mul_succ, Nat.add_mul]
    omega
theorem num_range {x : Int} (h : Li.num x = true) : -9223372036854775808 ≤ x ∧ x ≤ 9223372036854775807 := by
  have := Li.num_iff.1 h
  omega
set_option maxHeartbeats 8000000 in
theorem list_any (v : Value) (l : List Int) (w : World) (hP : Pow w) (hf : IntsAt w v l) (hl : ∀ x ∈ l, Li.num x = true) (h60 : l.length ≤ 60) : Calls Tryz.prog 74 #[v] w (Gives (str (Li.listT l)) w) := by
  by_cases hn : l = []
  · subst hn
    obtain ⟨a, cap, rfl, -, -⟩ := ints_open hf
    clear hP hf hl h60
    show Calls Tryz.prog _ #[.slice a 0 cap] w _
    go_enter Tryz.func74, Tryz.ntmps74
    go_wp2
    go_ret
    exact ⟨rfl, by repeat (first | with_reducible exact Grew.refl _ | apply Grew.more | apply Grew.alloc | apply Grew.drew | apply Grew.drewN)⟩
  have hT : Li.listT l = Lib.join (l.map Lib.itoa) [44] := by unfold Li.listT; exact if_neg hn
  have hJ : (Lib.join (l.map Lib.itoa) [44]).length ≤ 1000000 := by
    have := join_len (l.map Lib.itoa) [44] 8 fun x hx => by
      obtain ⟨n, hn2, rfl⟩ := List.mem_map.1 hx
      exact Li.itoa_len8 (hl n hn2)
    rw [List.length_map] at this
    have e : ([44] : List UInt8).length = 1 := rfl
    rw [e] at this
    omega
  rw [hT]
  have HJ := Lib.hid hJ
  have HP := Lib.hid hP
  have HF := Lib.hid hf
  have HL := Lib.hid hl
  have hpos : 0 < l.length := List.length_pos_iff.2 hn
  have hzb : ((l.length : Int) == 0) = false := by rw [beq_eq_false_iff_ne]; omega
  obtain ⟨a, cap, rfl, -, -⟩ := ints_open hf
  clear hP hf hJ hT hn hl
  go_enter Tryz.func74, Tryz.ntmps74
  go_wp2
  go_loopg [3, 11] l.length (fun gg s3 s11 wr => ∃ k : Nat, k ≤ l.length ∧ l.length - k ≤ gg ∧ s11 = .int .i64 k ∧ Hid (Grew w wr) ∧ Hid (OwnAt w.heap.size 9 1 encS wr s3 ((l.take k).map Lib.itoa)))
  case atStart => exact ⟨0, by omega, by omega, rfl, Lib.hid (Grew.refl _), Lib.hid (OwnAt.nil _)⟩
  case round =>
    obtain ⟨k, hk, hgg, rfl, HG, HO⟩ := hrel
    rename World => wa
    by_cases hlt : k < l.length
    · obtain ⟨a', cap', e, -, hx⟩ := ints_open (HF.out.grew HG.out)
      cases e
      obtain ⟨b, off, rfl, p0, c0⟩ := hx k hlt
      have HT := Lib.hid (map_take_snoc Lib.itoa l k hlt)
      have hln : ((l.take k).map Lib.itoa).length = k := by rw [List.length_map, List.length_take]; omega
      have hnx := HL.out _ (List.getElem_mem hlt)
      clear hx
      generalize l[k] = x at *
      have hi8 := Li.itoa_len8 hnx
      have HI := Lib.hid fun W (q : Grew w W) => itoa_any x (num_range hnx) W (HP.out.grew q)
      clear hnx
      generalize (l.take k).map Lib.itoa = xs at *
      generalize Lib.itoa x = ix at *
      go_wp2_with (first
        | (go_at_call 44; refine (HI.out _ (HG.out.trans (by repeat (first | with_reducible exact Grew.refl _ | apply Grew.more | apply Grew.alloc | apply Grew.drew | apply Grew.drewN)))).mono ?_; rintro e w1 ⟨rfl, R1, n1, rfl⟩)
        | (at_builtin; go_loud (refine wpList_ownK (w0 := w) rfl (.tmp 15) (.tmp 18) 56 _ _ _ _ [ix] rfl Tryz.underlying56 infoStr rfl (by decide) encS_len encS_one rfl (OwnAt.grew HO.out (by repeat (first | with_reducible exact Grew.refl _ | apply Grew.more | apply Grew.alloc | apply Grew.drew | apply Grew.drewN))) (HG.out.trans (by repeat (first | with_reducible exact Grew.refl _ | apply Grew.more | apply Grew.alloc | apply Grew.drew | apply Grew.drewN))) rfl (str_at _ _ _ _ _ rfl rfl (by simp [go_sem])) (by simp; omega) (by decide) (by simp) ?_); intro v7 W7 hA; (have HA7 := Lib.hid hA); clear hA))
      go_roundg (l.length - (k + 1))
      case measure => omega
      case rel => exact ⟨k + 1, by omega, by omega, by go_num, Lib.hid HA7.out.1, Lib.hid (by rw [HT.out]; exact HA7.out.2.1)⟩
    · obtain rfl : k = l.length := by omega
      have ho := HO.out
      rw [List.take_length] at ho
      have hlm : (l.map Lib.itoa).length ≤ 1000 := by rw [List.length_map]; omega
      have HO2 := Lib.hid ho
      clear ho HO
      go_wp2_with (go_at_call 18; refine (join_any _ (l.map Lib.itoa) [44] _ _ (HO2.out.grew (by repeat (first | with_reducible exact Grew.refl _ | apply Grew.more | apply Grew.alloc | apply Grew.drew | apply Grew.drewN))) hlm HJ.out).mono ?_; rintro e w1 ⟨rfl, R3, n3, rfl⟩)
      go_ret
      exact ⟨rfl, HG.out.trans (by repeat (first | with_reducible exact Grew.refl _ | apply Grew.more | apply Grew.alloc | apply Grew.drew | apply Grew.drewN))⟩

/-- strings.Split, by lists -/
theorem split_any (s sep : List UInt8) (hs : s.length ≤ 900000) (h1 : sep ≠ []) (w : World) (hM : CellM w) :
    Calls Tryz.prog 35 #[.string ⟨s.toArray⟩, .string ⟨sep.toArray⟩] w (fun e w' => ∃ v, e = .returned v ∧ OwnAt w.heap.size 9 1 encS w' v (Lib.split s sep) ∧ Grew w w') := by
  have hsp : (1 : Nat) ≤ (⟨sep.toArray⟩ : ByteArray).size := by
    show 1 ≤ sep.length
    exact List.length_pos_iff.2 h1
  have hd := Lib.splitB_data ⟨sep.toArray⟩ 0 (Lib.countB ⟨s.toArray⟩ ⟨sep.toArray⟩) ⟨s.toArray⟩
  have hlen := Lib.splitB_all ⟨sep.toArray⟩ hsp 0 _ ⟨s.toArray⟩ rfl
  have hle := Lib.countB_le ⟨sep.toArray⟩ hsp s.length ⟨s.toArray⟩ (Nat.le_refl _)
  have e : Lib.split s sep = Lib.splitK sep 0 (Lib.countB ⟨s.toArray⟩ ⟨sep.toArray⟩) s := rfl
  have hx : Lib.splitB ⟨sep.toArray⟩ 0 (Lib.countB ⟨s.toArray⟩ ⟨sep.toArray⟩) ⟨s.toArray⟩ = (Lib.split s sep).map fun l => (⟨l.toArray⟩ : ByteArray) := by
    rw [e]
    have hd' : List.map (fun x => x.data.toList) (Lib.splitB ⟨sep.toArray⟩ 0 (Lib.countB ⟨s.toArray⟩ ⟨sep.toArray⟩) ⟨s.toArray⟩) = Lib.splitK sep 0 (Lib.countB ⟨s.toArray⟩ ⟨sep.toArray⟩) s := hd
    rw [← hd', List.map_map]
    exact (List.map_id _).symm.trans (List.map_congr_left fun x _ => rfl)
  refine split_at _ _ _ hx (by show s.length ≤ _; omega) hsp ?_ w hM
  have := congrArg List.length hx
  rw [List.length_map, hlen] at this
  have hz : (⟨s.toArray⟩ : ByteArray).size = s.length := rfl
  omega
theorem split_len (s sep : List UInt8) (h1 : sep ≠ []) : 1 ≤ (Lib.split s sep).length ∧ (Lib.split s sep).length ≤ s.length + 1 := by
  have hsp : (1 : Nat) ≤ (⟨sep.toArray⟩ : ByteArray).size := by
    show 1 ≤ sep.length
    exact List.length_pos_iff.2 h1
  have hd := congrArg List.length (Lib.splitB_data ⟨sep.toArray⟩ 0 (Lib.countB ⟨s.toArray⟩ ⟨sep.toArray⟩) ⟨s.toArray⟩)
  have hlen := Lib.splitB_all ⟨sep.toArray⟩ hsp 0 _ ⟨s.toArray⟩ rfl
  have hle := Lib.countB_le ⟨sep.toArray⟩ hsp s.length ⟨s.toArray⟩ (Nat.le_refl _)
  have e : (Lib.split s sep).length = (Lib.splitK sep 0 (Lib.countB ⟨s.toArray⟩ ⟨sep.toArray⟩) s).length := rfl
  have hz : (⟨s.toArray⟩ : ByteArray).size = s.length := rfl
  rw [List.length_map, hlen] at hd
  have hd' : Lib.countB ⟨s.toArray⟩ ⟨sep.toArray⟩ + 1 = (Lib.splitK sep 0 (Lib.countB ⟨s.toArray⟩ ⟨sep.toArray⟩) s).length := hd
  omega
theorem splitK_sub (sep : List UInt8) : ∀ (k : Nat) (s : List UInt8), ∀ x ∈ Lib.splitK sep 0 k s, x.length ≤ s.length
  | 0, s, x, hx => by
    simp [Lib.splitK] at hx
    subst hx
    exact Nat.le_refl _
  | k + 1, s, x, hx => by
    unfold Lib.splitK at hx
    split at hx
    · simp at hx
      subst hx
      exact Nat.le_refl _
    · rcases List.mem_cons.1 hx with rfl | hx
      · rw [List.length_take]; omega
      · have := splitK_sub sep k _ x hx
        rw [List.length_drop] at this
        omega
theorem split_sub (s sep : List UInt8) : ∀ x ∈ Lib.split s sep, x.length ≤ s.length := splitK_sub sep _ s
set_option maxHeartbeats 8000000 in
theorem numbers_any (s : List UInt8) (hs : s.length ≤ 100000) (w : World) (hV : Env27 w) : Calls Tryz.prog 88 #[.string ⟨s.toArray⟩] w (fun e w' => ∃ v, e = .returned v ∧ OwnAt w.heap.size 3 1 encN w' v (Li.numsP s) ∧ Grew w w') := by
  by_cases hd : s = [45]
  · subst hd
    clear hV hs
    show Calls Tryz.prog _ #[.string ⟨#[45]⟩] w _
    go_enter Tryz.func88, Tryz.ntmps88
    go_wp2
    go_ret
    exact ⟨_, rfl, OwnAt.nil _, by repeat (first | with_reducible exact Grew.refl _ | apply Grew.more | apply Grew.alloc | apply Grew.drew | apply Grew.drewN)⟩
  have hT : Li.numsP s = (Lib.split s [44]).map Co.atoiVal := by unfold Li.numsP; exact if_neg hd
  rw [hT]
  have hne : (s == [45]) = false := by simpa using hd
  obtain ⟨hl1, hl2⟩ := split_len s [44] (by decide)
  have HSUB := Lib.hid (split_sub s [44])
  have HS := Lib.hid fun W (q : Grew w W) => split_any s [44] (by omega) (by decide) W (hV.m.grew q)
  have HE := Lib.hid fun W (q : Grew w W) => hV.e.grew q
  clear hV hT hd
  generalize Lib.split s [44] = xs at *
  have hxs : xs ≠ [] := by intro e; subst e; simp at hl1
  go_enter Tryz.func88, Tryz.ntmps88
  go_wp2_with (go_at_call 35; refine (HS.out _ (by repeat (first | with_reducible exact Grew.refl _ | apply Grew.more | apply Grew.alloc | apply Grew.drew | apply Grew.drewN))).mono ?_; rintro e w1 ⟨v1, rfl, hv1, R1, n1, rfl⟩; obtain ⟨bs, cs, rfl, hbs, hcs⟩ := strs_open hv1 hxs; (have HCS := Lib.hid hcs); clear hv1 hcs)
  have hgw : Hid (Grew w (w.more R1 n1)) := Lib.hid (by repeat (first | with_reducible exact Grew.refl _ | apply Grew.more | apply Grew.alloc | apply Grew.drew | apply Grew.drewN))
  generalize w.more R1 n1 = w1 at *
  go_loopg [3, 13] xs.length (fun gg s3 s13 wr => ∃ k : Nat, k ≤ xs.length ∧ xs.length - k ≤ gg ∧ s13 = .int .i64 k ∧ Hid (Grew w1 wr) ∧ Hid (OwnAt w1.heap.size 3 1 encN wr s3 ((xs.take k).map Co.atoiVal)))
  case atStart => exact ⟨0, by omega, by omega, rfl, Lib.hid (Grew.refl _), Lib.hid (OwnAt.nil _)⟩
  case round =>
    obtain ⟨k, hk, hgg, rfl, HG, HO⟩ := hrel
    rename World => wa
    by_cases hlt : k < xs.length
    · have s0 := cell_grew (HCS.out k hlt) HG.out
      have p0 := Pre.ofCell s0
      have hsl := HSUB.out _ (List.getElem_mem hlt)
      have HT := Lib.hid (map_take_snoc Co.atoiVal xs k hlt)
      have hln : ((xs.take k).map Co.atoiVal).length = k := by rw [List.length_map, List.length_take]; omega
      generalize xs[k] = x at *
      have HA := Lib.hid fun W (q : Grew w W) => atoiL_any x (by omega) W (HE.out W q)
      have hr := Co.atoiVal_range x
      generalize (xs.take k).map Co.atoiVal = ys at *
      generalize Co.atoiVal x = y at *
      go_wp2_with (first
        | (go_at_call 85; refine (HA.out _ ((hgw.out.trans HG.out).trans (by repeat (first | with_reducible exact Grew.refl _ | apply Grew.more | apply Grew.alloc | apply Grew.drew | apply Grew.drewN)))).mono ?_; rintro e w2 ⟨v2, rfl, R2, n2, rfl⟩)
        | (at_builtin; go_loud (refine wpList_ownK (w0 := w1) rfl (.tmp 22) (.tmp 24) 45 _ _ _ _ [y] rfl Tryz.underlying45 infoI_1 rfl (by decide) encN_len encN_1 rfl (OwnAt.grew HO.out (by repeat (first | with_reducible exact Grew.refl _ | apply Grew.more | apply Grew.alloc | apply Grew.drew | apply Grew.drewN))) (HG.out.trans (by repeat (first | with_reducible exact Grew.refl _ | apply Grew.more | apply Grew.alloc | apply Grew.drew | apply Grew.drewN))) rfl (int_at1 _ _ _ _ rfl (by simp [go_sem])) (by simp; omega) (by decide) (by simp) ?_); intro v7 W7 hA; (have HA7 := Lib.hid hA); clear hA))
      go_roundg (xs.length - (k + 1))
      case measure => omega
      case rel => exact ⟨k + 1, by omega, by omega, by go_num, Lib.hid HA7.out.1, Lib.hid (by rw [HT.out]; exact HA7.out.2.1)⟩
    · obtain rfl : k = xs.length := by omega
      have ho := HO.out
      rw [List.take_length] at ho
      have HO2 := Lib.hid ho
      clear ho HO
      obtain ⟨av, cv, rfl⟩ := (OwnAt.rows HO2.out encN_len).len
      go_wp2
      go_ret
      exact ⟨_, rfl, OwnAt.low HO2.out hgw.out.below.size, hgw.out.trans HG.out⟩
end Go.Proofs.YtlgbipfpnfphjaaGreatDoor

/-! What the listed variables of layers 27 and 28 give the walks. -/
namespace Go.Proofs.YtlgbipfpnfphjaaGreatDoor
set_option linter.unusedSimpArgs false
set_option linter.unusedVariables false
open Go.RowKit Go.Lib
set_option maxRecDepth 100000

theorem ascIs : (Rows.laid_strings_asciiSpace : DataW Unit) = tabData .u8 Lib.asciiSpaceTab := by kernel_rfl
theorem gAsc : Tryz.prog.globalNamed "strings.asciiSpace" = some 1 := by kernel_rfl
theorem gAscType : (Tryz.prog.globals[1]?).map (·.type) = some 207 := by kernel_rfl
theorem cells256 : Tryz.prog.cellsOf 207 = 256 := by kernel_rfl
theorem cellsU8 : Tryz.prog.cellsOf 5 = 1 := by kernel_rfl
theorem asc_of {W : World} {l : List (String × DataW Unit)} (h : laidMet Tryz.prog l W) (hm : ("strings.asciiSpace", Rows.laid_strings_asciiSpace) ∈ l) : Asc W := by
  rw [ascIs] at hm
  exact tab_of_reads gAsc gAscType Tryz.underlying207 Tryz.underlying5 cellsU8 cells256 (laidMet.reads h hm)
theorem cellM_of {W : World} (h : W.ShapedOpen Tryz.prog) : CellM W := Tryz.laysM145.s1_3 W h
/-- What the rows of layer 27 list. -/
theorem env27_of {W : World} (h : laidMet Tryz.prog Rows.linesEventsRow.laid W) (hs : W.ShapedOpen Tryz.prog) : Env27 W :=
  ⟨cellM_of hs, errs_of (laidMet.tail (laidMet.tail (laidMet.tail (laidMet.tail h)))) (laidMet.tail (laidMet.tail (laidMet.tail (laidMet.tail (laidMet.tail h))))), pow_of h (.tail _ (.tail _ (.head _))), asc_of h (.tail _ (.tail _ (.tail _ (.tail _ (.tail _ (.tail _ (.tail _ (.head _))))))))⟩
/-- A witness: the table of white space. -/
noncomputable def layWhite (w : World) : World :=
  layBlocks ((w.alloc (.cells ((whiteT.map fun n : Nat => Value.int .u16 (n : Int)).toArray) 243)).alloc (.cells #[.slice (some ⟨w.heap.size, 0, none⟩) 7 7, .slice none 0 0, .int .i64 2] 240))
    [(5, #[.pointer (some ⟨w.heap.size + 1, 0, none⟩)])]
noncomputable def laidWorld27 (os : Os) : World := layWhite (layErrs (layBlocks (World.holding Tryz.prog os ⟨#[], #[], []⟩) [(8, tabCells Rows.laid_math_bits_deBruijn32tab), (9, tabCells Rows.laid_math_bits_deBruijn64tab), (4, tabCells Rows.laid_internal_strconv_uint64pow10), (7, tabCells2 Rows.laid_unicode_utf8_acceptRanges), (6, tabCells Rows.laid_unicode_utf8_first), (1, tabCells Rows.laid_strings_asciiSpace)]))
end Go.Proofs.YtlgbipfpnfphjaaGreatDoor
