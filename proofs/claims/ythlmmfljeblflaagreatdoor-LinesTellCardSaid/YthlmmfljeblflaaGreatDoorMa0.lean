import Derived.Test.YthlmmfljeblflaaGreatDoorMc23
import Derived.Test.YthlmmfljeblflaaGreatDoorMc14
import Derived.Test.YthlmmfljeblflaaGreatDoorMc6
import Derived.Test.YthlmmfljeblflaaGreatDoorMc20
import Derived.Test.YthlmmfljeblflaaGreatDoorMc9
import Derived.Deep.RegionHeld3
import Derived.Test.YthlmmfljeblflaaGreatDoorMc13
/-! route.Text; route.Parse of a text. -/
namespace Go.Proofs.YthlmmfljeblflaaGreatDoor
set_option linter.unusedSimpArgs false
set_option linter.unusedVariables false
open Go.RowKit Ga
set_option maxRecDepth 100000

def rbt (t : Int) : UInt8 := UInt8.ofNat (48 + t.toNat)
/-- a route's text -/
def rtxt (r : List Int) : List UInt8 := r.map rbt
theorem by_at (W : World) (x : UInt8) (t : TypeId) (b : Nat) {c : Array Value} (hc : c = (encB x).toArray) (hb : b = W.heap.size) : ∀ j u, (([x] : List UInt8).flatMap encB)[j]? = some u → (W.alloc (.cells c t)).cell? ⟨b, j, none⟩ = some u := by
  subst hc
  intro j u hu
  rw [new_cells W _ t b hb j]
  simpa using hu
theorem conv_own (W : World) (base : Nat) (v : Value) (bs : List UInt8) (h : OwnAt base 5 1 encB W v bs) : (convert 110 9 v).run Tryz.prog W = .ok (str bs) W := by
  rcases h.form with ⟨rfl, rfl⟩ | ⟨b, cap, rfl, hb1, hb2, hb3⟩
  · rw [run_convert_bytes_string W _ _ 5 none 0 0 Tryz.underlying110 Tryz.underlying5 Tryz.underlying9]
    rfl
  · have hr := h.rows encB_len
    exact run_convert_bytes_back W _ _ 5 ⟨b, 0, none⟩ cap bs Tryz.underlying110 Tryz.underlying5 Tryz.underlying9 (by
      intro j hj
      obtain ⟨a', cap', hv, _, hx⟩ := hr
      obtain ⟨b', off', hab, hx⟩ := hx (by intro e; subst e; simp at hj)
      cases hv
      cases hab
      rw [addr_add_zero]
      have := hx j bs[j] (List.getElem?_eq_getElem hj) 0 (.int .u8 bs[j].toNat) rfl
      simpa using this)
set_option maxHeartbeats 8000000 in
theorem routeText_any (r0 r1 r2 r3 r4 r5 r6 r7 : Int) (w : World) (hr : rtB 3 [r0, r1, r2, r3, r4, r5, r6, r7] = true) : Calls Tryz.prog 84 #[.agg #[.int .i64 r0, .int .i64 r1, .int .i64 r2, .int .i64 r3, .int .i64 r4, .int .i64 r5, .int .i64 r6, .int .i64 r7]] w (Gives (str (rtxt [r0, r1, r2, r3, r4, r5, r6, r7])) w) := by
  have HR := Lib.hid (rtB_iff.1 hr).2
  have hrt := fun W => routeRight_any 3 r0 r1 r2 r3 r4 r5 r6 r7 W
  simp only [hr] at hrt
  have HRT := Lib.hid hrt
  have HIX := Lib.hid (index8 r0 r1 r2 r3 r4 r5 r6 r7)
  have HMEM := Lib.hid fun k (hk : k < 8) => (by
    rw [List.getD_eq_getElem?_getD, List.getElem?_eq_getElem (by simpa using hk)]
    exact List.getElem_mem _ : [r0, r1, r2, r3, r4, r5, r6, r7].getD k 0 ∈ [r0, r1, r2, r3, r4, r5, r6, r7])
  have HTK := Lib.hid fun k (hk : k < 8) => (by
    have hk' : k < [r0, r1, r2, r3, r4, r5, r6, r7].length := hk
    unfold rtxt
    rw [List.take_succ_eq_append_getElem hk', List.map_append, List.getD_eq_getElem?_getD, List.getElem?_eq_getElem hk']
    rfl : rtxt ([r0, r1, r2, r3, r4, r5, r6, r7].take (k + 1)) = rtxt ([r0, r1, r2, r3, r4, r5, r6, r7].take k) ++ [rbt ([r0, r1, r2, r3, r4, r5, r6, r7].getD k 0)])
  have HLN := Lib.hid fun k => (by unfold rtxt; rw [List.length_map, List.length_take]; exact Nat.min_le_right .. : (rtxt ([r0, r1, r2, r3, r4, r5, r6, r7].take k)).length ≤ 8)
  clear hr hrt
  go_enter Tryz.func84, Tryz.ntmps84
  go_wp2_with (go_at_call 121; refine (HRT.out _).mono ?_; rintro e w1 ⟨rfl, R1, n1, rfl⟩)
  go_loopg [3, 10] 8 (fun gg s3 s10 wr => ∃ k : Nat, k ≤ 8 ∧ 8 - k ≤ gg ∧ s10 = .int .i64 k ∧ Hid (Grew w wr) ∧ Hid (OwnAt w.heap.size 5 1 encB wr s3 (rtxt ([r0, r1, r2, r3, r4, r5, r6, r7].take k))))
  case atStart => exact ⟨0, by omega, by omega, rfl, Lib.hid (by repeat (first | with_reducible exact Grew.refl _ | apply Grew.more | apply Grew.alloc | apply Grew.drew | apply Grew.drewN)), Lib.hid (OwnAt.nil _)⟩
  case round =>
    obtain ⟨k, hk, hgg, rfl, HG, HO⟩ := hrel
    rename World => wa
    by_cases hlt : k < 8
    · have hi := HIX.out k hlt
      have hm := HMEM.out k hlt
      have hT := HTK.out k hlt
      have hln := HLN.out k
      generalize hy : [r0, r1, r2, r3, r4, r5, r6, r7].getD k 0 = y at *
      obtain ⟨y0, y3⟩ := HR.out y hm
      have HT := Lib.hid hT
      clear hm hT hy
      generalize rtxt ([r0, r1, r2, r3, r4, r5, r6, r7].take k) = bs at *
      rcases (show y = 0 ∨ y = 1 ∨ y = 2 by omega) with rfl | rfl | rfl
      · go_wp2_with (at_builtin; go_loud (refine wpList_ownK (w0 := w) rfl (.tmp 13) (.tmp 17) 110 _ _ _ _ [rbt 0] rfl Tryz.underlying110 infoU8 rfl (by decide) encB_len encB_one rfl (OwnAt.grew HO.out (by repeat (first | with_reducible exact Grew.refl _ | apply Grew.more | apply Grew.alloc | apply Grew.drew | apply Grew.drewN))) (HG.out.trans (by repeat (first | with_reducible exact Grew.refl _ | apply Grew.more | apply Grew.alloc | apply Grew.drew | apply Grew.drewN))) rfl (by_at _ _ _ _ rfl (by simp [go_sem])) (by simp; omega) (by decide) (by simp) ?_); intro v7 W7 hA; (have HA := Lib.hid hA); clear hA)
        go_roundg (8 - (k + 1))
        case measure => omega
        case rel => exact ⟨k + 1, by omega, by omega, by go_num, Lib.hid HA.out.1, Lib.hid (by rw [HT.out]; exact HA.out.2.1)⟩
      · go_wp2_with (at_builtin; go_loud (refine wpList_ownK (w0 := w) rfl (.tmp 13) (.tmp 17) 110 _ _ _ _ [rbt 1] rfl Tryz.underlying110 infoU8 rfl (by decide) encB_len encB_one rfl (OwnAt.grew HO.out (by repeat (first | with_reducible exact Grew.refl _ | apply Grew.more | apply Grew.alloc | apply Grew.drew | apply Grew.drewN))) (HG.out.trans (by repeat (first | with_reducible exact Grew.refl _ | apply Grew.more | apply Grew.alloc | apply Grew.drew | apply Grew.drewN))) rfl (by_at _ _ _ _ rfl (by simp [go_sem])) (by simp; omega) (by decide) (by simp) ?_); intro v7 W7 hA; (have HA := Lib.hid hA); clear hA)
        go_roundg (8 - (k + 1))
        case measure => omega
        case rel => exact ⟨k + 1, by omega, by omega, by go_num, Lib.hid HA.out.1, Lib.hid (by rw [HT.out]; exact HA.out.2.1)⟩
      · go_wp2_with (at_builtin; go_loud (refine wpList_ownK (w0 := w) rfl (.tmp 13) (.tmp 17) 110 _ _ _ _ [rbt 2] rfl Tryz.underlying110 infoU8 rfl (by decide) encB_len encB_one rfl (OwnAt.grew HO.out (by repeat (first | with_reducible exact Grew.refl _ | apply Grew.more | apply Grew.alloc | apply Grew.drew | apply Grew.drewN))) (HG.out.trans (by repeat (first | with_reducible exact Grew.refl _ | apply Grew.more | apply Grew.alloc | apply Grew.drew | apply Grew.drewN))) rfl (by_at _ _ _ _ rfl (by simp [go_sem])) (by simp; omega) (by decide) (by simp) ?_); intro v7 W7 hA; (have HA := Lib.hid hA); clear hA)
        go_roundg (8 - (k + 1))
        case measure => omega
        case rel => exact ⟨k + 1, by omega, by omega, by go_num, Lib.hid HA.out.1, Lib.hid (by rw [HT.out]; exact HA.out.2.1)⟩
    · obtain rfl : k = 8 := by omega
      rw [show [r0, r1, r2, r3, r4, r5, r6, r7].take 8 = [r0, r1, r2, r3, r4, r5, r6, r7] from rfl] at HO
      generalize rtxt [r0, r1, r2, r3, r4, r5, r6, r7] = bs at *
      have hcv := conv_own wa _ _ _ HO.out
      obtain ⟨av, cv, rfl⟩ := (OwnAt.rows HO.out encB_len).len
      go_wp2
      go_ret
      exact ⟨rfl, HG.out.trans (by repeat (first | with_reducible exact Grew.refl _ | apply Grew.more | apply Grew.alloc | apply Grew.drew | apply Grew.drewN))⟩
end Go.Proofs.YthlmmfljeblflaaGreatDoor

/-! lines: the words of the document's example. -/
namespace Go.Proofs.YthlmmfljeblflaaGreatDoor
set_option linter.unusedSimpArgs false
set_option linter.unusedVariables false
open Go.RowKit Ga
set_option maxRecDepth 100000

/-- what the walks of texts ask of the library's variables -/
structure Env27 (w : World) : Prop where
  m : CellM w
  e : Errs w
  p : Pow w
  a : Asc w
theorem Env27.grew {w w' : World} (h : Env27 w) (g : Grew w w') : Env27 w' := ⟨h.m.grew g, h.e.grew g, h.p.grew g, h.a.grew g⟩
theorem split_at (s sep : ByteArray) (xs : List (List UInt8)) (hx : Lib.splitB sep 0 (Lib.countB s sep) s = xs.map fun l => (⟨l.toArray⟩ : ByteArray)) (hs : s.size ≤ 1000000) (h1 : 1 ≤ sep.size) (hn : xs.length ≤ 1000000) (w : World) (hM : CellM w) :
    Calls Tryz.prog 25 #[.string s, .string sep] w (fun e w' => ∃ v, e = .returned v ∧ OwnAt w.heap.size 9 1 encS w' v xs ∧ Grew w w') := by
  obtain ⟨m, hm⟩ := hM
  have hlen := Lib.splitB_all sep h1 0 _ s rfl
  rw [hx, List.length_map] at hlen
  refine (Tryz.strings_Split s sep m w (by omega) hm h1).mono ?_
  rintro e w' ⟨rfl, rfl⟩
  refine ⟨_, rfl, ?_, (Grew.refl w).alloc _⟩
  rw [hx]
  exact OwnAt.fresh (t := 9) rfl hlen.symm hlen.symm (by unfold maxLen; omega) encS_len rfl (Nat.le_refl _) (by rw [flatMap_encS, List.map_map]; rfl)
theorem strs_open {base : Nat} {w : World} {v : Value} {xs : List (List UInt8)} (h : OwnAt base 9 1 encS w v xs) (hne : xs ≠ []) : ∃ b cap, v = .slice (some ⟨b, 0, none⟩) xs.length cap ∧ Pre b w ∧ ∀ i (hi : i < xs.length), w.cell? ⟨b, i, none⟩ = some (.string ⟨xs[i].toArray⟩) := by
  have hr := h.rows encS_len
  rcases h.form with ⟨-, e⟩ | ⟨b, cap, rfl, -⟩
  · exact absurd e hne
  obtain ⟨a', c', e, -, hx⟩ := hr
  cases e
  obtain ⟨b', off, e2, hc⟩ := hx hne
  cases e2
  have h1 : ∀ i (hi : i < xs.length), w.cell? ⟨b, i, none⟩ = some (.string ⟨xs[i].toArray⟩) := fun i hi => by
    have := hc i xs[i] (List.getElem?_eq_getElem hi) 0 _ rfl
    simpa using this
  refine ⟨b, cap, rfl, ?_, h1⟩
  exact Pre.ofCell (h1 0 (by cases xs with | nil => exact absurd rfl hne | cons => simp))
theorem idx8 (k : Nat) (hk : k < 8) (w : World) : (Instr.index 9 (.string ⟨#[48, 48, 48, 48, 48, 48, 48, 48]⟩) (.int .i64 k)).run Tryz.prog w = .ok (.int .u8 48) w := by
  rcases (show k = 0 ∨ k = 1 ∨ k = 2 ∨ k = 3 ∨ k = 4 ∨ k = 5 ∨ k = 6 ∨ k = 7 by omega) with rfl | rfl | rfl | rfl | rfl | rfl | rfl | rfl <;> kernel_rfl
def z8 : Array Value := #[.int .i64 0, .int .i64 0, .int .i64 0, .int .i64 0, .int .i64 0, .int .i64 0, .int .i64 0, .int .i64 0]
theorem z8_set (k : Nat) : z8.setIfInBounds k (.int .i64 0) = z8 := by
  by_cases hk : k < 8
  · rcases (show k = 0 ∨ k = 1 ∨ k = 2 ∨ k = 3 ∨ k = 4 ∨ k = 5 ∨ k = 6 ∨ k = 7 by omega) with rfl | rfl | rfl | rfl | rfl | rfl | rfl | rfl <;> rfl
  · exact Array.setIfInBounds_eq_of_size_le (by show 8 ≤ k; omega)
theorem z8_get (k : Nat) (hk : k < 8) : z8[k]? = some (.int .i64 0) := by
  rcases (show k = 0 ∨ k = 1 ∨ k = 2 ∨ k = 3 ∨ k = 4 ∨ k = 5 ∨ k = 6 ∨ k = 7 by omega) with rfl | rfl | rfl | rfl | rfl | rfl | rfl | rfl <;> rfl
set_option maxHeartbeats 8000000 in
theorem routeParse0 (w : World) : Calls Tryz.prog 82 #[.string ⟨#[48, 48, 48, 48, 48, 48, 48, 48]⟩] w (Gives (.tuple #[.agg z8, .int .i64 0]) w) := by
  have hrt := fun W => routeRight_any 3 0 0 0 0 0 0 0 0 W
  rw [show rtB 3 [0, 0, 0, 0, 0, 0, 0, 0] = true from rfl] at hrt
  have HRT := Lib.hid hrt
  clear hrt
  have HIX := Lib.hid idx8
  go_enter Tryz.func82, Tryz.ntmps82
  go_wp2
  go_loopg [10] 8 (fun gg s10 wr => ∃ k : Nat, k ≤ 8 ∧ 8 - k ≤ gg ∧ s10 = .int .i64 k ∧ Hid (Grew w wr) ∧ Hid (wr.heap[w.heap.size]? = some (.cells z8 39)) ∧ Hid (wr.heap[w.heap.size + 1]? = some (.cells z8 39)))
  case atStart => exact ⟨0, by omega, by omega, rfl, Lib.hid (by repeat (first | with_reducible exact Grew.refl _ | apply Grew.more | apply Grew.alloc | apply Grew.drew | apply Grew.drewN)), Lib.hid (heap_alloc' (heap_new_at w _ _ rfl) _), Lib.hid (heap_new_at _ _ _ (by simp [World.size_alloc]))⟩
  case round =>
    obtain ⟨k, hk, hgg, rfl, HG, HA, HB⟩ := hrel
    rename World => wa
    by_cases hlt : k < 8
    · have hi := HIX.out k hlt
      have hc := (cell_of (o := k) HB.out).trans (z8_get k hlt)
      have hf := frozen_of (o := k) HB.out
      have hp := Pre.mk (heap_lt HB.out)
      go_wp2
      go_roundg (8 - (k + 1))
      case measure => omega
      case rel =>
        refine ⟨k + 1, by omega, by omega, by go_num, Lib.hid (Grew.set HG.out (by omega) _), Lib.hid ?_, Lib.hid ?_⟩
        · rw [set_other (by omega)]
          exact HA.out
        · rw [set_self HB.out, z8_set]
    · obtain rfl : k = 8 := by omega
      have a0 := cell_of (o := 0) HA.out
      have a1 := cell_of (o := 1) HA.out
      have a2 := cell_of (o := 2) HA.out
      have a3 := cell_of (o := 3) HA.out
      have a4 := cell_of (o := 4) HA.out
      have a5 := cell_of (o := 5) HA.out
      have a6 := cell_of (o := 6) HA.out
      have a7 := cell_of (o := 7) HA.out
      have b0 := cell_of (o := 0) HB.out
      have b1 := cell_of (o := 1) HB.out
      have b2 := cell_of (o := 2) HB.out
      have b3 := cell_of (o := 3) HB.out
      have b4 := cell_of (o := 4) HB.out
      have b5 := cell_of (o := 5) HB.out
      have b6 := cell_of (o := 6) HB.out
      have b7 := cell_of (o := 7) HB.out
      simp [z8] at a0 a1 a2 a3 a4 a5 a6 a7 b0 b1 b2 b3 b4 b5 b6 b7
      have f0 := frozen_of (o := 0) HA.out
      have f1 := frozen_of (o := 1) HA.out
      have f2 := frozen_of (o := 2) HA.out
      have f3 := frozen_of (o := 3) HA.out
      have f4 := frozen_of (o := 4) HA.out
      have f5 := frozen_of (o := 5) HA.out
      have f6 := frozen_of (o := 6) HA.out
      have f7 := frozen_of (o := 7) HA.out
      have pa := Pre.mk (heap_lt HA.out)
      have pb := Pre.mk (heap_lt HB.out)
      go_wp2_with (go_at_call 121; refine (HRT.out _).mono ?_; rintro e w1 ⟨rfl, R1, n1, rfl⟩)
      refine bodyPost_ret (v := .tuple #[.agg z8, .int .i64 0]) (by simp [results, Tryz.results82, go_sem, z8, pa, a0, a1, a2, a3, a4, a5, a6, a7]) rfl ⟨rfl, ?_⟩
      repeat (first | with_reducible exact HG.out | with_reducible apply Grew.more | with_reducible apply Grew.alloc | refine Grew.set ?_ (by omega) _)
end Go.Proofs.YthlmmfljeblflaaGreatDoor

/-! lines: the parser at the document's example. -/
namespace Go.Proofs.YthlmmfljeblflaaGreatDoor
set_option linter.unusedSimpArgs false
set_option linter.unusedVariables false
open Go.RowKit Ga
set_option maxRecDepth 100000

theorem encN_1 (x : Int) : ∀ u ∈ encN x, u.oneCell' = true := by intro u hu; simp [encN] at hu; subst hu; rfl
theorem infoI_1 : (Tryz.prog.info? 3).map (fun i => (i.zero, i.size, i.bytes)) = some (some (.int .i64 0), 1, 8) := by kernel_rfl
theorem int_at1 (W : World) (x : Int) (t : TypeId) (b : Nat) {c : Array Value} (hc : c = (encN x).toArray) (hb : b = W.heap.size) : ∀ j u, (([x] : List Int).flatMap encN)[j]? = some u → (W.alloc (.cells c t)).cell? ⟨b, j, none⟩ = some u := by
  subst hc
  intro j u hu
  rw [new_cells W _ t b hb j]
  simpa using hu
abbrev B8 : ByteArray := ⟨#[48, 48, 48, 48, 48, 48, 48, 48]⟩
theorem routeParse0l (w : World) : Calls Tryz.prog 82 #[.string ⟨#[48, 48, 48, 48, 48, 48, 48, 48]⟩] w (Gives (.tuple #[.agg #[.int .i64 0, .int .i64 0, .int .i64 0, .int .i64 0, .int .i64 0, .int .i64 0, .int .i64 0, .int .i64 0], .int .i64 0]) w) := routeParse0 w
set_option maxHeartbeats 8000000 in
theorem placed0 (id kd par r0 r1 r2 r3 r4 r5 r6 r7 : Int) (af ap : Option Addr) (nf cf np cp : Nat) (w : World) (hE : Errs w) : Calls Tryz.prog 46 #[.agg #[.int .i64 id, .int .i64 kd, .slice af nf cf, .slice ap np cp, .int .i64 par, .int .i64 r0, .int .i64 r1, .int .i64 r2, .int .i64 r3, .int .i64 r4, .int .i64 r5, .int .i64 r6, .int .i64 r7], .string ⟨#[49]⟩, .string ⟨#[48, 48, 48, 48, 48, 48, 48, 48]⟩] w
    (Gives (.agg #[.int .i64 id, .int .i64 kd, .slice af nf cf, .slice ap np cp, .int .i64 1, .int .i64 0, .int .i64 0, .int .i64 0, .int .i64 0, .int .i64 0, .int .i64 0, .int .i64 0, .int .i64 0]) w) := by
  have HA := Lib.hid fun W (q : Grew w W) => atoiL_any [49] (by decide) W (hE.grew q)
  rw [show Co.atoiVal [49] = 1 from rfl] at HA
  clear hE
  go_enter Tryz.func46, Tryz.ntmps46
  go_wp2_with (first
    | (go_at_call 44; refine (HA.out _ (by repeat (first | with_reducible exact Grew.refl _ | apply Grew.more | apply Grew.alloc | apply Grew.drew | apply Grew.drewN))).mono ?_; rintro e w1 ⟨v1, rfl, R1, n1, rfl⟩)
    | (go_at_call 82; refine (routeParse0l _).mono ?_; rintro e w1 ⟨rfl, R2, n2, rfl⟩))
  refine bodyPost_ret (v := .agg #[.int .i64 id, .int .i64 kd, .slice af nf cf, .slice ap np cp, .int .i64 1, .int .i64 0, .int .i64 0, .int .i64 0, .int .i64 0, .int .i64 0, .int .i64 0, .int .i64 0, .int .i64 0]) (by simp [results, Tryz.results46, go_sem]) rfl ⟨rfl, ?_⟩
  repeat (first | with_reducible exact Grew.refl _ | apply Grew.more | apply Grew.alloc | apply Grew.drew | apply Grew.drewN)
theorem strs_new (W : World) (base : Nat) : OwnAt base 3 1 encN W (.slice none 0 0) [] := OwnAt.nil W
set_option maxHeartbeats 8000000 in
theorem numbers0 (w : World) (hV : Env27 w) : Calls Tryz.prog 47 #[.string ⟨#[48]⟩] w (fun e w' => ∃ v, e = .returned v ∧ OwnAt w.heap.size 3 1 encN w' v [0] ∧ Grew w w') := by
  have HA := Lib.hid fun W (q : Grew w W) => atoiL_any [48] (by decide) W (hV.e.grew q)
  rw [show Co.atoiVal [48] = 0 from rfl] at HA
  have HS := Lib.hid fun W (q : Grew w W) => split_at ⟨#[48]⟩ ⟨#[44]⟩ [[48]] (by kernel_rfl) (by decide) (by decide) (by decide) W (hV.m.grew q)
  clear hV
  go_enter Tryz.func47, Tryz.ntmps47
  go_wp2_with (go_at_call 25; refine (HS.out _ (by repeat (first | with_reducible exact Grew.refl _ | apply Grew.more | apply Grew.alloc | apply Grew.drew | apply Grew.drewN))).mono ?_; rintro e w1 ⟨v1, rfl, hv1, R1, n1, rfl⟩; obtain ⟨bs, cs, rfl, hbs, hcs⟩ := strs_open hv1 (by decide); (have s0 := hcs 0 (by decide)); clear hv1 hcs)
  simp at s0
  have HS0 := Lib.hid s0
  clear s0
  have hgw : Hid (Grew w (w.more R1 n1)) := Lib.hid (by repeat (first | with_reducible exact Grew.refl _ | apply Grew.more | apply Grew.alloc | apply Grew.drew | apply Grew.drewN))
  generalize w.more R1 n1 = w1 at *
  go_loopg [3, 13] 1 (fun gg s3 s13 wr => ∃ k : Nat, k ≤ 1 ∧ 1 - k ≤ gg ∧ s13 = .int .i64 k ∧ Hid (Grew w1 wr) ∧ Hid (OwnAt w1.heap.size 3 1 encN wr s3 (List.replicate k 0)))
  case atStart => exact ⟨0, by omega, by omega, rfl, Lib.hid (Grew.refl _), Lib.hid (OwnAt.nil _)⟩
  case round =>
    obtain ⟨k, hk, hgg, rfl, HG, HO⟩ := hrel
    rename World => wa
    by_cases hlt : k < 1
    · obtain rfl : k = 0 := by omega
      have s0 := cell_grew HS0.out HG.out
      have p0 := Pre.ofCell s0
      go_wp2_with (first
        | (go_at_call 44; refine (HA.out _ ((hgw.out.trans HG.out).trans (by repeat (first | with_reducible exact Grew.refl _ | apply Grew.more | apply Grew.alloc | apply Grew.drew | apply Grew.drewN)))).mono ?_; rintro e w2 ⟨v2, rfl, R2, n2, rfl⟩)
        | (at_builtin; go_loud (refine wpList_ownK (w0 := w1) rfl (.tmp 22) (.tmp 24) 29 _ _ _ _ [0] rfl Tryz.underlying29 infoI_1 rfl (by decide) encN_len encN_1 rfl (OwnAt.grew HO.out (by repeat (first | with_reducible exact Grew.refl _ | apply Grew.more | apply Grew.alloc | apply Grew.drew | apply Grew.drewN))) (HG.out.trans (by repeat (first | with_reducible exact Grew.refl _ | apply Grew.more | apply Grew.alloc | apply Grew.drew | apply Grew.drewN))) rfl (int_at1 _ _ _ _ rfl (by simp [go_sem])) (by simp) (by decide) (by simp) ?_); intro v7 W7 hA; (have HA7 := Lib.hid hA); clear hA))
      go_roundg 0
      case measure => omega
      case rel => exact ⟨1, by omega, by omega, by go_num, Lib.hid HA7.out.1, Lib.hid HA7.out.2.1⟩
    · obtain rfl : k = 1 := by omega
      obtain ⟨av, cv, rfl⟩ := (OwnAt.rows HO.out encN_len).len
      go_wp2
      go_ret
      exact ⟨_, rfl, OwnAt.low HO.out hgw.out.below.size, hgw.out.trans HG.out⟩
end Go.Proofs.YthlmmfljeblflaaGreatDoor

/-! lines: the parser at the document's example: a step. -/
namespace Go.Proofs.YthlmmfljeblflaaGreatDoor
set_option linter.unusedSimpArgs false
set_option linter.unusedVariables false
open Go.RowKit Ga
set_option maxRecDepth 100000

/-- "2 SINK 0 1 00000000" -/
def wsL : List UInt8 := [50, 32, 83, 73, 78, 75, 32, 48, 32, 49, 32, 48, 48, 48, 48, 48, 48, 48, 48]
/-- "ADD 2 SINK 0 1 00000000" -/
def stL : List UInt8 := [65, 68, 68, 32, 50, 32, 83, 73, 78, 75, 32, 48, 32, 49, 32, 48, 48, 48, 48, 48, 48, 48, 48]
def wds : List (List UInt8) := [[50], [83, 73, 78, 75], [48], [49], [48, 48, 48, 48, 48, 48, 48, 48]]
def N2 : Gr.Nd := ⟨2, 2, [0], [], 1, List.replicate 8 0⟩
def S2 : Gr.Stp := ⟨2, N2, false⟩
theorem cut_ws : Lib.cut wsL [58, 32] = (wsL, [], false) := by decide +kernel
theorem cut_st : Lib.cut stL [32] = ([65, 68, 68], wsL, true) := by decide +kernel
theorem parse_nil : (Co.parseI []).1 = [] := by decide +kernel
theorem split_ws : Lib.splitB ⟨#[32]⟩ 0 (Lib.countB ⟨wsL.toArray⟩ ⟨#[32]⟩) ⟨wsL.toArray⟩ = wds.map fun l => (⟨l.toArray⟩ : ByteArray) := by decide +kernel
theorem split_st : Lib.splitB ⟨#[32, 124, 32]⟩ 0 (Lib.countB ⟨stL.toArray⟩ ⟨#[32, 124, 32]⟩) ⟨stL.toArray⟩ = [stL].map fun l => (⟨l.toArray⟩ : ByteArray) := by decide +kernel
set_option maxHeartbeats 8000000 in
theorem words0 (w : World) (hV : Env27 w) : Calls Tryz.prog 43 #[.string ⟨wsL.toArray⟩] w (fun e w' => ∃ v1 v2, e = .returned (.tuple #[v1, v2]) ∧ OwnAt w.heap.size 9 1 encS w' v1 wds ∧ ValsAt w' v2 [] ∧ Grew w w') := by
  have HC := Lib.hid fun W (q : Grew w W) => cut_any wsL [58, 32] (by decide) W (hV.m.grew q)
  rw [cut_ws] at HC
  have HP := Lib.hid fun W (q : Grew w W) => codeParse_any [] (by decide) W (hV.m.grew q) (hV.e.grew q) (hV.p.grew q) (hV.a.grew q)
  rw [parse_nil] at HP
  have HS := Lib.hid fun W (q : Grew w W) => split_at ⟨wsL.toArray⟩ ⟨#[32]⟩ wds split_ws (by decide) (by decide) (by decide) W (hV.m.grew q)
  clear hV
  generalize wsL = ws at *
  go_enter Tryz.func43, Tryz.ntmps43
  go_wp2_with (first
    | (go_at_call 42; refine (HC.out _ (by repeat (first | with_reducible exact Grew.refl _ | apply Grew.more | apply Grew.alloc | apply Grew.drew | apply Grew.drewN))).mono ?_; rintro e w1 ⟨rfl, R1, n1, rfl⟩)
    | (go_at_call 79; refine (HP.out _ (by repeat (first | with_reducible exact Grew.refl _ | apply Grew.more | apply Grew.alloc | apply Grew.drew | apply Grew.drewN))).mono ?_; rintro e w1 ⟨v2, rfl, hv2, R2, n2, rfl⟩; (have HV2 := Lib.hid hv2); clear hv2)
    | (go_at_call 25; refine (HS.out _ (by repeat (first | with_reducible exact Grew.refl _ | apply Grew.more | apply Grew.alloc | apply Grew.drew | apply Grew.drewN))).mono ?_; rintro e w1 ⟨v3, rfl, hv3, R3, n3, rfl⟩; (have HV3 := Lib.hid hv3); clear hv3))
  go_ret2
  exact ⟨_, _, rfl, OwnAt.low HV3.out (by simp [World.more_size]; omega), HV2.out.grew (by repeat (first | with_reducible exact Grew.refl _ | apply Grew.more | apply Grew.alloc | apply Grew.drew | apply Grew.drewN)), by repeat (first | with_reducible exact Grew.refl _ | apply Grew.more | apply Grew.alloc | apply Grew.drew | apply Grew.drewN)⟩
theorem own_swap {α : Type} {base : Nat} {e : TypeId} {k : Nat} {enc : α → List Value} {X Y : World} {R : Array Obj} {n : Nat} {v : Value} {l : List α} (h : OwnAt base e k enc (X.more R n) v l) (hs : Y.heap.size = X.heap.size) (hb : X.heap.size ≤ base) : OwnAt base e k enc (Y.more R n) v l := OwnAt.same h fun b hq => by
  have := h.lt b hq
  rw [heap_more_in _ _ _ _ (by omega), heap_more_in _ _ _ _ (by omega), hs]
set_option maxHeartbeats 16000000 in
theorem node0 (base : Nat) (v1 v2 : Value) (w : World) (hV : Env27 w) (h1 : OwnAt base 9 1 encS w v1 wds) (h2 : ValsAt w v2 []) : Calls Tryz.prog 45 #[v1, v2] w (fun e w' => ∃ (af : Option Addr) (cf : Nat) (ap : Option Addr) (cp : Nat), e = .returned (.agg #[.int .i64 2, .int .i64 2, .slice af 1 cf, .slice ap 0 cp, .int .i64 1, .int .i64 0, .int .i64 0, .int .i64 0, .int .i64 0, .int .i64 0, .int .i64 0, .int .i64 0, .int .i64 0]) ∧ OwnAt w.heap.size 3 1 encN w' (.slice af 1 cf) [0] ∧ Grew w w') := by
  have HA := Lib.hid fun W (q : Grew w W) => atoiL_any [50] (by decide) W (hV.e.grew q)
  rw [show Co.atoiVal [50] = 2 from rfl] at HA
  have HN := Lib.hid fun W (q : Grew w W) => numbers0 W (hV.grew q)
  have HE := Lib.hid fun W (q : Grew w W) => hV.e.grew q
  obtain ⟨b, cap, rfl, hb, hc⟩ := strs_open h1 (by decide)
  have s0 := hc 0 (by decide)
  have s1 := hc 1 (by decide)
  have s2 := hc 2 (by decide)
  have s3 := hc 3 (by decide)
  have s4 := hc 4 (by decide)
  simp [wds] at s0 s1 s2 s3 s4
  have HV2 := Lib.hid h2
  obtain ⟨ap, cp, rfl, -, -⟩ := h2.open2
  clear hV h1 h2 hc
  show Calls Tryz.prog _ #[.slice (some ⟨b, 0, none⟩) 5 cap, .slice ap 0 cp] w _
  go_enter Tryz.func45, Tryz.ntmps45
  go_wp2_with (first
    | (go_at_call 44; refine (HA.out _ (by repeat (first | with_reducible exact Grew.refl _ | apply Grew.more | apply Grew.alloc | apply Grew.drew | apply Grew.drewN))).mono ?_; rintro e w1 ⟨v3, rfl, RA, nA, rfl⟩)
    | (go_at_call 47; refine (HN.out _ (by repeat (first | with_reducible exact Grew.refl _ | apply Grew.more | apply Grew.alloc | apply Grew.drew | apply Grew.drewN))).mono ?_; rintro e w1 ⟨v4, rfl, hv4, RB, nB, rfl⟩; obtain ⟨af, cf, rfl⟩ := (OwnAt.rows hv4 encN_len).len; (have HV4 := Lib.hid hv4); clear hv4)
    | fail)
  have HPL := Lib.hid fun W (q : Grew w W) => placed0 2 2 0 0 0 0 0 0 0 0 0 af ap 1 cf 0 cp W (HE.out W q)
  refine wp_region_seq 8 Tryz.mixed (by kernel_rfl) (by kernel_rfl) ?_
  iterate 7
    apply Seq.val
    focus
      rintro w1 u ⟨R1, n1, rfl⟩ hF
      simp [moreFacts, Fact.more, Oper.deps, Region.binds, List.filter_cons, World.more_drew] at hF
      simp [putFacts, Oper.deps, Region.binds, List.filter_cons, Region.dstOf, Fact.at, Act.put, World.more_drew]
      go_wp2
      exact ⟨by repeat (first | with_reducible exact Grew.refl _ | apply Grew.more | apply Grew.alloc | apply Grew.drew | apply Grew.drewN), rfl, _, _, rfl, rfl, rfl⟩
  apply Seq.val
  focus
    rintro w1 u ⟨R1, n1, rfl⟩ hF
    simp [moreFacts, Fact.more, Oper.deps, Region.binds, List.filter_cons, World.more_drew] at hF
    simp [putFacts, Oper.deps, Region.binds, List.filter_cons, Region.dstOf, Fact.at, Act.put, World.more_drew]
    go_wp2_with (first
      | (go_at_call 46; go_loud (refine (HPL.out _ (by repeat (first | with_reducible exact Grew.refl _ | apply Grew.more | apply Grew.alloc | apply Grew.drew | apply Grew.drewN))).mono ?_); rintro e w1 ⟨rfl, R3, n3, rfl⟩)
      )
    exact ⟨by repeat (first | with_reducible exact Grew.refl _ | apply Grew.more | apply Grew.alloc | apply Grew.drew | apply Grew.drewN), rfl, _, _, rfl, rfl, rfl⟩
  rintro u w1 ⟨R1, n1, rfl⟩ hF
  clear hF
  simp [putFacts, Region.dstOf, Fact.at, Act.put, List.range_succ, World.more_drew]
  go_wp2
  refine bodyPost_ret (v := .agg #[.int .i64 2, .int .i64 2, .slice af 1 cf, .slice ap 0 cp, .int .i64 1, .int .i64 0, .int .i64 0, .int .i64 0, .int .i64 0, .int .i64 0, .int .i64 0, .int .i64 0, .int .i64 0]) (by simp [results, Tryz.results45, go_sem]) rfl ⟨af, cf, ap, cp, rfl, ?_, ?_⟩
  · exact (OwnAt.low (own_swap (Y := ((w.alloc (.cells #[.int .i64 2, .int .i64 2, .slice af 1 cf, .slice ap 0 cp, .int .i64 1, .int .i64 0, .int .i64 0, .int .i64 0, .int .i64 0, .int .i64 0, .int .i64 0, .int .i64 0, .int .i64 0] 41)).alloc (.cells #[.int .i64 2, .int .i64 2, .slice af 1 cf, .slice ap 0 cp, .int .i64 0, .int .i64 0, .int .i64 0, .int .i64 0, .int .i64 0, .int .i64 0, .int .i64 0, .int .i64 0, .int .i64 0] 41)).more RA nA) HV4.out (by simp [World.more_size, World.size_alloc]) (Nat.le_refl _)) (by simp [World.more_size, World.size_alloc]; omega)).grew (by repeat (first | with_reducible exact Grew.refl _ | apply Grew.more | apply Grew.alloc | apply Grew.drew | apply Grew.drewN))
  · repeat (first | with_reducible exact Grew.refl _ | apply Grew.more | apply Grew.alloc | apply Grew.drew | apply Grew.drewN)
theorem vals_nil (W : World) (a : Option Addr) (c : Nat) : ValsAt W (.slice a 0 c) [] := ⟨a, c, rfl, by decide, fun h => absurd rfl h⟩
theorem node_N2 {W : World} {base : Nat} {af ap : Option Addr} {cf cp : Nat} (h : OwnAt base 3 1 encN W (.slice af 1 cf) [0]) : NodeIs W ⟨2, 2, af, 1, cf, ap, 0, cp, 1, 0, 0, 0, 0, 0, 0, 0, 0⟩ N2 :=
  ⟨rfl, rfl, OwnAt.rows h encN_len, vals_nil W ap cp, rfl, rfl, OwnAt.cap h⟩
set_option maxHeartbeats 16000000 in
theorem parseStep0 (w : World) (hV : Env27 w) : Calls Tryz.prog 26 #[.string ⟨stL.toArray⟩] w (fun e w' => ∃ (af : Option Addr) (cf : Nat) (ap : Option Addr) (cp : Nat), e = .returned (.agg #[.int .i64 2, .int .i64 2, .int .i64 2, .slice af 1 cf, .slice ap 0 cp, .int .i64 1, .int .i64 0, .int .i64 0, .int .i64 0, .int .i64 0, .int .i64 0, .int .i64 0, .int .i64 0, .int .i64 0, .bool false]) ∧ OwnAt w.heap.size 3 1 encN w' (.slice af 1 cf) [0] ∧ Grew w w') := by
  have HC := Lib.hid fun W (q : Grew w W) => cut_any stL [32] (by decide) W (hV.m.grew q)
  rw [cut_st] at HC
  have HA := Lib.hid fun W (q : Grew w W) => atoiL_any [50] (by decide) W (hV.e.grew q)
  rw [show Co.atoiVal [50] = 2 from rfl] at HA
  have HW := Lib.hid fun W (q : Grew w W) => words0 W (hV.grew q)
  have HE := Lib.hid fun W (q : Grew w W) => hV.grew q
  clear hV
  generalize stL = sl at *
  generalize hws : wsL = ws at *
  clear hws
  go_enter Tryz.func26, Tryz.ntmps26
  go_wp2_with (first
    | (go_at_call 42; refine (HC.out _ (by repeat (first | with_reducible exact Grew.refl _ | apply Grew.more | apply Grew.alloc | apply Grew.drew | apply Grew.drewN))).mono ?_; rintro e w1 ⟨rfl, RA, nA, rfl⟩)
    | (go_at_call 43; refine (HW.out _ (by repeat (first | with_reducible exact Grew.refl _ | apply Grew.more | apply Grew.alloc | apply Grew.drew | apply Grew.drewN))).mono ?_; rintro e w1 ⟨v1, v2, rfl, hv1, hv2, RB, nB, rfl⟩; (have HV1 := Lib.hid hv1); (have HV2 := Lib.hid hv2); obtain ⟨b, cap, rfl, hb, hc⟩ := strs_open hv1 (by decide); (have s0 := hc 0 (by decide)); simp [wds] at s0; clear hc hv1 hv2)
    | (go_at_call 44; refine (HA.out _ (by repeat (first | with_reducible exact Grew.refl _ | apply Grew.more | apply Grew.alloc | apply Grew.drew | apply Grew.drewN))).mono ?_; rintro e w1 ⟨v3, rfl, RC, nC, rfl⟩)
    | fail)
  refine (node0 _ _ _ _ (HE.out _ (by repeat (first | with_reducible exact Grew.refl _ | apply Grew.more | apply Grew.alloc | apply Grew.drew | apply Grew.drewN))) (HV1.out.grew (by repeat (first | with_reducible exact Grew.refl _ | apply Grew.more | apply Grew.alloc | apply Grew.drew | apply Grew.drewN))) (HV2.out.grew (by repeat (first | with_reducible exact Grew.refl _ | apply Grew.more | apply Grew.alloc | apply Grew.drew | apply Grew.drewN)))).mono ?_
  rintro e w5 ⟨af, cf, ap, cp, rfl, ho, RD, nD, rfl⟩
  have HO := Lib.hid ho
  clear ho
  go_wp2_with fail
  refine bodyPost_ret (v := .agg #[.int .i64 2, .int .i64 2, .int .i64 2, .slice af 1 cf, .slice ap 0 cp, .int .i64 1, .int .i64 0, .int .i64 0, .int .i64 0, .int .i64 0, .int .i64 0, .int .i64 0, .int .i64 0, .int .i64 0, .bool false]) (by simp [results, Tryz.results26, go_sem]) rfl ⟨af, cf, ap, cp, rfl, ?_, ?_⟩
  · refine OwnAt.low (own_swap HO.out ?_ (Nat.le_refl _)) ?_ <;> simp [World.more_size, World.size_alloc]
    omega
  · repeat (first | with_reducible exact Grew.refl _ | apply Grew.more | apply Grew.alloc | apply Grew.drew | apply Grew.drewN)
end Go.Proofs.YthlmmfljeblflaaGreatDoor
