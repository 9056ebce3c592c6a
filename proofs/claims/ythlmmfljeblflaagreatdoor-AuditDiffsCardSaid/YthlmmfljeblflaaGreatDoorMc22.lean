import Derived.Test.YthlmmfljeblflaaGreatDoorMc20
import Derived.Test.YthlmmfljeblflaaGreatDoorMc19
import Derived.Test.YthlmmfljeblflaaGreatDoorMc0
/-! forebaylaw28.great. -/
namespace Go.Proofs.YthlmmfljeblflaaGreatDoor
set_option linter.unusedSimpArgs false
set_option linter.unusedVariables false
open Go.RowKit Ga
set_option maxRecDepth 100000

/-- manifests in a slice -/
def encMf (c : MfC) : List Value := [.int .i64 c.epoch, .int .i64 c.plans, .slice c.ao c.no c.co, .slice c.ag c.ng c.cg, .slice c.ae c.ne c.ce, .slice c.ax c.nx c.cx, .slice c.ap c.np c.cp]
theorem encMf_len (c : MfC) : (encMf c).length = 7 := rfl
structure MfsAt (w : World) (v : Value) (lc : List MfC) (lm : List Gr.Mf) : Prop where
  rows : RowsAt 7 encMf w v lc
  len : lc.length = lm.length
  is : ∀ (i : Nat) (h : i < lc.length) (h' : i < lm.length), MfIs w lc[i] lm[i]
theorem MfsAt.grew {w w' : World} {v : Value} {lc : List MfC} {lm : List Gr.Mf} (h : MfsAt w v lc lm) (g : Grew w w') : MfsAt w' v lc lm := ⟨h.rows.grew g, h.len, fun i a b => (h.is i a b).grew g⟩
theorem MfsAt.open7 {w : World} {v : Value} {lc : List MfC} {lm : List Gr.Mf} (h : MfsAt w v lc lm) : ∃ a cap, v = .slice a lc.length cap ∧ lc.length ≤ 9223372036854775807 ∧ ∀ i (hi : i < lc.length), ∃ b off, a = some ⟨b, off, none⟩ ∧ Pre b w ∧
    w.cell? ⟨b, off + i * 7, none⟩ = some (.int .i64 lc[i].epoch) ∧ w.cell? ⟨b, off + i * 7 + 1, none⟩ = some (.int .i64 lc[i].plans) ∧ w.cell? ⟨b, off + i * 7 + 2, none⟩ = some (.slice lc[i].ao lc[i].no lc[i].co) ∧ w.cell? ⟨b, off + i * 7 + 3, none⟩ = some (.slice lc[i].ag lc[i].ng lc[i].cg) ∧ w.cell? ⟨b, off + i * 7 + 4, none⟩ = some (.slice lc[i].ae lc[i].ne lc[i].ce) ∧ w.cell? ⟨b, off + i * 7 + 5, none⟩ = some (.slice lc[i].ax lc[i].nx lc[i].cx) ∧ w.cell? ⟨b, off + i * 7 + 6, none⟩ = some (.slice lc[i].ap lc[i].np lc[i].cp) := by
  obtain ⟨a, cap, rfl, hm, hx⟩ := h.rows
  refine ⟨a, cap, rfl, by unfold maxLen at hm; omega, fun i hi => ?_⟩
  obtain ⟨b, off, rfl, hc⟩ := hx (by intro e; subst e; simp at hi)
  have hj := fun j u => hc i lc[i] (List.getElem?_eq_getElem hi) j u
  have h0 := hj 0 _ rfl
  exact ⟨b, off, rfl, Pre.ofCell h0, h0, hj 1 _ rfl, hj 2 _ rfl, hj 3 _ rfl, hj 4 _ rfl, hj 5 _ rfl, hj 6 _ rfl⟩
/-- what is played, as far as the walks ask -/
structure SmallA (m : Gr.Mf) : Prop where
  g : greatG m.graph = false
  p : greatP m.plan = false
  o : m.offs.length ≤ 20
  x : m.out.length ≤ 100
  e : m.ents.length ≤ 100
def GreatA (lm : List Gr.Mf) (w : World) (e : Ending) (w' : World) : Prop := ∃ r : Bool, e = .returned (.bool r) ∧ (r = false → ∀ (i : Nat) (h : i < lm.length), SmallA lm[i]) ∧ Grew w w'
theorem gr_true {lm : List Gr.Mf} {w w' : World} (g : Grew w w') : GreatA lm w (.returned (.bool true)) w' := ⟨true, rfl, fun q => absurd q (by decide), g⟩
set_option maxHeartbeats 16000000 in
theorem great28_any (v : Value) (lc : List MfC) (lm : List Gr.Mf) (w : World) (h : MfsAt w v lc lm) : Calls Tryz.prog 9 #[v] w (GreatA lm w) := by
  have HH := Lib.hid h
  have hlen := h.len
  have HL := Lib.hid hlen
  obtain ⟨a, cap, rfl, hm, -⟩ := h.open7
  clear h
  by_cases h20 : lc.length ≤ 20
  case neg =>
    clear hlen
    go_enter Tryz.func9, Tryz.ntmps9
    go_wp2
    go_ret
    exact gr_true (by repeat (first | with_reducible exact Grew.refl _ | apply Grew.more | apply Grew.alloc | apply Grew.drew | apply Grew.drewN))
  clear hlen
  go_enter Tryz.func9, Tryz.ntmps9
  go_wp2
  go_loopg [12] lc.length (fun gg s12 wr => ∃ k : Nat, k ≤ lc.length ∧ lc.length - k ≤ gg ∧ s12 = .int .i64 k ∧ Hid (Grew w wr) ∧ Hid (∀ (i : Nat) (h : i < lm.length), i < k → SmallA lm[i]))
  case atStart => exact ⟨0, by omega, by omega, rfl, Lib.hid (Grew.refl _), Lib.hid fun i _ q => by omega⟩
  case round =>
    obtain ⟨k, hk, hgg, rfl, HG, HS⟩ := hrel
    rename World => wa
    by_cases hlt : k < lc.length
    · obtain ⟨a', cap', e, -, hx⟩ := (HH.out.grew HG.out).open7
      injection e with e1 e2 e3
      obtain ⟨b, off, ha, pb, c0, c1, c2, c3, c4, c5, c6⟩ := hx k hlt
      obtain rfl : a = some ⟨b, off, none⟩ := e1.trans ha
      have hkm : k < lm.length := by have := HL.out; omega
      have hmf := HH.out.is k hlt hkm
      have HST : Hid (SmallA lm[k] → ∀ (i : Nat) (h : i < lm.length), i < k + 1 → SmallA lm[i]) := Lib.hid fun q i hi h2 => (Nat.lt_or_ge i k).elim (HS.out i hi) fun h3 => by
        obtain rfl : i = k := by omega
        exact q
      have hg10 := fun W (g : Grew w W) => great10_any _ _ lm[k].graph lm[k].plan W (hmf.g.grew g) (hmf.p.grew g)
      have HMF := Lib.hid hmf
      obtain ⟨ep, pl, ao, co, ag, cg, ae, ce, ax, cx, ap, cp, hc⟩ := hmf.lit
      rw [hc] at c0 c1 c2 c3 c4 c5 c6 hg10
      simp only at c0 c1 c2 c3 c4 c5 c6 hg10
      have HO : Hid (IntsAt w (.slice ao lm[k].offs.length co) lm[k].offs) := Lib.hid (by have := hmf.o; rw [hc] at this; exact this)
      clear hx e1 e2 e3 ha hmf hc HMF
      generalize lm[k] = m at *
      cases hq : (greatG m.graph || greatP m.plan)
      case true =>
        rw [hq] at hg10
        have HG10 := Lib.hid hg10
        clear hg10 hq
        go_wp2_with (go_at_call 20; refine (HG10.out _ (HG.out.trans (by repeat (first | with_reducible exact Grew.refl _ | apply Grew.more | apply Grew.alloc | apply Grew.drew | apply Grew.drewN)))).mono ?_; rintro e w1 ⟨rfl, R1, n1, rfl⟩)
        go_ret
        exact gr_true (HG.out.trans (by repeat (first | with_reducible exact Grew.refl _ | apply Grew.more | apply Grew.alloc | apply Grew.drew | apply Grew.drewN)))
      rw [hq] at hg10
      have HG10 := Lib.hid hg10
      have HQ := Lib.hid hq
      clear hg10 hq
      by_cases h1 : m.offs.length ≤ 20
      case neg =>
        go_wp2_with (go_at_call 20; refine (HG10.out _ (HG.out.trans (by repeat (first | with_reducible exact Grew.refl _ | apply Grew.more | apply Grew.alloc | apply Grew.drew | apply Grew.drewN)))).mono ?_; rintro e w1 ⟨rfl, R1, n1, rfl⟩)
        go_ret
        exact gr_true (HG.out.trans (by repeat (first | with_reducible exact Grew.refl _ | apply Grew.more | apply Grew.alloc | apply Grew.drew | apply Grew.drewN)))
      by_cases h2 : m.out.length ≤ 100
      case neg =>
        go_wp2_with (go_at_call 20; refine (HG10.out _ (HG.out.trans (by repeat (first | with_reducible exact Grew.refl _ | apply Grew.more | apply Grew.alloc | apply Grew.drew | apply Grew.drewN)))).mono ?_; rintro e w1 ⟨rfl, R1, n1, rfl⟩)
        go_ret
        exact gr_true (HG.out.trans (by repeat (first | with_reducible exact Grew.refl _ | apply Grew.more | apply Grew.alloc | apply Grew.drew | apply Grew.drewN)))
      by_cases h3 : m.ents.length ≤ 100
      case neg =>
        go_wp2_with (go_at_call 20; refine (HG10.out _ (HG.out.trans (by repeat (first | with_reducible exact Grew.refl _ | apply Grew.more | apply Grew.alloc | apply Grew.drew | apply Grew.drewN)))).mono ?_; rintro e w1 ⟨rfl, R1, n1, rfl⟩)
        go_ret
        exact gr_true (HG.out.trans (by repeat (first | with_reducible exact Grew.refl _ | apply Grew.more | apply Grew.alloc | apply Grew.drew | apply Grew.drewN)))
      have HSM : Hid (SmallA m) := Lib.hid ⟨(Bool.or_eq_false_iff.1 HQ.out).1, (Bool.or_eq_false_iff.1 HQ.out).2, h1, h2, h3⟩
      by_cases h4 : -1099511627776 ≤ ep
      case neg =>
        go_wp2_with (go_at_call 20; refine (HG10.out _ (HG.out.trans (by repeat (first | with_reducible exact Grew.refl _ | apply Grew.more | apply Grew.alloc | apply Grew.drew | apply Grew.drewN)))).mono ?_; rintro e w1 ⟨rfl, R1, n1, rfl⟩)
        go_ret
        exact gr_true (HG.out.trans (by repeat (first | with_reducible exact Grew.refl _ | apply Grew.more | apply Grew.alloc | apply Grew.drew | apply Grew.drewN)))
      by_cases h5 : ep ≤ 1099511627776
      case neg =>
        go_wp2_with (go_at_call 20; refine (HG10.out _ (HG.out.trans (by repeat (first | with_reducible exact Grew.refl _ | apply Grew.more | apply Grew.alloc | apply Grew.drew | apply Grew.drewN)))).mono ?_; rintro e w1 ⟨rfl, R1, n1, rfl⟩)
        go_ret
        exact gr_true (HG.out.trans (by repeat (first | with_reducible exact Grew.refl _ | apply Grew.more | apply Grew.alloc | apply Grew.drew | apply Grew.drewN)))
      go_wp2_with (go_at_call 20; refine (HG10.out _ (HG.out.trans (by repeat (first | with_reducible exact Grew.refl _ | apply Grew.more | apply Grew.alloc | apply Grew.drew | apply Grew.drewN)))).mono ?_; rintro e w1 ⟨rfl, R1, n1, rfl⟩)
      go_loopg [52] m.offs.length (fun gg2 s52 wr2 => ∃ j : Nat, j ≤ m.offs.length ∧ m.offs.length - j ≤ gg2 ∧ s52 = .int .i64 j ∧ Hid (Grew wa wr2))
      case atStart => exact ⟨0, by omega, by omega, rfl, Lib.hid (by repeat (first | with_reducible exact Grew.refl _ | apply Grew.more | apply Grew.alloc | apply Grew.drew | apply Grew.drewN))⟩
      case round =>
        obtain ⟨j, hj, hgg2, rfl, HG2⟩ := hrel
        rename World => wb
        by_cases hlt2 : j < m.offs.length
        · obtain ⟨a', cap', e, -, hx⟩ := ints_open (HO.out.grew (HG.out.trans HG2.out))
          injection e with e1 e2 e3
          obtain ⟨bo, oo, ha, pbo, hof⟩ := hx j hlt2
          obtain rfl : ao = some ⟨bo, oo, none⟩ := e1.trans ha
          clear hx e1 e2 e3 ha
          generalize m.offs[j] = x at *
          by_cases h6 : -1099511627776 ≤ x
          case neg =>
            go_wp2
            go_ret
            exact gr_true ((HG.out.trans HG2.out).trans (by repeat (first | with_reducible exact Grew.refl _ | apply Grew.more | apply Grew.alloc | apply Grew.drew | apply Grew.drewN)))
          by_cases h7 : x ≤ 1099511627776
          case neg =>
            go_wp2
            go_ret
            exact gr_true ((HG.out.trans HG2.out).trans (by repeat (first | with_reducible exact Grew.refl _ | apply Grew.more | apply Grew.alloc | apply Grew.drew | apply Grew.drewN)))
          go_wp2
          go_roundg (m.offs.length - (j + 1))
          case measure => omega
          case rel => exact ⟨j + 1, by omega, by omega, by go_num, Lib.hid (HG2.out.trans (by repeat (first | with_reducible exact Grew.refl _ | apply Grew.more | apply Grew.alloc | apply Grew.drew | apply Grew.drewN)))⟩
        · obtain rfl : j = m.offs.length := by omega
          go_wp2
          go_roundg (lc.length - (k + 1))
          case measure => omega
          case rel => exact ⟨k + 1, by omega, by omega, by go_num, Lib.hid ((HG.out.trans HG2.out).trans (by repeat (first | with_reducible exact Grew.refl _ | apply Grew.more | apply Grew.alloc | apply Grew.drew | apply Grew.drewN))), Lib.hid (HST.out HSM.out)⟩
    · obtain rfl : k = lc.length := by omega
      go_wp2
      go_ret
      exact ⟨false, rfl, fun _ i hi => HS.out i hi (by have := HL.out; omega), HG.out.trans (by repeat (first | with_reducible exact Grew.refl _ | apply Grew.more | apply Grew.alloc | apply Grew.drew | apply Grew.drewN))⟩
end Go.Proofs.YthlmmfljeblflaaGreatDoor
