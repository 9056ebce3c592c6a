import Derived.Test.YtpbohimddmploaaGreatCd10
import Derived.Deep.LoopGhost
set_option linter.unusedSimpArgs false
set_option linter.unusedVariables false
set_option maxRecDepth 100000
set_option maxHeartbeats 64000000
namespace Go.Proofs.YtpbohimddmploaaGreat
open Go.RowKit Ga

def greatP (p : List Gr.Stp) : Bool := decide (20 < p.length) || p.any fun s => greatG [s.nd]
theorem great10_any (v u : Value) (l : List Gr.Nd) (p : List Gr.Stp) (w : World) (hv : NodesAt w v l) (hu : StepsAt w u p) : Calls Tryz.prog 7 #[v, u] w (Gives (.bool (greatG l || greatP p)) w) := by
  have HG8 := Lib.hid fun W (g : Grew w W) => great08_any v l W (hv.grew g)
  have HU := Lib.hid hu
  obtain ⟨a, cap, rfl, hm, -⟩ := hu.openC
  clear hv hu
  cases hl : greatG l
  · have HL := Lib.hid hl
    by_cases h20 : 20 < p.length
    · have hp : (false || greatP p) = true := by unfold greatP; rw [decide_eq_true h20]; rfl
      have HP := Lib.hid hp
      have h20' : (20 : Int) < (p.length : Int) := by omega
      clear hl hp h20
      go_enter Tryz.func7, Tryz.ntmps7
      go_wp2_with (go_at_call 30; refine (HG8.out _ (by repeat (first | with_reducible exact Grew.refl _ | apply Grew.more | apply Grew.alloc | apply Grew.drew | apply Grew.drewN))).mono ?_; rintro e w1 ⟨rfl, R1, n1, rfl⟩; rw [HL.out])
      go_ret
      exact ⟨by rw [HP.out]; rfl, by repeat (first | with_reducible exact Grew.refl _ | apply Grew.more | apply Grew.alloc | apply Grew.drew | apply Grew.drewN)⟩
    · have h20' : ¬ (20 : Int) < (p.length : Int) := by omega
      have hp : (false || greatP p) = p.any fun s => greatG [s.nd] := by unfold greatP; rw [decide_eq_false h20]; rfl
      have HP := Lib.hid hp
      clear hl hp h20
      go_enter Tryz.func7, Tryz.ntmps7
      go_wp2_with (go_at_call 30; refine (HG8.out _ (by repeat (first | with_reducible exact Grew.refl _ | apply Grew.more | apply Grew.alloc | apply Grew.drew | apply Grew.drewN))).mono ?_; rintro e w1 ⟨rfl, R1, n1, rfl⟩; rw [HL.out])
      go_loopg [16] p.length (fun gg s16 wr => ∃ g : Nat, g ≤ p.length ∧ p.length - g ≤ gg ∧ s16 = .int .i64 g ∧ Hid (Grew w wr) ∧ Hid (∀ i (hi : i < p.length), i < g → greatG [p[i].nd] = false))
      case atStart => exact ⟨0, by omega, by omega, rfl, Lib.hid (by repeat (first | with_reducible exact Grew.refl _ | apply Grew.more | apply Grew.alloc | apply Grew.drew | apply Grew.drewN)), Lib.hid fun i _ h => by omega⟩
      case round =>
        obtain ⟨g, hg8, hgg, rfl, HGR, HNO⟩ := hrel
        by_cases hlt : g < p.length
        · obtain ⟨av, cv, e, -, hx⟩ := (HU.out.grew HGR.out).openC
          cases e
          obtain ⟨b, off, c, rfl, hb, hn, c0, c1, c2, c3, c4, c5, c6, c7, c8, c9, c10, c11, c12, c13, c14⟩ := hx g hlt
          have hany : greatG [p[g].nd] = true → (p.any fun s => greatG [s.nd]) = true := fun h => List.any_eq_true.2 ⟨_, List.getElem_mem hlt, h⟩
          have HANY := Lib.hid hany
          clear hx hany
          generalize hy : p[g] = y at *
          have HY := Lib.hid hy
          have HND := Lib.hid hn.nd
          obtain ⟨kind, reset, cid, kd, af, cf, ap, cp, par, r0, r1, r2, r3, r4, r5, r6, r7, rfl⟩ := hn.lit
          simp only at c0 c1 c2 c3 c4 c5 c6 c7 c8 c9 c10 c11 c12 c13 c14
          clear hn hy
          cases hq : greatG [y.nd]
          · have HQ := Lib.hid hq
            clear hq
            go_wp2_with (go_at_call 30; refine (great08_any _ [y.nd] _ (NodesAt.one (HND.out.grew (by repeat (first | with_reducible exact Grew.refl _ | apply Grew.more | apply Grew.alloc | apply Grew.drew | apply Grew.drewN))) _ (by simp [World.size_alloc]) _ rfl)).mono ?_; rintro e w1 ⟨rfl, R1, n1, rfl⟩; rw [HQ.out])
            go_roundg (p.length - (g + 1))
            case measure => omega
            case rel => exact ⟨g + 1, by omega, by omega, by go_num, Lib.hid (HGR.out.trans (by repeat (first | with_reducible exact Grew.refl _ | apply Grew.more | apply Grew.alloc | apply Grew.drew | apply Grew.drewN))), Lib.hid fun i hi h => by
              rcases Nat.lt_or_ge i g with h1 | h1
              · exact HNO.out i hi h1
              · obtain rfl : i = g := by omega
                rw [HY.out]
                exact HQ.out⟩
          · have HQ := Lib.hid hq
            clear hq
            go_wp2_with (go_at_call 30; refine (great08_any _ [y.nd] _ (NodesAt.one (HND.out.grew (by repeat (first | with_reducible exact Grew.refl _ | apply Grew.more | apply Grew.alloc | apply Grew.drew | apply Grew.drewN))) _ (by simp [World.size_alloc]) _ rfl)).mono ?_; rintro e w1 ⟨rfl, R1, n1, rfl⟩; rw [HQ.out])
            go_ret
            exact ⟨by rw [HP.out, HANY.out HQ.out]; rfl, HGR.out.trans (by repeat (first | with_reducible exact Grew.refl _ | apply Grew.more | apply Grew.alloc | apply Grew.drew | apply Grew.drewN))⟩
        · obtain rfl : g = p.length := by omega
          have hno : (p.any fun s => greatG [s.nd]) = false := by
            rw [List.any_eq_false]
            intro s hs
            obtain ⟨i, hi, rfl⟩ := List.mem_iff_getElem.1 hs
            rw [HNO.out i hi hi]
            simp
          have HNN := Lib.hid hno
          clear hno
          go_wp2
          go_ret
          exact ⟨by rw [HP.out, HNN.out]; rfl, HGR.out⟩
  · have HL := Lib.hid hl
    clear hl
    go_enter Tryz.func7, Tryz.ntmps7
    go_wp2_with (go_at_call 30; refine (HG8.out _ (by repeat (first | with_reducible exact Grew.refl _ | apply Grew.more | apply Grew.alloc | apply Grew.drew | apply Grew.drewN))).mono ?_; rintro e w1 ⟨rfl, R1, n1, rfl⟩; rw [HL.out])
    go_ret
    exact ⟨by rfl, by repeat (first | with_reducible exact Grew.refl _ | apply Grew.more | apply Grew.alloc | apply Grew.drew | apply Grew.drewN)⟩
end Go.Proofs.YtpbohimddmploaaGreat
