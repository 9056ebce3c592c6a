import Derived.Test.YtiocdmfmghanmaaGreatDoorMk18
/-! forebayref06.Same. -/
namespace Go.Proofs.YtiocdmfmghanmaaGreatDoor
set_option linter.unusedSimpArgs false
set_option linter.unusedVariables false
open Go.RowKit Ga
set_option maxRecDepth 100000

theorem run_neq_val (x y p q : Int) (b : Bool) (hb : b = !(decide (x = p) && decide (y = q))) (w : World) : (binOp .neq 24 (.agg #[.int .i64 x, .int .i64 y]) (.agg #[.int .i64 p, .int .i64 q])).run Tryz.prog w = .ok (.bool b) w := by
  subst hb
  by_cases h1 : x = p <;> by_cases h2 : y = q <;> simp [go_sem, h1, h2, Tryz.underlying24, Tryz.underlying3]

set_option maxHeartbeats 2000000 in
theorem refSameV_any (v u : Value) (l m : List Val) (w : World) (hv : ValsAt w v l) (hu : ValsAt w u m) : Calls Tryz.prog 12 #[v, u] w (Gives (.bool (decide (l = m))) w) := by
  obtain ⟨a, cap, rfl, hm, hl⟩ := hv.open2
  obtain ⟨a2, cap2, rfl, hm2, hl2⟩ := hu.open2
  clear hv hu
  by_cases hlen : l.length = m.length
  · have hD : decide ((l.length : Int) = (m.length : Int)) = true := by rw [hlen]; simp
    have hD2 : ((l.length : Int) != (m.length : Int)) = false := by rw [hlen]; simp
    have HLEN := Lib.hid hlen
    clear hlen
    go_enter Tryz.func12, Tryz.ntmps12
    go_wp2
    go_loopw [5] (fun i wr => ∃ (k : Nat), k ≤ l.length ∧ i = .int .i64 k ∧ l.take k = m.take k ∧ Grew w wr) (fun i _ => l.length - (intOf i).toNat)
    case atStart => exact ⟨0, Nat.zero_le _, rfl, rfl, Grew.refl _⟩
    case round =>
      obtain ⟨k, hk, rfl, hall, R, n, rfl⟩ := hrel
      have HA := Lib.hid hall
      clear hall
      by_cases hlt : k < l.length
      · have hlt2 : k < m.length := by have := HLEN.out; omega
        obtain ⟨b, off, rfl, hb, hx, hy⟩ := hl k hlt
        obtain ⟨b2, off2, rfl, hb2, hx2, hy2⟩ := hl2 k hlt2
        have hs := take_eq_succ hlt hlt2 HA.out
        have hf := neq_at hlt hlt2
        generalize l[k] = xy at *
        generalize m[k] = xy2 at *
        obtain ⟨x, y⟩ := xy
        obtain ⟨x2, y2⟩ := xy2
        simp only at hx hy hx2 hy2
        by_cases hr : ((x, y) : Val) = (x2, y2)
        all_goals
          have HS := Lib.hid hs
          have HF2 := Lib.hid hf
          have HR := Lib.hid hr
          clear hs hl hl2 hf
        · cases hr
          go_wp2
          refine wp_region_seq 9 Tryz.mixed (by kernel_rfl) (by kernel_rfl) ?_
          iterate 9
            apply Seq.val
            focus
              rintro w1 u ⟨R1, n1, rfl⟩ hF
              simp [moreFacts, Fact.more, Oper.deps, Region.binds, List.filter_cons, World.more_drew] at hF
              simp [putFacts, Oper.deps, Region.binds, List.filter_cons, Region.dstOf, Fact.at, Act.put, World.more_drew]
              go_wp2
              exact ⟨by repeat (first | with_reducible exact Grew.refl _ | apply Grew.more | apply Grew.alloc | apply Grew.drew | apply Grew.drewN), rfl, _, _, rfl, rfl, rfl⟩
          rintro u w1 ⟨R1, n1, rfl⟩ hF
          clear hF
          simp [putFacts, Region.dstOf, Fact.at, Act.put, List.range_succ, World.more_drew]
          go_wp2
          go_roundw
          case rel => exact ⟨k + 1, by omega, by go_num, HS.out (by first | exact rfl | trivial), by repeat (first | with_reducible exact Grew.refl _ | apply Grew.more | apply Grew.alloc | apply Grew.drew | apply Grew.drewN)⟩
          case measure => first | (simp [intOf]; done) | (simp [intOf]; omega)
        · have hq := run_neq_val x y x2 y2 true (by
            have := HR.out
            by_cases e1 : x = x2 <;> by_cases e2 : y = y2 <;> simp [e1, e2]
            exact this (by rw [e1, e2]))
          go_wp2
          refine wp_region_seq 9 Tryz.mixed (by kernel_rfl) (by kernel_rfl) ?_
          iterate 9
            apply Seq.val
            focus
              rintro w1 u ⟨R1, n1, rfl⟩ hF
              simp [moreFacts, Fact.more, Oper.deps, Region.binds, List.filter_cons, World.more_drew] at hF
              simp [putFacts, Oper.deps, Region.binds, List.filter_cons, Region.dstOf, Fact.at, Act.put, World.more_drew]
              go_wp2
              exact ⟨by repeat (first | with_reducible exact Grew.refl _ | apply Grew.more | apply Grew.alloc | apply Grew.drew | apply Grew.drewN), rfl, _, _, rfl, rfl, rfl⟩
          rintro u w1 ⟨R1, n1, rfl⟩ hF
          clear hF
          simp [putFacts, Region.dstOf, Fact.at, Act.put, List.range_succ, World.more_drew]
          go_wp2
          go_ret
          refine ⟨ret_bool (by rw [decide_eq_false (HF2.out HR.out)]), ?_⟩
          repeat (first | with_reducible exact Grew.refl _ | apply Grew.more | apply Grew.alloc | apply Grew.drew | apply Grew.drewN)
      · obtain rfl : k = l.length := by omega
        have hz := HA.out
        rw [List.take_length, List.take_of_length_le (by have := HLEN.out; omega)] at hz
        have HZ := Lib.hid hz
        clear hz hl hl2 HA
        go_wp2
        go_ret
        refine ⟨ret_bool ?_, ?_⟩
        · rw [HZ.out]; simp
        · repeat (first | with_reducible exact Grew.refl _ | apply Grew.more | apply Grew.alloc | apply Grew.drew | apply Grew.drewN)
  · have hD2 : ((l.length : Int) != (m.length : Int)) = true := by rw [bne_iff_ne]; omega
    have hne : l ≠ m := fun e => hlen (by rw [e])
    have HNE := Lib.hid hne
    clear hne hlen hl hl2
    go_enter Tryz.func12, Tryz.ntmps12
    go_wp2
    go_ret
    refine ⟨ret_bool (by rw [decide_eq_false HNE.out]), ?_⟩
    repeat (first | with_reducible exact Grew.refl _ | apply Grew.more | apply Grew.alloc | apply Grew.drew | apply Grew.drewN)
end Go.Proofs.YtiocdmfmghanmaaGreatDoor
