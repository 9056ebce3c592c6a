import Derived.Test.YtpbohimddmploaaGreatCd10
import Derived.Test.YtpbohimddmploaaGreatCd5
import Derived.Deep.LoopGhost
import Derived.Deep.DeepCutAuto
import Derived.Deep.QuietTactic
import Derived.BigQuiet
set_option linter.unusedSimpArgs false
set_option linter.unusedVariables false
set_option maxRecDepth 100000
set_option maxHeartbeats 64000000
namespace Go.Proofs.YtpbohimddmploaaGreat
open Go.RowKit Ga

theorem eqInts_any (v u : Value) (l m : List Int) (w : World) (hv : IntsAt w v l) (hu : IntsAt w u m) : Calls Tryz.prog 72 #[v, u] w (Gives (.bool (decide (l = m))) w) := by
  have HV := Lib.hid hv
  have HU := Lib.hid hu
  obtain ⟨a, cap, rfl, hm, -⟩ := ints_open hv
  obtain ⟨a2, cap2, rfl, hm2, -⟩ := ints_open hu
  clear hv hu
  by_cases hlen : l.length = m.length
  · have hD2 : ((l.length : Int) != (m.length : Int)) = false := by rw [hlen]; simp
    have HLEN := Lib.hid hlen
    clear hlen
    go_enter Tryz.func72, Tryz.ntmps72
    go_wp2
    go_loopg [13] l.length (fun gg s13 wr => ∃ g : Nat, g ≤ l.length ∧ l.length - g ≤ gg ∧ s13 = .int .i64 g ∧ Hid (Grew w wr) ∧ Hid (l.take g = m.take g))
    case atStart => exact ⟨0, by omega, by omega, rfl, Lib.hid (by repeat (first | with_reducible exact Grew.refl _ | apply Grew.more | apply Grew.alloc | apply Grew.drew | apply Grew.drewN)), Lib.hid rfl⟩
    case round =>
      obtain ⟨g, hg8, hgg, rfl, HGR, HNO⟩ := hrel
      by_cases hlt : g < l.length
      · have hlt2 : g < m.length := by have := HLEN.out; omega
        obtain ⟨av, cv, e, -, hx⟩ := ints_open (HV.out.grew HGR.out)
        cases e
        obtain ⟨av2, cv2, e, -, hx2⟩ := ints_open (HU.out.grew HGR.out)
        cases e
        obtain ⟨b, off, rfl, hb, cx⟩ := hx g hlt
        obtain ⟨b2, off2, rfl, hb2, dx⟩ := hx2 g hlt2
        have hs := take_eq_succ hlt hlt2 HNO.out
        have hf := neq_at hlt hlt2
        have HS := Lib.hid hs
        have HF := Lib.hid hf
        clear hx hx2 hs hf
        generalize l[g] = x at *
        generalize m[g] = y at *
        by_cases hr : x = y
        · cases hr
          go_upto_region 6 with fail
          go_quiet (fail)
          go_wp2
          go_roundg (l.length - (g + 1))
          case measure => omega
          case rel => exact ⟨g + 1, by omega, by omega, by go_num, Lib.hid (HGR.out.trans (by repeat (first | with_reducible exact Grew.refl _ | apply Grew.more | apply Grew.alloc | apply Grew.drew | apply Grew.drewN))), Lib.hid (HS.out (by first | exact rfl | trivial))⟩
        · have HR := Lib.hid hr
          have hfin : decide (l = m) = false := decide_eq_false (HF.out hr)
          have HFIN := Lib.hid hfin
          have hne : (x != y) = true := by rw [bne_iff_ne]; exact hr
          clear hr hfin
          go_upto_region 6 with fail
          go_quiet (fail)
          go_wp2
          go_ret
          exact ⟨by rw [HFIN.out]; rfl, HGR.out.trans (by repeat (first | with_reducible exact Grew.refl _ | apply Grew.more | apply Grew.alloc | apply Grew.drew | apply Grew.drewN))⟩
      · obtain rfl : g = l.length := by omega
        have hz := HNO.out
        rw [List.take_length, List.take_of_length_le (by have := HLEN.out; omega)] at hz
        have hfin : decide (l = m) = true := decide_eq_true hz
        have HFIN := Lib.hid hfin
        clear hz hfin
        go_wp2
        go_ret
        exact ⟨by rw [HFIN.out]; rfl, HGR.out⟩
  · have hD2 : ((l.length : Int) != (m.length : Int)) = true := by rw [bne_iff_ne]; omega
    have hfin : decide (l = m) = false := decide_eq_false fun h => hlen (by rw [h])
    have HFIN := Lib.hid hfin
    clear hfin hlen
    go_enter Tryz.func72, Tryz.ntmps72
    go_wp2
    go_ret
    exact ⟨by rw [HFIN.out]; rfl, by repeat (first | with_reducible exact Grew.refl _ | apply Grew.more | apply Grew.alloc | apply Grew.drew | apply Grew.drewN)⟩
theorem eqVals_any (v u : Value) (l m : List Val) (w : World) (hv : ValsAt w v l) (hu : ValsAt w u m) : Calls Tryz.prog 120 #[v, u] w (Gives (.bool (decide (l = m))) w) := by
  have HV := Lib.hid hv
  have HU := Lib.hid hu
  obtain ⟨a, cap, rfl, hm, -⟩ := hv.open2
  obtain ⟨a2, cap2, rfl, hm2, -⟩ := hu.open2
  clear hv hu
  by_cases hlen : l.length = m.length
  · have hD2 : ((l.length : Int) != (m.length : Int)) = false := by rw [hlen]; simp
    have HLEN := Lib.hid hlen
    clear hlen
    go_enter Tryz.func120, Tryz.ntmps120
    go_wp2
    go_loopg [13] l.length (fun gg s13 wr => ∃ g : Nat, g ≤ l.length ∧ l.length - g ≤ gg ∧ s13 = .int .i64 g ∧ Hid (Grew w wr) ∧ Hid (l.take g = m.take g))
    case atStart => exact ⟨0, by omega, by omega, rfl, Lib.hid (by repeat (first | with_reducible exact Grew.refl _ | apply Grew.more | apply Grew.alloc | apply Grew.drew | apply Grew.drewN)), Lib.hid rfl⟩
    case round =>
      obtain ⟨g, hg8, hgg, rfl, HGR, HNO⟩ := hrel
      by_cases hlt : g < l.length
      · have hlt2 : g < m.length := by have := HLEN.out; omega
        obtain ⟨av, cv, e, -, hx⟩ := (HV.out.grew HGR.out).open2
        cases e
        obtain ⟨av2, cv2, e, -, hx2⟩ := (HU.out.grew HGR.out).open2
        cases e
        obtain ⟨b, off, rfl, hb, cx, cy⟩ := hx g hlt
        obtain ⟨b2, off2, rfl, hb2, dx, dy⟩ := hx2 g hlt2
        have hs := take_eq_succ hlt hlt2 HNO.out
        have hf := neq_at hlt hlt2
        have HS := Lib.hid hs
        have HF := Lib.hid hf
        clear hx hx2 hs hf
        generalize l[g] = x at *
        generalize m[g] = y at *
        obtain ⟨x, x'⟩ := x
        obtain ⟨y, y'⟩ := y
        simp only at cx cy dx dy
        by_cases hr : ((x, x') : Val) = (y, y')
        · cases hr
          go_upto_region 6 with fail
          go_quiet (fail)
          go_wp2
          go_roundg (l.length - (g + 1))
          case measure => omega
          case rel => exact ⟨g + 1, by omega, by omega, by go_num, Lib.hid (HGR.out.trans (by repeat (first | with_reducible exact Grew.refl _ | apply Grew.more | apply Grew.alloc | apply Grew.drew | apply Grew.drewN))), Lib.hid (HS.out (by first | exact rfl | trivial))⟩
        · have HR := Lib.hid hr
          have hfin : decide (l = m) = false := decide_eq_false (HF.out hr)
          have HFIN := Lib.hid hfin
          have hq := run_neq_ins x x' y y' true (by
            have := HR.out
            by_cases e1 : x = y <;> by_cases e2 : x' = y' <;> simp [e1, e2]
            exact this (by rw [e1, e2]))
          clear hr hfin
          go_upto_region 6 with fail
          go_quiet (fail)
          go_wp2
          go_ret
          exact ⟨by rw [HFIN.out]; rfl, HGR.out.trans (by repeat (first | with_reducible exact Grew.refl _ | apply Grew.more | apply Grew.alloc | apply Grew.drew | apply Grew.drewN))⟩
      · obtain rfl : g = l.length := by omega
        have hz := HNO.out
        rw [List.take_length, List.take_of_length_le (by have := HLEN.out; omega)] at hz
        have hfin : decide (l = m) = true := decide_eq_true hz
        have HFIN := Lib.hid hfin
        clear hz hfin
        go_wp2
        go_ret
        exact ⟨by rw [HFIN.out]; rfl, HGR.out⟩
  · have hD2 : ((l.length : Int) != (m.length : Int)) = true := by rw [bne_iff_ne]; omega
    have hfin : decide (l = m) = false := decide_eq_false fun h => hlen (by rw [h])
    have HFIN := Lib.hid hfin
    clear hfin hlen
    go_enter Tryz.func120, Tryz.ntmps120
    go_wp2
    go_ret
    exact ⟨by rw [HFIN.out]; rfl, by repeat (first | with_reducible exact Grew.refl _ | apply Grew.more | apply Grew.alloc | apply Grew.drew | apply Grew.drewN)⟩
end Go.Proofs.YtpbohimddmploaaGreat
