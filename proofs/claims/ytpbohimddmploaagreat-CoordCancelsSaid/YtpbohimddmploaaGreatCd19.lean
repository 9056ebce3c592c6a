import Derived.ChangeKeysEq
import Derived.Test.YtpbohimddmploaaGreatCd15
import Derived.Test.YtpbohimddmploaaGreatCd12
import Derived.Test.YtpbohimddmploaaGreatCd14
import Derived.Deep.QuietTactic
import Derived.BigQuiet
set_option linter.unusedSimpArgs false
set_option linter.unusedVariables false
set_option maxRecDepth 100000
set_option maxHeartbeats 64000000
namespace Go.Proofs.YtpbohimddmploaaGreat
open Go.RowKit Ga

open Classical in
theorem eqEns_any (v u : Value) (l m : List Tab.En) (w : World) (hv : EntsAt w v l) (hu : EntsAt w u m) : Calls Tryz.prog 73 #[v, u] w (Gives (.bool (decide (l = m))) w) := by
  have HV := Lib.hid hv
  have HU := Lib.hid hu
  obtain ⟨a, cap, rfl, hm, -⟩ := EntsAt.open6 hv
  obtain ⟨a2, cap2, rfl, hm2, -⟩ := EntsAt.open6 hu
  clear hv hu
  by_cases hlen : l.length = m.length
  · have hD2 : ((l.length : Int) != (m.length : Int)) = false := by rw [hlen]; simp
    have HLEN := Lib.hid hlen
    clear hlen
    go_enter Tryz.func73, Tryz.ntmps73
    go_wp2
    go_loopg [13] l.length (fun gg s13 wr => ∃ g : Nat, g ≤ l.length ∧ l.length - g ≤ gg ∧ s13 = .int .i64 g ∧ Hid (Grew w wr) ∧ Hid (l.take g = m.take g))
    case atStart => exact ⟨0, by omega, by omega, rfl, Lib.hid (by repeat (first | with_reducible exact Grew.refl _ | apply Grew.more | apply Grew.alloc | apply Grew.drew | apply Grew.drewN)), Lib.hid rfl⟩
    case round =>
      obtain ⟨g, hg8, hgg, rfl, HGR, HNO⟩ := hrel
      by_cases hlt : g < l.length
      · have hlt2 : g < m.length := by have := HLEN.out; omega
        obtain ⟨av, cv, e, -, hx⟩ := EntsAt.open6 (HV.out.grew HGR.out)
        cases e
        obtain ⟨av2, cv2, e, -, hx2⟩ := EntsAt.open6 (HU.out.grew HGR.out)
        cases e
        obtain ⟨b, off, rfl, hb, c0, c1, c2, c3, c4, c5⟩ := hx g hlt
        obtain ⟨b2, off2, rfl, hb2, d0, d1, d2, d3, d4, d5⟩ := hx2 g hlt2
        have hs := take_eq_succ hlt hlt2 HNO.out
        have hf := neq_at hlt hlt2
        have HS := Lib.hid hs
        have HF := Lib.hid hf
        clear hx hx2 hs hf
        generalize l[g] = x at *
        generalize m[g] = y at *
        obtain ⟨nd, ky, ⟨p0, q0⟩, ⟨p1, q1⟩⟩ := x
        obtain ⟨nd', ky', ⟨p0', q0'⟩, ⟨p1', q1'⟩⟩ := y
        simp only at c0 c1 c2 c3 c4 c5 d0 d1 d2 d3 d4 d5
        by_cases hr : nd = nd' ∧ ky = ky' ∧ p0 = p0' ∧ q0 = q0' ∧ p1 = p1' ∧ q1 = q1'
        · obtain ⟨rfl, rfl, rfl, rfl, rfl, rfl⟩ := hr
          have hq := run_neq_Ens nd ky p0 q0 p1 q1 nd ky p0 q0 p1 q1 false (by simp)
          go_upto_region 6 with fail
          go_quiet (fail)
          go_wp2
          go_roundg (l.length - (g + 1))
          case measure => omega
          case rel => exact ⟨g + 1, by omega, by omega, by go_num, Lib.hid (HGR.out.trans (by repeat (first | with_reducible exact Grew.refl _ | apply Grew.more | apply Grew.alloc | apply Grew.drew | apply Grew.drewN))), Lib.hid (HS.out (by first | exact rfl | trivial))⟩
        · have HFIN := Lib.hid (decide_eq_false (HF.out (fun e => hr (by cases e; exact ⟨rfl, rfl, rfl, rfl, rfl, rfl⟩))))
          have hq := run_neq_Ens nd ky p0 q0 p1 q1 nd' ky' p0' q0' p1' q1' true (by rw [decide_eq_false hr]; rfl)
          clear hr
          go_upto_region 6 with fail
          go_quiet (fail)
          go_wp2
          go_ret
          exact ⟨by rw [HFIN.out]; rfl, HGR.out.trans (by repeat (first | with_reducible exact Grew.refl _ | apply Grew.more | apply Grew.alloc | apply Grew.drew | apply Grew.drewN))⟩
      · obtain rfl : g = l.length := by omega
        have hz := HNO.out
        rw [List.take_length, List.take_of_length_le (by have := HLEN.out; omega)] at hz
        have HFIN := Lib.hid (decide_eq_true hz)
        clear hz
        go_wp2
        go_ret
        exact ⟨by rw [HFIN.out]; rfl, HGR.out⟩
  · have hD2 : ((l.length : Int) != (m.length : Int)) = true := by rw [bne_iff_ne]; omega
    have HFIN := Lib.hid (decide_eq_false (fun h : l = m => hlen (by rw [h])))
    clear hlen
    go_enter Tryz.func73, Tryz.ntmps73
    go_wp2
    go_ret
    exact ⟨by rw [HFIN.out]; rfl, by repeat (first | with_reducible exact Grew.refl _ | apply Grew.more | apply Grew.alloc | apply Grew.drew | apply Grew.drewN)⟩
end Go.Proofs.YtpbohimddmploaaGreat
