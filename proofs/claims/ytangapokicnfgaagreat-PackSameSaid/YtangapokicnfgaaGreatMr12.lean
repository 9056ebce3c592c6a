import Derived.Test.YtangapokicnfgaaGreatMr10
import Derived.Test.YtangapokicnfgaaGreatMr11
import Derived.Test.YtangapokicnfgaaGreatMr9
import Derived.Deep.LoopGhost
import Derived.Deep.DeepCutAuto
import Derived.Deep.QuietTactic
import Derived.BigQuiet
import Derived.ChangeKeysEq
import Derived.Test.YtangapokicnfgaaGreatMr2
import Derived.RegionTactic
/-! slices.Equal at numbers and at instructions. -/
namespace Go.Proofs.YtangapokicnfgaaGreat
set_option linter.unusedSimpArgs false
set_option linter.unusedVariables false
open Go.RowKit Ga
set_option maxRecDepth 100000

set_option maxHeartbeats 4000000 in
theorem eqInts_any (v u : Value) (l m : List Int) (w : World) (hv : IntsAt w v l) (hu : IntsAt w u m) : Calls Tryz.prog 68 #[v, u] w (Gives (.bool (decide (l = m))) w) := by
  have HV := Lib.hid hv
  have HU := Lib.hid hu
  obtain ⟨a, cap, rfl, hm, -⟩ := ints_open hv
  obtain ⟨a2, cap2, rfl, hm2, -⟩ := ints_open hu
  clear hv hu
  by_cases hlen : l.length = m.length
  · have hD2 : ((l.length : Int) != (m.length : Int)) = false := by rw [hlen]; simp
    have HLEN := Lib.hid hlen
    clear hlen
    go_enter Tryz.func68, Tryz.ntmps68
    go_wp2
    go_loopg [13] l.length (fun gg s13 wr => ∃ g : Nat, g ≤ l.length ∧ l.length - g ≤ gg ∧ s13 = .int .i64 g ∧ Hid (Grew w wr) ∧ Hid (l.take g = m.take g))
    case atStart => exact ⟨0, by omega, by omega, rfl, Lib.hid (by repeat (first | with_reducible exact Grew.refl _ | apply Grew.more | apply Grew.alloc | apply Grew.drew | apply Grew.drewN)), Lib.hid rfl⟩
    case round =>
      obtain ⟨g, hg8, hgg, rfl, HGR, HNO⟩ := hrel
      by_cases hlt : g < l.length
      · have hlt2 : g < m.length := by have := HLEN.out; omega
        obtain ⟨av, cv, e, -, hx⟩ := ints_open (HV.out.grew HGR.out)
        cases e
        obtain ⟨av2, cv2, e, -, hx2⟩ := ints_open (HU.out.grew HGR.out)
        cases e
        obtain ⟨b, off, rfl, hb, cx⟩ := hx g hlt
        obtain ⟨b2, off2, rfl, hb2, dx⟩ := hx2 g hlt2
        have hs := take_eq_succ hlt hlt2 HNO.out
        have hf := neq_at hlt hlt2
        have HS := Lib.hid hs
        have HF := Lib.hid hf
        clear hx hx2 hs hf
        generalize l[g] = x at *
        generalize m[g] = y at *
        by_cases hr : x = y
        · cases hr
          go_upto_region 6 with fail
          go_quiet (fail)
          go_wp2
          go_roundg (l.length - (g + 1))
          case measure => omega
          case rel => exact ⟨g + 1, by omega, by omega, by go_num, Lib.hid (HGR.out.trans (by repeat (first | with_reducible exact Grew.refl _ | apply Grew.more | apply Grew.alloc | apply Grew.drew | apply Grew.drewN))), Lib.hid (HS.out (by first | exact rfl | trivial))⟩
        · have HR := Lib.hid hr
          have hfin : decide (l = m) = false := decide_eq_false (HF.out hr)
          have HFIN := Lib.hid hfin
          have hne : (x != y) = true := by rw [bne_iff_ne]; exact hr
          clear hr hfin
          go_upto_region 6 with fail
          go_quiet (fail)
          go_wp2
          go_ret
          exact ⟨by rw [HFIN.out]; rfl, HGR.out.trans (by repeat (first | with_reducible exact Grew.refl _ | apply Grew.more | apply Grew.alloc | apply Grew.drew | apply Grew.drewN))⟩
      · obtain rfl : g = l.length := by omega
        have hz := HNO.out
        rw [List.take_length, List.take_of_length_le (by have := HLEN.out; omega)] at hz
        have hfin : decide (l = m) = true := decide_eq_true hz
        have HFIN := Lib.hid hfin
        clear hz hfin
        go_wp2
        go_ret
        exact ⟨by rw [HFIN.out]; rfl, HGR.out⟩
  · have hD2 : ((l.length : Int) != (m.length : Int)) = true := by rw [bne_iff_ne]; omega
    have hfin : decide (l = m) = false := decide_eq_false fun h => hlen (by rw [h])
    have HFIN := Lib.hid hfin
    clear hfin hlen
    go_enter Tryz.func68, Tryz.ntmps68
    go_wp2
    go_ret
    exact ⟨by rw [HFIN.out]; rfl, by repeat (first | with_reducible exact Grew.refl _ | apply Grew.more | apply Grew.alloc | apply Grew.drew | apply Grew.drewN)⟩
set_option maxHeartbeats 4000000 in
theorem eqVals_any (v u : Value) (l m : List Val) (w : World) (hv : ValsAt w v l) (hu : ValsAt w u m) : Calls Tryz.prog 126 #[v, u] w (Gives (.bool (decide (l = m))) w) := by
  have HV := Lib.hid hv
  have HU := Lib.hid hu
  obtain ⟨a, cap, rfl, hm, -⟩ := hv.open2
  obtain ⟨a2, cap2, rfl, hm2, -⟩ := hu.open2
  clear hv hu
  by_cases hlen : l.length = m.length
  · have hD2 : ((l.length : Int) != (m.length : Int)) = false := by rw [hlen]; simp
    have HLEN := Lib.hid hlen
    clear hlen
    go_enter Tryz.func126, Tryz.ntmps126
    go_wp2
    go_loopg [13] l.length (fun gg s13 wr => ∃ g : Nat, g ≤ l.length ∧ l.length - g ≤ gg ∧ s13 = .int .i64 g ∧ Hid (Grew w wr) ∧ Hid (l.take g = m.take g))
    case atStart => exact ⟨0, by omega, by omega, rfl, Lib.hid (by repeat (first | with_reducible exact Grew.refl _ | apply Grew.more | apply Grew.alloc | apply Grew.drew | apply Grew.drewN)), Lib.hid rfl⟩
    case round =>
      obtain ⟨g, hg8, hgg, rfl, HGR, HNO⟩ := hrel
      by_cases hlt : g < l.length
      · have hlt2 : g < m.length := by have := HLEN.out; omega
        obtain ⟨av, cv, e, -, hx⟩ := (HV.out.grew HGR.out).open2
        cases e
        obtain ⟨av2, cv2, e, -, hx2⟩ := (HU.out.grew HGR.out).open2
        cases e
        obtain ⟨b, off, rfl, hb, cx, cy⟩ := hx g hlt
        obtain ⟨b2, off2, rfl, hb2, dx, dy⟩ := hx2 g hlt2
        have hs := take_eq_succ hlt hlt2 HNO.out
        have hf := neq_at hlt hlt2
        have HS := Lib.hid hs
        have HF := Lib.hid hf
        clear hx hx2 hs hf
        generalize l[g] = x at *
        generalize m[g] = y at *
        obtain ⟨x, x'⟩ := x
        obtain ⟨y, y'⟩ := y
        simp only at cx cy dx dy
        by_cases hr : ((x, x') : Val) = (y, y')
        · cases hr
          go_upto_region 6 with fail
          go_quiet (fail)
          go_wp2
          go_roundg (l.length - (g + 1))
          case measure => omega
          case rel => exact ⟨g + 1, by omega, by omega, by go_num, Lib.hid (HGR.out.trans (by repeat (first | with_reducible exact Grew.refl _ | apply Grew.more | apply Grew.alloc | apply Grew.drew | apply Grew.drewN))), Lib.hid (HS.out (by first | exact rfl | trivial))⟩
        · have HR := Lib.hid hr
          have hfin : decide (l = m) = false := decide_eq_false (HF.out hr)
          have HFIN := Lib.hid hfin
          have hq := run_neq_ins x x' y y' true (by
            have := HR.out
            by_cases e1 : x = y <;> by_cases e2 : x' = y' <;> simp [e1, e2]
            exact this (by rw [e1, e2]))
          clear hr hfin
          go_upto_region 6 with fail
          go_quiet (fail)
          go_wp2
          go_ret
          exact ⟨by rw [HFIN.out]; rfl, HGR.out.trans (by repeat (first | with_reducible exact Grew.refl _ | apply Grew.more | apply Grew.alloc | apply Grew.drew | apply Grew.drewN))⟩
      · obtain rfl : g = l.length := by omega
        have hz := HNO.out
        rw [List.take_length, List.take_of_length_le (by have := HLEN.out; omega)] at hz
        have hfin : decide (l = m) = true := decide_eq_true hz
        have HFIN := Lib.hid hfin
        clear hz hfin
        go_wp2
        go_ret
        exact ⟨by rw [HFIN.out]; rfl, HGR.out⟩
  · have hD2 : ((l.length : Int) != (m.length : Int)) = true := by rw [bne_iff_ne]; omega
    have hfin : decide (l = m) = false := decide_eq_false fun h => hlen (by rw [h])
    have HFIN := Lib.hid hfin
    clear hfin hlen
    go_enter Tryz.func126, Tryz.ntmps126
    go_wp2
    go_ret
    exact ⟨by rw [HFIN.out]; rfl, by repeat (first | with_reducible exact Grew.refl _ | apply Grew.more | apply Grew.alloc | apply Grew.drew | apply Grew.drewN)⟩
end Go.Proofs.YtangapokicnfgaaGreat

/-! slices.Equal at entries and at lines. -/
namespace Go.Proofs.YtangapokicnfgaaGreat
set_option linter.unusedSimpArgs false
set_option linter.unusedVariables false
open Go.RowKit Ga
set_option maxRecDepth 100000

theorem arr2_eq (d : Nat) (a b c e a' b' c' e' : Int) (w : World) : (Op.equalIn (d + 4) 95 (.agg #[.int .i64 a, .int .i64 b, .int .i64 c, .int .i64 e]) (.agg #[.int .i64 a', .int .i64 b', .int .i64 c', .int .i64 e'])).run Tryz.prog w = .ok (decide (a = a' ∧ b = b' ∧ c = c' ∧ e = e')) w := by
  obtain ⟨i, hi, _⟩ := info_parts infoCV
  have h0 := run_equalIn_array (P := Tryz.prog) (w := w) (d + 3) #[.int .i64 a, .int .i64 b, .int .i64 c, .int .i64 e] #[.int .i64 a', .int .i64 b', .int .i64 c', .int .i64 e'] Tryz.underlying95 hi
  rw [h0, show List.range 2 = [0, 1] from rfl, cellsCV]
  simp [Op.eqItems, go_sem, Tryz.underlying94, Tryz.underlying3]
  by_cases h1 : a = a' <;> by_cases h2 : b = b' <;> by_cases h3 : c = c' <;> by_cases h4 : e = e' <;> simp [h1, h2, h3, h4]
theorem val_eq (d : Nat) (a b a' b' : Int) (w : World) : (Op.equalIn (d + 4) 94 (.agg #[.int .i64 a, .int .i64 b]) (.agg #[.int .i64 a', .int .i64 b'])).run Tryz.prog w = .ok (decide (a = a' ∧ b = b')) w := by
  simp [go_sem, Tryz.underlying94, Tryz.underlying3]
  by_cases h1 : a = a' <;> by_cases h2 : b = b' <;> simp [h1, h2]
theorem run_neq_Ens (nd ky p0 q0 p1 q1 nd' ky' p0' q0' p1' q1' : Int) (r : Bool) (h : (!(decide (nd = nd' ∧ ky = ky' ∧ p0 = p0' ∧ q0 = q0' ∧ p1 = p1' ∧ q1 = q1'))) = r) (w : World) : (binOp .neq 97 (.agg #[.int .i64 nd, .int .i64 ky, .int .i64 p0, .int .i64 q0, .int .i64 p1, .int .i64 q1]) (.agg #[.int .i64 nd', .int .i64 ky', .int .i64 p0', .int .i64 q0', .int .i64 p1', .int .i64 q1'])).run Tryz.prog w = .ok (.bool r) w := by
  subst h
  simp [go_sem, arr2_eq, Tryz.underlying97, Tryz.underlying3]
  by_cases h0 : nd = nd' <;> by_cases h1 : ky = ky' <;> by_cases h2 : p0 = p0' <;> by_cases h3 : q0 = q0' <;> by_cases h4 : p1 = p1' <;> by_cases h5 : q1 = q1' <;> simp [h0, h1, h2, h3, h4, h5]
theorem run_neq_Lns (si fr ky p0 q0 si' fr' ky' p0' q0' : Int) (r : Bool) (h : (!(decide (si = si' ∧ fr = fr' ∧ ky = ky' ∧ p0 = p0' ∧ q0 = q0'))) = r) (w : World) : (binOp .neq 100 (.agg #[.int .i64 si, .int .i64 fr, .int .i64 ky, .int .i64 p0, .int .i64 q0]) (.agg #[.int .i64 si', .int .i64 fr', .int .i64 ky', .int .i64 p0', .int .i64 q0'])).run Tryz.prog w = .ok (.bool r) w := by
  subst h
  simp [go_sem, val_eq, Tryz.underlying100, Tryz.underlying3]
  by_cases h0 : si = si' <;> by_cases h1 : fr = fr' <;> by_cases h2 : ky = ky' <;> by_cases h3 : p0 = p0' <;> by_cases h4 : q0 = q0' <;> simp [h0, h1, h2, h3, h4]
open Classical in
set_option maxHeartbeats 4000000 in
theorem eqEns_any (v u : Value) (l m : List Tab.En) (w : World) (hv : EntsAt w v l) (hu : EntsAt w u m) : Calls Tryz.prog 70 #[v, u] w (Gives (.bool (decide (l = m))) w) := by
  have HV := Lib.hid hv
  have HU := Lib.hid hu
  obtain ⟨a, cap, rfl, hm, -⟩ := EntsAt.open6 hv
  obtain ⟨a2, cap2, rfl, hm2, -⟩ := EntsAt.open6 hu
  clear hv hu
  by_cases hlen : l.length = m.length
  · have hD2 : ((l.length : Int) != (m.length : Int)) = false := by rw [hlen]; simp
    have HLEN := Lib.hid hlen
    clear hlen
    go_enter Tryz.func70, Tryz.ntmps70
    go_wp2
    go_loopg [13] l.length (fun gg s13 wr => ∃ g : Nat, g ≤ l.length ∧ l.length - g ≤ gg ∧ s13 = .int .i64 g ∧ Hid (Grew w wr) ∧ Hid (l.take g = m.take g))
    case atStart => exact ⟨0, by omega, by omega, rfl, Lib.hid (by repeat (first | with_reducible exact Grew.refl _ | apply Grew.more | apply Grew.alloc | apply Grew.drew | apply Grew.drewN)), Lib.hid rfl⟩
    case round =>
      obtain ⟨g, hg8, hgg, rfl, HGR, HNO⟩ := hrel
      by_cases hlt : g < l.length
      · have hlt2 : g < m.length := by have := HLEN.out; omega
        obtain ⟨av, cv, e, -, hx⟩ := EntsAt.open6 (HV.out.grew HGR.out)
        cases e
        obtain ⟨av2, cv2, e, -, hx2⟩ := EntsAt.open6 (HU.out.grew HGR.out)
        cases e
        obtain ⟨b, off, rfl, hb, c0, c1, c2, c3, c4, c5⟩ := hx g hlt
        obtain ⟨b2, off2, rfl, hb2, d0, d1, d2, d3, d4, d5⟩ := hx2 g hlt2
        have hs := take_eq_succ hlt hlt2 HNO.out
        have hf := neq_at hlt hlt2
        have HS := Lib.hid hs
        have HF := Lib.hid hf
        clear hx hx2 hs hf
        generalize l[g] = x at *
        generalize m[g] = y at *
        obtain ⟨nd, ky, ⟨p0, q0⟩, ⟨p1, q1⟩⟩ := x
        obtain ⟨nd', ky', ⟨p0', q0'⟩, ⟨p1', q1'⟩⟩ := y
        simp only at c0 c1 c2 c3 c4 c5 d0 d1 d2 d3 d4 d5
        by_cases hr : nd = nd' ∧ ky = ky' ∧ p0 = p0' ∧ q0 = q0' ∧ p1 = p1' ∧ q1 = q1'
        · obtain ⟨rfl, rfl, rfl, rfl, rfl, rfl⟩ := hr
          have hq := run_neq_Ens nd ky p0 q0 p1 q1 nd ky p0 q0 p1 q1 false (by simp)
          go_upto_region 6 with fail
          go_quiet (fail)
          go_wp2
          go_roundg (l.length - (g + 1))
          case measure => omega
          case rel => exact ⟨g + 1, by omega, by omega, by go_num, Lib.hid (HGR.out.trans (by repeat (first | with_reducible exact Grew.refl _ | apply Grew.more | apply Grew.alloc | apply Grew.drew | apply Grew.drewN))), Lib.hid (HS.out (by first | exact rfl | trivial))⟩
        · have HFIN := Lib.hid (decide_eq_false (HF.out (fun e => hr (by cases e; exact ⟨rfl, rfl, rfl, rfl, rfl, rfl⟩))))
          have hq := run_neq_Ens nd ky p0 q0 p1 q1 nd' ky' p0' q0' p1' q1' true (by rw [decide_eq_false hr]; rfl)
          clear hr
          go_upto_region 6 with fail
          go_quiet (fail)
          go_wp2
          go_ret
          exact ⟨by rw [HFIN.out]; rfl, HGR.out.trans (by repeat (first | with_reducible exact Grew.refl _ | apply Grew.more | apply Grew.alloc | apply Grew.drew | apply Grew.drewN))⟩
      · obtain rfl : g = l.length := by omega
        have hz := HNO.out
        rw [List.take_length, List.take_of_length_le (by have := HLEN.out; omega)] at hz
        have HFIN := Lib.hid (decide_eq_true hz)
        clear hz
        go_wp2
        go_ret
        exact ⟨by rw [HFIN.out]; rfl, HGR.out⟩
  · have hD2 : ((l.length : Int) != (m.length : Int)) = true := by rw [bne_iff_ne]; omega
    have HFIN := Lib.hid (decide_eq_false (fun h : l = m => hlen (by rw [h])))
    clear hlen
    go_enter Tryz.func70, Tryz.ntmps70
    go_wp2
    go_ret
    exact ⟨by rw [HFIN.out]; rfl, by repeat (first | with_reducible exact Grew.refl _ | apply Grew.more | apply Grew.alloc | apply Grew.drew | apply Grew.drewN)⟩
open Classical in
set_option maxHeartbeats 4000000 in
theorem eqLns_any (v u : Value) (l m : List Gr.Ln) (w : World) (hv : LnsAt w v l) (hu : LnsAt w u m) : Calls Tryz.prog 71 #[v, u] w (Gives (.bool (decide (l = m))) w) := by
  have HV := Lib.hid hv
  have HU := Lib.hid hu
  obtain ⟨a, cap, rfl, hm, -⟩ := LnsAt.open5 hv
  obtain ⟨a2, cap2, rfl, hm2, -⟩ := LnsAt.open5 hu
  clear hv hu
  by_cases hlen : l.length = m.length
  · have hD2 : ((l.length : Int) != (m.length : Int)) = false := by rw [hlen]; simp
    have HLEN := Lib.hid hlen
    clear hlen
    go_enter Tryz.func71, Tryz.ntmps71
    go_wp2
    go_loopg [13] l.length (fun gg s13 wr => ∃ g : Nat, g ≤ l.length ∧ l.length - g ≤ gg ∧ s13 = .int .i64 g ∧ Hid (Grew w wr) ∧ Hid (l.take g = m.take g))
    case atStart => exact ⟨0, by omega, by omega, rfl, Lib.hid (by repeat (first | with_reducible exact Grew.refl _ | apply Grew.more | apply Grew.alloc | apply Grew.drew | apply Grew.drewN)), Lib.hid rfl⟩
    case round =>
      obtain ⟨g, hg8, hgg, rfl, HGR, HNO⟩ := hrel
      by_cases hlt : g < l.length
      · have hlt2 : g < m.length := by have := HLEN.out; omega
        obtain ⟨av, cv, e, -, hx⟩ := LnsAt.open5 (HV.out.grew HGR.out)
        cases e
        obtain ⟨av2, cv2, e, -, hx2⟩ := LnsAt.open5 (HU.out.grew HGR.out)
        cases e
        obtain ⟨b, off, rfl, hb, c0, c1, c2, c3, c4⟩ := hx g hlt
        obtain ⟨b2, off2, rfl, hb2, d0, d1, d2, d3, d4⟩ := hx2 g hlt2
        have hs := take_eq_succ hlt hlt2 HNO.out
        have hf := neq_at hlt hlt2
        have HS := Lib.hid hs
        have HF := Lib.hid hf
        clear hx hx2 hs hf
        generalize l[g] = x at *
        generalize m[g] = y at *
        obtain ⟨si, fr, ky, ⟨p0, q0⟩⟩ := x
        obtain ⟨si', fr', ky', ⟨p0', q0'⟩⟩ := y
        simp only at c0 c1 c2 c3 c4 d0 d1 d2 d3 d4
        by_cases hr : si = si' ∧ fr = fr' ∧ ky = ky' ∧ p0 = p0' ∧ q0 = q0'
        · obtain ⟨rfl, rfl, rfl, rfl, rfl⟩ := hr
          have hq := run_neq_Lns si fr ky p0 q0 si fr ky p0 q0 false (by simp)
          go_upto_region 6 with fail
          go_quiet (fail)
          go_wp2
          go_roundg (l.length - (g + 1))
          case measure => omega
          case rel => exact ⟨g + 1, by omega, by omega, by go_num, Lib.hid (HGR.out.trans (by repeat (first | with_reducible exact Grew.refl _ | apply Grew.more | apply Grew.alloc | apply Grew.drew | apply Grew.drewN))), Lib.hid (HS.out (by first | exact rfl | trivial))⟩
        · have HFIN := Lib.hid (decide_eq_false (HF.out (fun e => hr (by cases e; exact ⟨rfl, rfl, rfl, rfl, rfl⟩))))
          have hq := run_neq_Lns si fr ky p0 q0 si' fr' ky' p0' q0' true (by rw [decide_eq_false hr]; rfl)
          clear hr
          go_upto_region 6 with fail
          go_quiet (fail)
          go_wp2
          go_ret
          exact ⟨by rw [HFIN.out]; rfl, HGR.out.trans (by repeat (first | with_reducible exact Grew.refl _ | apply Grew.more | apply Grew.alloc | apply Grew.drew | apply Grew.drewN))⟩
      · obtain rfl : g = l.length := by omega
        have hz := HNO.out
        rw [List.take_length, List.take_of_length_le (by have := HLEN.out; omega)] at hz
        have HFIN := Lib.hid (decide_eq_true hz)
        clear hz
        go_wp2
        go_ret
        exact ⟨by rw [HFIN.out]; rfl, HGR.out⟩
  · have hD2 : ((l.length : Int) != (m.length : Int)) = true := by rw [bne_iff_ne]; omega
    have HFIN := Lib.hid (decide_eq_false (fun h : l = m => hlen (by rw [h])))
    clear hlen
    go_enter Tryz.func71, Tryz.ntmps71
    go_wp2
    go_ret
    exact ⟨by rw [HFIN.out]; rfl, by repeat (first | with_reducible exact Grew.refl _ | apply Grew.more | apply Grew.alloc | apply Grew.drew | apply Grew.drewN)⟩
end Go.Proofs.YtangapokicnfgaaGreat

/-! A manifest in memory: seven cells, five slices among them. -/
namespace Go.Proofs.YtangapokicnfgaaGreat
set_option linter.unusedSimpArgs false
set_option linter.unusedVariables false
open Go.RowKit Ga
set_option maxRecDepth 100000

/-- a manifest as it lies -/
structure MfC where
  epoch : Int
  plans : Int
  ao : Option Addr
  no : Nat
  co : Nat
  ag : Option Addr
  ng : Nat
  cg : Nat
  ae : Option Addr
  ne : Nat
  ce : Nat
  ax : Option Addr
  nx : Nat
  cx : Nat
  ap : Option Addr
  np : Nat
  cp : Nat
structure MfIs (w : World) (c : MfC) (m : Gr.Mf) : Prop where
  epoch : m.epoch = c.epoch
  plans : m.plans = c.plans
  o : IntsAt w (.slice c.ao c.no c.co) m.offs
  g : NodesAt w (.slice c.ag c.ng c.cg) m.graph
  e : EntsAt w (.slice c.ae c.ne c.ce) m.ents
  x : LnsAt w (.slice c.ax c.nx c.cx) m.out
  p : StepsAt w (.slice c.ap c.np c.cp) m.plan
theorem MfIs.grew {w w' : World} {c : MfC} {m : Gr.Mf} (h : MfIs w c m) (g : Grew w w') : MfIs w' c m := ⟨h.epoch, h.plans, h.o.grew g, h.g.grew g, h.e.grew g, h.x.grew g, h.p.grew g⟩
/-- .. written out -/
theorem MfIs.lit {w : World} {c : MfC} {m : Gr.Mf} (h : MfIs w c m) : ∃ ep pl ao co ag cg ae ce ax cx ap cp, c = ⟨ep, pl, ao, m.offs.length, co, ag, m.graph.length, cg, ae, m.ents.length, ce, ax, m.out.length, cx, ap, m.plan.length, cp⟩ := by
  obtain ⟨ep, pl, ao, no, co, ag, ng, cg, ae, ne, ce, ax, nx, cx, ap, np, cp⟩ := c
  obtain ⟨a1, c1, e1⟩ := h.o.len
  obtain ⟨a2, c2, e2, -⟩ := h.g.openC
  obtain ⟨a3, c3, e3⟩ := h.e.len
  obtain ⟨a4, c4, e4⟩ := h.x.len
  obtain ⟨a5, c5, e5, -⟩ := h.p.openC
  simp only at e1 e2 e3 e4 e5
  cases e1
  cases e2
  cases e3
  cases e4
  cases e5
  exact ⟨ep, pl, _, _, _, _, _, _, _, _, _, _, rfl⟩
end Go.Proofs.YtangapokicnfgaaGreat

/-! forebayref13.Clean. -/
namespace Go.Proofs.YtangapokicnfgaaGreat
set_option linter.unusedSimpArgs false
set_option linter.unusedVariables false
open Go.RowKit Ga
set_option maxRecDepth 100000

def zeroNd (id : Int) : NdC := ⟨id, 0, none, 0, 0, none, 0, 0, 0, 0, 0, 0, 0, 0, 0, 0, 0⟩
/-- a step's cells without what doesn't matter -/
def cleanC (c : StC) : StC :=
  if c.kind = 1 then ⟨1, { zeroNd c.c.id with ap := c.c.ap, np := c.c.np, cp := c.c.cp }, c.reset⟩
  else if c.kind = 2 then ⟨2, c.c, false⟩
  else if c.kind = 3 then ⟨3, zeroNd c.c.id, false⟩
  else if c.kind = 4 then ⟨4, ⟨c.c.id, 0, none, 0, 0, none, 0, 0, c.c.par, c.c.r0, c.c.r1, c.c.r2, c.c.r3, c.c.r4, c.c.r5, c.c.r6, c.c.r7⟩, false⟩
  else if c.kind = 5 then ⟨5, { zeroNd c.c.id with af := c.c.af, nf := c.c.nf, cf := c.c.cf }, false⟩
  else ⟨0, zeroNd 0, false⟩
theorem StepIs.clean {w : World} {c : StC} {s : Gr.Stp} (h : StepIs w c s) : StepIs w (cleanC c) (Gr.cleanS s) := by
  obtain ⟨hk, hn, hr⟩ := h
  unfold cleanC Gr.cleanS
  rw [hk]
  by_cases h1 : c.kind = 1
  · rw [if_pos h1, if_pos h1]
    exact ⟨rfl, ⟨hn.id, rfl, RowsAt.nil, hn.p, rfl, rfl, Nat.zero_le _⟩, hr⟩
  rw [if_neg h1, if_neg h1]
  by_cases h2 : c.kind = 2
  · rw [if_pos h2, if_pos h2]
    exact ⟨rfl, hn, rfl⟩
  rw [if_neg h2, if_neg h2]
  by_cases h3 : c.kind = 3
  · rw [if_pos h3, if_pos h3]
    exact ⟨rfl, ⟨hn.id, rfl, RowsAt.nil, RowsAt.nil, rfl, rfl, Nat.zero_le _⟩, rfl⟩
  rw [if_neg h3, if_neg h3]
  by_cases h4 : c.kind = 4
  · rw [if_pos h4, if_pos h4]
    exact ⟨rfl, ⟨hn.id, rfl, RowsAt.nil, RowsAt.nil, hn.par, hn.route, Nat.zero_le _⟩, rfl⟩
  rw [if_neg h4, if_neg h4]
  by_cases h5 : c.kind = 5
  · rw [if_pos h5, if_pos h5]
    exact ⟨rfl, ⟨hn.id, rfl, hn.f, RowsAt.nil, rfl, rfl, hn.fc⟩, rfl⟩
  rw [if_neg h5, if_neg h5]
  exact ⟨rfl, ⟨rfl, rfl, RowsAt.nil, RowsAt.nil, rfl, rfl, Nat.zero_le _⟩, rfl⟩
theorem res_clean13 {W : World} {tmps : Array Value} {q : Nat} {v0 v1 v2 v3 v4 v5 v6 v7 v8 v9 v10 v11 v12 v13 v14 : Value} (ht : tmps[2]? = some (.pointer (some ⟨q, 0, none⟩))) (h : W.heap[q]? = some (.cells #[v0, v1, v2, v3, v4, v5, v6, v7, v8, v9, v10, v11, v12, v13, v14] 47)) :
    (results Tryz.f19 tmps).run Tryz.prog W = .ok (.agg #[v0, v1, v2, v3, v4, v5, v6, v7, v8, v9, v10, v11, v12, v13, v14]) W := by
  have c0 := cell_of (o := 0) h
  have c1 := cell_of (o := 1) h
  have c2 := cell_of (o := 2) h
  have c3 := cell_of (o := 3) h
  have c4 := cell_of (o := 4) h
  have c5 := cell_of (o := 5) h
  have c6 := cell_of (o := 6) h
  have c7 := cell_of (o := 7) h
  have c8 := cell_of (o := 8) h
  have c9 := cell_of (o := 9) h
  have c10 := cell_of (o := 10) h
  have c11 := cell_of (o := 11) h
  have c12 := cell_of (o := 12) h
  have c13 := cell_of (o := 13) h
  have c14 := cell_of (o := 14) h
  simp at c0 c1 c2 c3 c4 c5 c6 c7 c8 c9 c10 c11 c12 c13 c14
  simp [results, Tryz.results19, go_sem, ht, c0, c1, c2, c3, c4, c5, c6, c7, c8, c9, c10, c11, c12, c13, c14]
set_option maxHeartbeats 4000000 in
theorem clean13_1 (id kd par r0 r1 r2 r3 r4 r5 r6 r7 : Int) (af ap : Option Addr) (nf cf np cp : Nat) (reset : Bool) (w : World) : Calls Tryz.prog 19 #[.agg #[.int .i64 1, .int .i64 id, .int .i64 kd, .slice af nf cf, .slice ap np cp, .int .i64 par, .int .i64 r0, .int .i64 r1, .int .i64 r2, .int .i64 r3, .int .i64 r4, .int .i64 r5, .int .i64 r6, .int .i64 r7, .bool reset]] w (Gives (.agg #[.int .i64 1, .int .i64 id, .int .i64 0, .slice none 0 0, .slice ap np cp, .int .i64 0, .int .i64 0, .int .i64 0, .int .i64 0, .int .i64 0, .int .i64 0, .int .i64 0, .int .i64 0, .int .i64 0, .bool reset]) w) := by
  go_enter Tryz.func19, Tryz.ntmps19
  go_wp2
  refine bodyPost_ret (res_clean13 rfl ?_) rfl ⟨rfl, ?_⟩
  · exact heap_alloc' (heap_new_at (w.alloc _) _ _ (by simp [World.size_alloc])) _
  · repeat (first | with_reducible exact Grew.refl _ | apply Grew.more | apply Grew.alloc | apply Grew.drew | apply Grew.drewN)
set_option maxHeartbeats 4000000 in
theorem clean13_2 (id kd par r0 r1 r2 r3 r4 r5 r6 r7 : Int) (af ap : Option Addr) (nf cf np cp : Nat) (reset : Bool) (w : World) : Calls Tryz.prog 19 #[.agg #[.int .i64 2, .int .i64 id, .int .i64 kd, .slice af nf cf, .slice ap np cp, .int .i64 par, .int .i64 r0, .int .i64 r1, .int .i64 r2, .int .i64 r3, .int .i64 r4, .int .i64 r5, .int .i64 r6, .int .i64 r7, .bool reset]] w (Gives (.agg #[.int .i64 2, .int .i64 id, .int .i64 kd, .slice af nf cf, .slice ap np cp, .int .i64 par, .int .i64 r0, .int .i64 r1, .int .i64 r2, .int .i64 r3, .int .i64 r4, .int .i64 r5, .int .i64 r6, .int .i64 r7, .bool false]) w) := by
  go_enter Tryz.func19, Tryz.ntmps19
  go_wp2
  refine bodyPost_ret (res_clean13 rfl ?_) rfl ⟨rfl, ?_⟩
  · exact heap_alloc' (heap_new_at (w.alloc _) _ _ (by simp [World.size_alloc])) _
  · repeat (first | with_reducible exact Grew.refl _ | apply Grew.more | apply Grew.alloc | apply Grew.drew | apply Grew.drewN)
set_option maxHeartbeats 4000000 in
theorem clean13_3 (id kd par r0 r1 r2 r3 r4 r5 r6 r7 : Int) (af ap : Option Addr) (nf cf np cp : Nat) (reset : Bool) (w : World) : Calls Tryz.prog 19 #[.agg #[.int .i64 3, .int .i64 id, .int .i64 kd, .slice af nf cf, .slice ap np cp, .int .i64 par, .int .i64 r0, .int .i64 r1, .int .i64 r2, .int .i64 r3, .int .i64 r4, .int .i64 r5, .int .i64 r6, .int .i64 r7, .bool reset]] w (Gives (.agg #[.int .i64 3, .int .i64 id, .int .i64 0, .slice none 0 0, .slice none 0 0, .int .i64 0, .int .i64 0, .int .i64 0, .int .i64 0, .int .i64 0, .int .i64 0, .int .i64 0, .int .i64 0, .int .i64 0, .bool false]) w) := by
  go_enter Tryz.func19, Tryz.ntmps19
  go_wp2
  refine bodyPost_ret (res_clean13 rfl ?_) rfl ⟨rfl, ?_⟩
  · exact heap_alloc' (heap_new_at (w.alloc _) _ _ (by simp [World.size_alloc])) _
  · repeat (first | with_reducible exact Grew.refl _ | apply Grew.more | apply Grew.alloc | apply Grew.drew | apply Grew.drewN)
set_option maxHeartbeats 4000000 in
theorem clean13_4 (id kd par r0 r1 r2 r3 r4 r5 r6 r7 : Int) (af ap : Option Addr) (nf cf np cp : Nat) (reset : Bool) (w : World) : Calls Tryz.prog 19 #[.agg #[.int .i64 4, .int .i64 id, .int .i64 kd, .slice af nf cf, .slice ap np cp, .int .i64 par, .int .i64 r0, .int .i64 r1, .int .i64 r2, .int .i64 r3, .int .i64 r4, .int .i64 r5, .int .i64 r6, .int .i64 r7, .bool reset]] w (Gives (.agg #[.int .i64 4, .int .i64 id, .int .i64 0, .slice none 0 0, .slice none 0 0, .int .i64 par, .int .i64 r0, .int .i64 r1, .int .i64 r2, .int .i64 r3, .int .i64 r4, .int .i64 r5, .int .i64 r6, .int .i64 r7, .bool false]) w) := by
  go_enter Tryz.func19, Tryz.ntmps19
  go_upto_region 9 with fail
  go_region
  all_goals
    go_wp2
    refine bodyPost_ret (res_clean13 rfl ?_) rfl ⟨rfl, ?_⟩
    · exact heap_alloc' (heap_new_at (w.alloc _) _ _ (by simp [World.size_alloc])) _
    · repeat (first | with_reducible exact Grew.refl _ | apply Grew.more | apply Grew.alloc | apply Grew.drew | apply Grew.drewN)
set_option maxHeartbeats 4000000 in
theorem clean13_5 (id kd par r0 r1 r2 r3 r4 r5 r6 r7 : Int) (af ap : Option Addr) (nf cf np cp : Nat) (reset : Bool) (w : World) : Calls Tryz.prog 19 #[.agg #[.int .i64 5, .int .i64 id, .int .i64 kd, .slice af nf cf, .slice ap np cp, .int .i64 par, .int .i64 r0, .int .i64 r1, .int .i64 r2, .int .i64 r3, .int .i64 r4, .int .i64 r5, .int .i64 r6, .int .i64 r7, .bool reset]] w (Gives (.agg #[.int .i64 5, .int .i64 id, .int .i64 0, .slice af nf cf, .slice none 0 0, .int .i64 0, .int .i64 0, .int .i64 0, .int .i64 0, .int .i64 0, .int .i64 0, .int .i64 0, .int .i64 0, .int .i64 0, .bool false]) w) := by
  go_enter Tryz.func19, Tryz.ntmps19
  go_wp2
  refine bodyPost_ret (res_clean13 rfl ?_) rfl ⟨rfl, ?_⟩
  · exact heap_alloc' (heap_new_at (w.alloc _) _ _ (by simp [World.size_alloc])) _
  · repeat (first | with_reducible exact Grew.refl _ | apply Grew.more | apply Grew.alloc | apply Grew.drew | apply Grew.drewN)
theorem clean13_any (c : StC) (w : World) (hk : 1 ≤ c.kind ∧ c.kind ≤ 5) : Calls Tryz.prog 19 #[.agg #[.int .i64 c.kind, .int .i64 c.c.id, .int .i64 c.c.kind, .slice c.c.af c.c.nf c.c.cf, .slice c.c.ap c.c.np c.c.cp, .int .i64 c.c.par, .int .i64 c.c.r0, .int .i64 c.c.r1, .int .i64 c.c.r2, .int .i64 c.c.r3, .int .i64 c.c.r4, .int .i64 c.c.r5, .int .i64 c.c.r6, .int .i64 c.c.r7, .bool c.reset]] w (Gives (.agg #[.int .i64 (cleanC c).kind, .int .i64 (cleanC c).c.id, .int .i64 (cleanC c).c.kind, .slice (cleanC c).c.af (cleanC c).c.nf (cleanC c).c.cf, .slice (cleanC c).c.ap (cleanC c).c.np (cleanC c).c.cp, .int .i64 (cleanC c).c.par, .int .i64 (cleanC c).c.r0, .int .i64 (cleanC c).c.r1, .int .i64 (cleanC c).c.r2, .int .i64 (cleanC c).c.r3, .int .i64 (cleanC c).c.r4, .int .i64 (cleanC c).c.r5, .int .i64 (cleanC c).c.r6, .int .i64 (cleanC c).c.r7, .bool (cleanC c).reset]) w) := by
  obtain ⟨kind, ⟨id, kd, af, nf, cf, ap, np, cp, par, r0, r1, r2, r3, r4, r5, r6, r7⟩, reset⟩ := c
  simp only at hk
  rcases (show kind = 1 ∨ kind = 2 ∨ kind = 3 ∨ kind = 4 ∨ kind = 5 by omega) with rfl | rfl | rfl | rfl | rfl
  · exact clean13_1 id kd par r0 r1 r2 r3 r4 r5 r6 r7 af ap nf cf np cp reset w
  · exact clean13_2 id kd par r0 r1 r2 r3 r4 r5 r6 r7 af ap nf cf np cp reset w
  · exact clean13_3 id kd par r0 r1 r2 r3 r4 r5 r6 r7 af ap nf cf np cp reset w
  · exact clean13_4 id kd par r0 r1 r2 r3 r4 r5 r6 r7 af ap nf cf np cp reset w
  · exact clean13_5 id kd par r0 r1 r2 r3 r4 r5 r6 r7 af ap nf cf np cp reset w
end Go.Proofs.YtangapokicnfgaaGreat
