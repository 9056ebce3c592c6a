import Derived.Test.YtmdmbimfdpngaaaGreatMs21
import Derived.Test.YtmdmbimfdpngaaaGreatMs22
import Derived.ChangeKeysEq
import Derived.Test.YtmdmbimfdpngaaaGreatMs6
import Derived.Test.YtmdmbimfdpngaaaGreatMs9
import Derived.Test.YtmdmbimfdpngaaaGreatMs12
import Derived.Deep.LoopGhost
import Derived.Deep.DeepCutAuto
import Derived.Deep.QuietTactic
import Derived.BigQuiet
import Derived.Test.YtmdmbimfdpngaaaGreatMs20
import Derived.Test.YtmdmbimfdpngaaaGreatMs11
/-! Right graphs: the nodes by their numbers. -/
namespace Go.Proofs.YtmdmbimfdpngaaaGreat
set_option linter.unusedSimpArgs false
set_option linter.unusedVariables false
open Go.RowKit Ga
set_option maxRecDepth 100000

theorem right_norm {g : List Gr.Nd} (h : Gr.RightR g) : Gr.RightR (Gr.normG g) := h.perm (Gr.normG_perm h.ids h.r7).symm
theorem right_par {g : List Gr.Nd} (h : Gr.RightR g) : ∀ n ∈ g, (1 ≤ n.par ∧ n.par ≤ 3) ∧ ∀ t ∈ n.route, 0 ≤ t ∧ t < n.par := fun n hn => by
  obtain ⟨i, hi, e⟩ := List.mem_iff_getElem.1 hn
  have := h.ok i n (by rw [List.getElem?_eq_getElem hi, e])
  exact ⟨⟨this.pr1, this.pr3⟩, this.rt⟩
theorem nodeOf_norm {g : List Gr.Nd} (h : Gr.RightR g) (x : Int) : Gr.nodeOf (Gr.normG g) x = Gr.nodeOf g x := by
  have hp := Gr.normG_perm h.ids h.r7
  exact Gr.bind_perm hp ((Gr.perm_ids hp).nodup_iff.2 h.ids) x
theorem checkR_pos {g : List Gr.Nd} (h : ¬ Gr.RightR g) : (checkR g != 0) = true := by
  by_cases h8 : g.length ≤ 8
  · rw [checkR_bad h8 h]; rfl
  · rw [checkR_long (by omega)]; rfl
theorem checkR_nil {g : List Gr.Nd} (h : Gr.RightR g) : checkR g = 0 := checkR_ok h.len h
theorem normR_any (v : Value) (g : List Gr.Nd) (w : World) (hv : NodesAt w v g) (hs : Small g) (h : Gr.RightR g) : Calls Tryz.prog 34 #[v] w (fun e w' => ∃ v', e = .returned v' ∧ NodesAt w' v' (Gr.normG g) ∧ Grew w w') := by
  refine (norm_any v g w hv hs (by have := h.len; omega)).mono ?_
  rintro e w' ⟨v', lc, l', rfl, h1, h2, h3, h4, gw⟩
  obtain rfl := Gr.norm_unique h3 h4 h.ids h.r7
  exact ⟨v', rfl, h2.at h1, gw⟩
theorem small_norm {g : List Gr.Nd} (h : Gr.RightR g) (hs : Small g) : Small (Gr.normG g) := fun n hn => hs n ((Gr.normG_mem h.ids h.r7 n).1 hn)
/-- .. in memory of the call's own -/
theorem normO_any (v : Value) (g : List Gr.Nd) (w : World) (hv : NodesAt w v g) (hs : Small g) (h : Gr.RightR g) : Calls Tryz.prog 34 #[v] w (fun e w' => ∃ v' lc, e = .returned v' ∧ NodesOwn w.heap.size w' v' lc ∧ NodesIn w.heap.size w' lc (Gr.normG g) ∧ Grew w w') := by
  refine (norm_any v g w hv hs (by have := h.len; omega)).mono ?_
  rintro e w' ⟨v', lc, l', rfl, h1, h2, h3, h4, gw⟩
  obtain rfl := Gr.norm_unique h3 h4 h.ids h.r7
  exact ⟨v', lc, rfl, h1, h2, gw⟩
/-- nodes in memory from a block on -/
def NodesV (base : Nat) (g : List Gr.Nd) (v : Value) (w : World) : Prop := ∃ a c lc, v = .slice a g.length c ∧ NodesOwn base w v lc ∧ NodesIn base w lc g
theorem NodesV.keep {base : Nat} {g : List Gr.Nd} {v : Value} {w w' : World} (h : NodesV base g v w) (hk : ∀ b, base ≤ b → b < w.heap.size → w'.heap[b]? = w.heap[b]?) : NodesV base g v w' := by
  obtain ⟨a, c, lc, h1, h2, h3⟩ := h
  refine ⟨a, c, lc, h1, OwnAt.same h2 fun b hb => ?_, Rel.mono (fun c n ⟨q1, q2⟩ => ?_) h3⟩
  · obtain ⟨q, cs, hc⟩ := OwnAt.block h2 hb
    exact hk b q (heap_lt hc)
  · have q3 := q2.to hk
    exact ⟨q3.is q1, q3⟩
theorem NodesV.st (base : Nat) (g : List Gr.Nd) : ∀ v w w', NodesV base g v w → Grew w w' → NodesV base g v w' := fun _ _ _ h q => h.keep fun b _ hb => q.below.block b hb
theorem NodesV.low {base base' : Nat} {g : List Gr.Nd} {v : Value} {w : World} (h : NodesV base g v w) (hb : base' ≤ base) : NodesV base' g v w := by
  obtain ⟨a, c, lc, h1, h2, h3⟩ := h
  exact ⟨a, c, lc, h1, OwnAt.low h2 hb, Rel.mono (fun c n ⟨q1, q2⟩ => ⟨q1, q2.low hb⟩) h3⟩
theorem NodesV.at' {base : Nat} {g : List Gr.Nd} {v : Value} {w : World} (h : NodesV base g v w) : NodesAt w v g := by
  obtain ⟨a, c, lc, h1, h2, h3⟩ := h
  exact h3.at h2
end Go.Proofs.YtmdmbimfdpngaaaGreat

/-! Entries that are not one. -/
namespace Go.Proofs.YtmdmbimfdpngaaaGreat
set_option linter.unusedSimpArgs false
set_option linter.unusedVariables false
open Go.RowKit Ga
set_option maxRecDepth 100000

theorem arr2_eq (d : Nat) (a b c e a' b' c' e' : Int) (w : World) : (Op.equalIn (d + 4) 45 (.agg #[.int .i64 a, .int .i64 b, .int .i64 c, .int .i64 e]) (.agg #[.int .i64 a', .int .i64 b', .int .i64 c', .int .i64 e'])).run Tryz.prog w = .ok (decide (a = a' ∧ b = b' ∧ c = c' ∧ e = e')) w := by
  obtain ⟨i, hi, _⟩ := info_parts infoCV
  have h0 := run_equalIn_array (P := Tryz.prog) (w := w) (d + 3) #[.int .i64 a, .int .i64 b, .int .i64 c, .int .i64 e] #[.int .i64 a', .int .i64 b', .int .i64 c', .int .i64 e'] Tryz.underlying45 hi
  rw [h0, show List.range 2 = [0, 1] from rfl, cellsCV]
  simp [Op.eqItems, go_sem, Tryz.underlying44, Tryz.underlying3]
  by_cases h1 : a = a' <;> by_cases h2 : b = b' <;> by_cases h3 : c = c' <;> by_cases h4 : e = e' <;> simp [h1, h2, h3, h4]
theorem run_neq_Ens (nd ky p0 q0 p1 q1 nd' ky' p0' q0' p1' q1' : Int) (r : Bool) (h : (!(decide (nd = nd' ∧ ky = ky' ∧ p0 = p0' ∧ q0 = q0' ∧ p1 = p1' ∧ q1 = q1'))) = r) (w : World) : (binOp .neq 47 (.agg #[.int .i64 nd, .int .i64 ky, .int .i64 p0, .int .i64 q0, .int .i64 p1, .int .i64 q1]) (.agg #[.int .i64 nd', .int .i64 ky', .int .i64 p0', .int .i64 q0', .int .i64 p1', .int .i64 q1'])).run Tryz.prog w = .ok (.bool r) w := by
  subst h
  simp [go_sem, arr2_eq, Tryz.underlying47, Tryz.underlying3]
  by_cases h0 : nd = nd' <;> by_cases h1 : ky = ky' <;> by_cases h2 : p0 = p0' <;> by_cases h3 : q0 = q0' <;> by_cases h4 : p1 = p1' <;> by_cases h5 : q1 = q1' <;> simp [h0, h1, h2, h3, h4, h5]
end Go.Proofs.YtmdmbimfdpngaaaGreat

/-! slices.Equal at numbers and at instructions. -/
namespace Go.Proofs.YtmdmbimfdpngaaaGreat
set_option linter.unusedSimpArgs false
set_option linter.unusedVariables false
open Go.RowKit Ga
set_option maxRecDepth 100000

set_option maxHeartbeats 4000000 in
theorem eqInts_any (v u : Value) (l m : List Int) (w : World) (hv : IntsAt w v l) (hu : IntsAt w u m) : Calls Tryz.prog 62 #[v, u] w (Gives (.bool (decide (l = m))) w) := by
  have HV := Lib.hid hv
  have HU := Lib.hid hu
  obtain ⟨a, cap, rfl, hm, -⟩ := ints_open hv
  obtain ⟨a2, cap2, rfl, hm2, -⟩ := ints_open hu
  clear hv hu
  by_cases hlen : l.length = m.length
  · have hD2 : ((l.length : Int) != (m.length : Int)) = false := by rw [hlen]; simp
    have HLEN := Lib.hid hlen
    clear hlen
    go_enter Tryz.func62, Tryz.ntmps62
    go_wp2
    go_loopg [13] l.length (fun gg s13 wr => ∃ g : Nat, g ≤ l.length ∧ l.length - g ≤ gg ∧ s13 = .int .i64 g ∧ Hid (Grew w wr) ∧ Hid (l.take g = m.take g))
    case atStart => exact ⟨0, by omega, by omega, rfl, Lib.hid (by repeat (first | with_reducible exact Grew.refl _ | apply Grew.more | apply Grew.alloc | apply Grew.drew | apply Grew.drewN)), Lib.hid rfl⟩
    case round =>
      obtain ⟨g, hg8, hgg, rfl, HGR, HNO⟩ := hrel
      by_cases hlt : g < l.length
      · have hlt2 : g < m.length := by have := HLEN.out; omega
        obtain ⟨av, cv, e, -, hx⟩ := ints_open (HV.out.grew HGR.out)
        cases e
        obtain ⟨av2, cv2, e, -, hx2⟩ := ints_open (HU.out.grew HGR.out)
        cases e
        obtain ⟨b, off, rfl, hb, cx⟩ := hx g hlt
        obtain ⟨b2, off2, rfl, hb2, dx⟩ := hx2 g hlt2
        have hs := take_eq_succ hlt hlt2 HNO.out
        have hf := neq_at hlt hlt2
        have HS := Lib.hid hs
        have HF := Lib.hid hf
        clear hx hx2 hs hf
        generalize l[g] = x at *
        generalize m[g] = y at *
        by_cases hr : x = y
        · cases hr
          go_upto_region 6 with fail
          go_quiet (fail)
          go_wp2
          go_roundg (l.length - (g + 1))
          case measure => omega
          case rel => exact ⟨g + 1, by omega, by omega, by go_num, Lib.hid (HGR.out.trans (by repeat (first | with_reducible exact Grew.refl _ | apply Grew.more | apply Grew.alloc | apply Grew.drew | apply Grew.drewN))), Lib.hid (HS.out (by first | exact rfl | trivial))⟩
        · have HR := Lib.hid hr
          have hfin : decide (l = m) = false := decide_eq_false (HF.out hr)
          have HFIN := Lib.hid hfin
          have hne : (x != y) = true := by rw [bne_iff_ne]; exact hr
          clear hr hfin
          go_upto_region 6 with fail
          go_quiet (fail)
          go_wp2
          go_ret
          exact ⟨by rw [HFIN.out]; rfl, HGR.out.trans (by repeat (first | with_reducible exact Grew.refl _ | apply Grew.more | apply Grew.alloc | apply Grew.drew | apply Grew.drewN))⟩
      · obtain rfl : g = l.length := by omega
        have hz := HNO.out
        rw [List.take_length, List.take_of_length_le (by have := HLEN.out; omega)] at hz
        have hfin : decide (l = m) = true := decide_eq_true hz
        have HFIN := Lib.hid hfin
        clear hz hfin
        go_wp2
        go_ret
        exact ⟨by rw [HFIN.out]; rfl, HGR.out⟩
  · have hD2 : ((l.length : Int) != (m.length : Int)) = true := by rw [bne_iff_ne]; omega
    have hfin : decide (l = m) = false := decide_eq_false fun h => hlen (by rw [h])
    have HFIN := Lib.hid hfin
    clear hfin hlen
    go_enter Tryz.func62, Tryz.ntmps62
    go_wp2
    go_ret
    exact ⟨by rw [HFIN.out]; rfl, by repeat (first | with_reducible exact Grew.refl _ | apply Grew.more | apply Grew.alloc | apply Grew.drew | apply Grew.drewN)⟩
set_option maxHeartbeats 4000000 in
theorem eqVals_any (v u : Value) (l m : List Val) (w : World) (hv : ValsAt w v l) (hu : ValsAt w u m) : Calls Tryz.prog 121 #[v, u] w (Gives (.bool (decide (l = m))) w) := by
  have HV := Lib.hid hv
  have HU := Lib.hid hu
  obtain ⟨a, cap, rfl, hm, -⟩ := hv.open2
  obtain ⟨a2, cap2, rfl, hm2, -⟩ := hu.open2
  clear hv hu
  by_cases hlen : l.length = m.length
  · have hD2 : ((l.length : Int) != (m.length : Int)) = false := by rw [hlen]; simp
    have HLEN := Lib.hid hlen
    clear hlen
    go_enter Tryz.func121, Tryz.ntmps121
    go_wp2
    go_loopg [13] l.length (fun gg s13 wr => ∃ g : Nat, g ≤ l.length ∧ l.length - g ≤ gg ∧ s13 = .int .i64 g ∧ Hid (Grew w wr) ∧ Hid (l.take g = m.take g))
    case atStart => exact ⟨0, by omega, by omega, rfl, Lib.hid (by repeat (first | with_reducible exact Grew.refl _ | apply Grew.more | apply Grew.alloc | apply Grew.drew | apply Grew.drewN)), Lib.hid rfl⟩
    case round =>
      obtain ⟨g, hg8, hgg, rfl, HGR, HNO⟩ := hrel
      by_cases hlt : g < l.length
      · have hlt2 : g < m.length := by have := HLEN.out; omega
        obtain ⟨av, cv, e, -, hx⟩ := (HV.out.grew HGR.out).open2
        cases e
        obtain ⟨av2, cv2, e, -, hx2⟩ := (HU.out.grew HGR.out).open2
        cases e
        obtain ⟨b, off, rfl, hb, cx, cy⟩ := hx g hlt
        obtain ⟨b2, off2, rfl, hb2, dx, dy⟩ := hx2 g hlt2
        have hs := take_eq_succ hlt hlt2 HNO.out
        have hf := neq_at hlt hlt2
        have HS := Lib.hid hs
        have HF := Lib.hid hf
        clear hx hx2 hs hf
        generalize l[g] = x at *
        generalize m[g] = y at *
        obtain ⟨x, x'⟩ := x
        obtain ⟨y, y'⟩ := y
        simp only at cx cy dx dy
        by_cases hr : ((x, x') : Val) = (y, y')
        · cases hr
          go_upto_region 6 with fail
          go_quiet (fail)
          go_wp2
          go_roundg (l.length - (g + 1))
          case measure => omega
          case rel => exact ⟨g + 1, by omega, by omega, by go_num, Lib.hid (HGR.out.trans (by repeat (first | with_reducible exact Grew.refl _ | apply Grew.more | apply Grew.alloc | apply Grew.drew | apply Grew.drewN))), Lib.hid (HS.out (by first | exact rfl | trivial))⟩
        · have HR := Lib.hid hr
          have hfin : decide (l = m) = false := decide_eq_false (HF.out hr)
          have HFIN := Lib.hid hfin
          have hq := run_neq_ins x x' y y' true (by
            have := HR.out
            by_cases e1 : x = y <;> by_cases e2 : x' = y' <;> simp [e1, e2]
            exact this (by rw [e1, e2]))
          clear hr hfin
          go_upto_region 6 with fail
          go_quiet (fail)
          go_wp2
          go_ret
          exact ⟨by rw [HFIN.out]; rfl, HGR.out.trans (by repeat (first | with_reducible exact Grew.refl _ | apply Grew.more | apply Grew.alloc | apply Grew.drew | apply Grew.drewN))⟩
      · obtain rfl : g = l.length := by omega
        have hz := HNO.out
        rw [List.take_length, List.take_of_length_le (by have := HLEN.out; omega)] at hz
        have hfin : decide (l = m) = true := decide_eq_true hz
        have HFIN := Lib.hid hfin
        clear hz hfin
        go_wp2
        go_ret
        exact ⟨by rw [HFIN.out]; rfl, HGR.out⟩
  · have hD2 : ((l.length : Int) != (m.length : Int)) = true := by rw [bne_iff_ne]; omega
    have hfin : decide (l = m) = false := decide_eq_false fun h => hlen (by rw [h])
    have HFIN := Lib.hid hfin
    clear hfin hlen
    go_enter Tryz.func121, Tryz.ntmps121
    go_wp2
    go_ret
    exact ⟨by rw [HFIN.out]; rfl, by repeat (first | with_reducible exact Grew.refl _ | apply Grew.more | apply Grew.alloc | apply Grew.drew | apply Grew.drewN)⟩
end Go.Proofs.YtmdmbimfdpngaaaGreat

/-! slices.Equal at entries and at lines. -/
namespace Go.Proofs.YtmdmbimfdpngaaaGreat
set_option linter.unusedSimpArgs false
set_option linter.unusedVariables false
open Go.RowKit Ga
set_option maxRecDepth 100000

open Classical in
set_option maxHeartbeats 4000000 in
theorem eqEns_any (v u : Value) (l m : List Tab.En) (w : World) (hv : EntsAt w v l) (hu : EntsAt w u m) : Calls Tryz.prog 63 #[v, u] w (Gives (.bool (decide (l = m))) w) := by
  have HV := Lib.hid hv
  have HU := Lib.hid hu
  obtain ⟨a, cap, rfl, hm, -⟩ := EntsAt.open6 hv
  obtain ⟨a2, cap2, rfl, hm2, -⟩ := EntsAt.open6 hu
  clear hv hu
  by_cases hlen : l.length = m.length
  · have hD2 : ((l.length : Int) != (m.length : Int)) = false := by rw [hlen]; simp
    have HLEN := Lib.hid hlen
    clear hlen
    go_enter Tryz.func63, Tryz.ntmps63
    go_wp2
    go_loopg [13] l.length (fun gg s13 wr => ∃ g : Nat, g ≤ l.length ∧ l.length - g ≤ gg ∧ s13 = .int .i64 g ∧ Hid (Grew w wr) ∧ Hid (l.take g = m.take g))
    case atStart => exact ⟨0, by omega, by omega, rfl, Lib.hid (by repeat (first | with_reducible exact Grew.refl _ | apply Grew.more | apply Grew.alloc | apply Grew.drew | apply Grew.drewN)), Lib.hid rfl⟩
    case round =>
      obtain ⟨g, hg8, hgg, rfl, HGR, HNO⟩ := hrel
      by_cases hlt : g < l.length
      · have hlt2 : g < m.length := by have := HLEN.out; omega
        obtain ⟨av, cv, e, -, hx⟩ := EntsAt.open6 (HV.out.grew HGR.out)
        cases e
        obtain ⟨av2, cv2, e, -, hx2⟩ := EntsAt.open6 (HU.out.grew HGR.out)
        cases e
        obtain ⟨b, off, rfl, hb, c0, c1, c2, c3, c4, c5⟩ := hx g hlt
        obtain ⟨b2, off2, rfl, hb2, d0, d1, d2, d3, d4, d5⟩ := hx2 g hlt2
        have hs := take_eq_succ hlt hlt2 HNO.out
        have hf := neq_at hlt hlt2
        have HS := Lib.hid hs
        have HF := Lib.hid hf
        clear hx hx2 hs hf
        generalize l[g] = x at *
        generalize m[g] = y at *
        obtain ⟨nd, ky, ⟨p0, q0⟩, ⟨p1, q1⟩⟩ := x
        obtain ⟨nd', ky', ⟨p0', q0'⟩, ⟨p1', q1'⟩⟩ := y
        simp only at c0 c1 c2 c3 c4 c5 d0 d1 d2 d3 d4 d5
        by_cases hr : nd = nd' ∧ ky = ky' ∧ p0 = p0' ∧ q0 = q0' ∧ p1 = p1' ∧ q1 = q1'
        · obtain ⟨rfl, rfl, rfl, rfl, rfl, rfl⟩ := hr
          have hq := run_neq_Ens nd ky p0 q0 p1 q1 nd ky p0 q0 p1 q1 false (by simp)
          go_upto_region 6 with fail
          go_quiet (fail)
          go_wp2
          go_roundg (l.length - (g + 1))
          case measure => omega
          case rel => exact ⟨g + 1, by omega, by omega, by go_num, Lib.hid (HGR.out.trans (by repeat (first | with_reducible exact Grew.refl _ | apply Grew.more | apply Grew.alloc | apply Grew.drew | apply Grew.drewN))), Lib.hid (HS.out (by first | exact rfl | trivial))⟩
        · have HFIN := Lib.hid (decide_eq_false (HF.out (fun e => hr (by cases e; exact ⟨rfl, rfl, rfl, rfl, rfl, rfl⟩))))
          have hq := run_neq_Ens nd ky p0 q0 p1 q1 nd' ky' p0' q0' p1' q1' true (by rw [decide_eq_false hr]; rfl)
          clear hr
          go_upto_region 6 with fail
          go_quiet (fail)
          go_wp2
          go_ret
          exact ⟨by rw [HFIN.out]; rfl, HGR.out.trans (by repeat (first | with_reducible exact Grew.refl _ | apply Grew.more | apply Grew.alloc | apply Grew.drew | apply Grew.drewN))⟩
      · obtain rfl : g = l.length := by omega
        have hz := HNO.out
        rw [List.take_length, List.take_of_length_le (by have := HLEN.out; omega)] at hz
        have HFIN := Lib.hid (decide_eq_true hz)
        clear hz
        go_wp2
        go_ret
        exact ⟨by rw [HFIN.out]; rfl, HGR.out⟩
  · have hD2 : ((l.length : Int) != (m.length : Int)) = true := by rw [bne_iff_ne]; omega
    have HFIN := Lib.hid (decide_eq_false (fun h : l = m => hlen (by rw [h])))
    clear hlen
    go_enter Tryz.func63, Tryz.ntmps63
    go_wp2
    go_ret
    exact ⟨by rw [HFIN.out]; rfl, by repeat (first | with_reducible exact Grew.refl _ | apply Grew.more | apply Grew.alloc | apply Grew.drew | apply Grew.drewN)⟩
end Go.Proofs.YtmdmbimfdpngaaaGreat

/-! remap.Fits; pack.entries. -/
namespace Go.Proofs.YtmdmbimfdpngaaaGreat
set_option linter.unusedSimpArgs false
set_option linter.unusedVariables false
open Go.RowKit Ga
set_option maxRecDepth 100000

/-- what is kept is no operator's -/
def badE (g : List Gr.Nd) (x : Tab.En) : Bool := match Gr.nodeOf g x.node with
  | none => true
  | some n => n.kind != 1
set_option maxHeartbeats 4000000 in
theorem remFits1_any (B : Nat) (a : Option Addr) (cap : Nat) (g : List Gr.Nd) (W : World) (x : Tab.En) (hg : NodesAt W (.slice a g.length cap) g) (hs : Small g) (hB : W.cell? ⟨B, 0, none⟩ = some (.slice a g.length cap)) : Calls Tryz.prog 130 #[.agg #[.int .i64 x.node, .int .i64 x.key, .int .i64 x.c0.1, .int .i64 x.c0.2, .int .i64 x.c1.1, .int .i64 x.c1.2], .pointer (some ⟨B, 0, none⟩)] W (Gives (.bool (badE g x)) W) := by
  obtain ⟨nd, ky, ⟨p0, q0⟩, ⟨p1, q1⟩⟩ := x
  have HF := Lib.hid fun W' (h : Grew W W') => find_any _ g nd W' (hg.grew h) hs
  have pB := Pre.ofCell hB
  show Calls Tryz.prog _ #[.agg #[.int .i64 nd, .int .i64 ky, .int .i64 p0, .int .i64 q0, .int .i64 p1, .int .i64 q1], .pointer (some ⟨B, 0, none⟩)] W _
  clear hg hs
  cases hn : Gr.nodeOf g nd with
  | none =>
    have hb : badE g ⟨nd, ky, (p0, q0), (p1, q1)⟩ = true := by unfold badE; simp only; rw [hn]
    rw [hb]
    rw [hn] at HF
    clear hb hn
    go_enter Tryz.func130, Tryz.ntmps130
    go_wp2_with (go_at_call 33; refine (HF.out _ (by repeat (first | with_reducible exact Grew.refl _ | apply Grew.more | apply Grew.alloc | apply Grew.drew | apply Grew.drewN))).mono ?_; rintro e w1 ⟨rfl, R1, n1, rfl⟩)
    go_ret
    exact ⟨rfl, by repeat (first | with_reducible exact Grew.refl _ | apply Grew.more | apply Grew.alloc | apply Grew.drew | apply Grew.drewN)⟩
  | some n =>
    have hb : badE g ⟨nd, ky, (p0, q0), (p1, q1)⟩ = (n.kind != 1) := by unfold badE; simp only; rw [hn]
    rw [hb]
    rw [hn] at HF
    clear hb hn
    go_enter Tryz.func130, Tryz.ntmps130
    go_wp2_with (go_at_call 33; refine (HF.out _ (by repeat (first | with_reducible exact Grew.refl _ | apply Grew.more | apply Grew.alloc | apply Grew.drew | apply Grew.drewN))).mono ?_; rintro e w1 ⟨c, rfl, h1, -, R1, n1, rfl⟩; (have hk := h1.kind); obtain ⟨cid, kind, af, cf, ap, cp, par, r0, r1, r2, r3, r4, r5, r6, r7, rfl⟩ := h1.lit; simp only at hk; (have HKD := Lib.hid hk); clear h1 hk)
    go_ret
    exact ⟨by rw [HKD.out]; rfl, by repeat (first | with_reducible exact Grew.refl _ | apply Grew.more | apply Grew.alloc | apply Grew.drew | apply Grew.drewN)⟩
set_option maxHeartbeats 4000000 in
theorem remFits_any (W : World) (t b n : Nat) (m : List Tab.En) (v : Value) (g : List Gr.Nd) (hT : TableAt W t b n m) (hv : NodesAt W v g) (hs : Small g) : Calls Tryz.prog 98 #[.pointer (some ⟨t, 0, none⟩), v] W (Gives (.bool (!(m.any (badE g)))) W) := by
  have HA := Lib.hid fun W' (h : Grew W W') => tabAll_any W' t b n m (hT.grew h)
  have HV := Lib.hid hv
  have HS := Lib.hid hs
  obtain ⟨a, cap, rfl, -, -⟩ := hv.openC
  have HC := Lib.hid fun W' (h : Grew W W') B s u (hB : W'.cell? ⟨B, 0, none⟩ = some (.slice a g.length cap)) (hu : EntsAt W' u s) => containsEn_any B u s (badE g) W' hu fun W2 x _ g2 => remFits1_any B a cap g W2 x (hv.grew (h.trans g2)) hs (below_keeps g2.below _ _ hB)
  clear hT hv hs
  go_enter Tryz.func98, Tryz.ntmps98
  go_wp2_with (first
    | (go_at_call 46; refine (HA.out _ (by repeat (first | with_reducible exact Grew.refl _ | apply Grew.more | apply Grew.alloc | apply Grew.drew | apply Grew.drewN))).mono ?_; rintro e w1 ⟨v1, s, rfl, h1, h2, h3, R1, n1, rfl⟩; (have HE := Lib.hid (OwnAt.rows h1 encEn_len)); obtain ⟨a1, c1, rfl⟩ := HE.out.len; (have hany := h2.any_eq (f := badE g)); (have HANY := Lib.hid hany); clear h1 h2 h3 hany)
    | (go_at_call 129; refine (HC.out _ (by repeat (first | with_reducible exact Grew.refl _ | apply Grew.more | apply Grew.alloc | apply Grew.drew | apply Grew.drewN)) _ s _ (by simp [go_sem]) (HE.out.grew (by repeat (first | with_reducible exact Grew.refl _ | apply Grew.more | apply Grew.alloc | apply Grew.drew | apply Grew.drewN)))).mono ?_; rintro e w1 ⟨rfl, R2, n2, rfl⟩; rw [HANY.out]))
  go_ret
  exact ⟨rfl, by repeat (first | with_reducible exact Grew.refl _ | apply Grew.more | apply Grew.alloc | apply Grew.drew | apply Grew.drewN)⟩
open Classical in
/-- may the entries be? -/
noncomputable def entB (l : List Tab.En) (g : List Gr.Nd) : Bool := newOk l && (decide ((l.Pairwise fun a b => Tab.num a < Tab.num b) ∧ ∀ x ∈ l, Tab.nz x = true) && !(l.any (badE g)))
theorem entB_no {l : List Tab.En} {g : List Gr.Nd} (h : newOk l = false) : entB l g = false := by unfold entB; rw [h]; rfl
open Classical in
set_option maxHeartbeats 8000000 in
theorem entries_any (v u : Value) (l : List Tab.En) (g : List Gr.Nd) (w : World) (hv : EntsAt w v l) (hu : NodesAt w u g) (hs : Small g) (hl : l.length ≤ 100000) : Calls Tryz.prog 55 #[v, u] w (Gives (.bool (entB l g)) w) := by
  have HN := Lib.hid fun W (h : Grew w W) => tabNew_any _ l W (hv.grew h) hl
  have HV := Lib.hid hv
  have HU := Lib.hid hu
  obtain ⟨a, cap, rfl, -, -⟩ := EntsAt.open6 hv
  obtain ⟨a2, cap2, rfl, -, -⟩ := hu.openC
  clear hv hu
  cases hok : newOk l
  case false =>
    rw [entB_no hok]
    have HOK := Lib.hid hok
    clear hok hs
    go_enter Tryz.func55, Tryz.ntmps55
    go_wp2_with fail
    refine (HN.out _ (by repeat (first | with_reducible exact Grew.refl _ | apply Grew.more | apply Grew.alloc | apply Grew.drew | apply Grew.drewN))).mono ?_
    rintro e w1 (⟨h1, -⟩ | ⟨-, rfl, R1, n1, rfl⟩)
    · rw [HOK.out] at h1
      cases h1
    go_wp2
    go_ret
    exact ⟨rfl, by repeat (first | with_reducible exact Grew.refl _ | apply Grew.more | apply Grew.alloc | apply Grew.drew | apply Grew.drewN)⟩
  have HOK := Lib.hid hok
  by_cases hP : (l.Pairwise fun a b => Tab.num a < Tab.num b) ∧ ∀ x ∈ l, Tab.nz x = true
  case neg =>
    have hb : entB l g = false := by unfold entB; rw [hok, decide_eq_false hP]; rfl
    rw [hb]
    have HP := Lib.hid hP
    clear hok hb hP hs
    go_enter Tryz.func55, Tryz.ntmps55
    go_wp2_with fail
    refine (HN.out _ (by repeat (first | with_reducible exact Grew.refl _ | apply Grew.more | apply Grew.alloc | apply Grew.drew | apply Grew.drewN))).mono ?_
    rintro e w1 (⟨-, t, b, rfl, hT, hb1, hb2, R1, n1, rfl⟩ | ⟨h1, -⟩)
    rotate_left
    · rw [HOK.out] at h1
      cases h1
    have HT := Lib.hid hT
    clear hT
    go_wp2_with fail
    refine (tabAll_any _ t b _ _ (HT.out.grew (by repeat (first | with_reducible exact Grew.refl _ | apply Grew.more | apply Grew.alloc | apply Grew.drew | apply Grew.drewN)))).mono ?_
    rintro e w2 ⟨v1, s, rfl, h1, h2, h3, R2, n2, rfl⟩
    have HE := Lib.hid (OwnAt.rows h1 encEn_len)
    obtain ⟨a3, c3, rfl⟩ := HE.out.len
    have HNE := Lib.hid (decide_eq_false (fun e => HP.out ((Tab.all_iff h2 h3).1 e)))
    clear h1 h2 h3
    go_wp2_with (go_at_call 63; refine (eqEns_any _ _ s l _ (HE.out.grew (by repeat (first | with_reducible exact Grew.refl _ | apply Grew.more | apply Grew.alloc | apply Grew.drew | apply Grew.drewN))) (HV.out.grew (by repeat (first | with_reducible exact Grew.refl _ | apply Grew.more | apply Grew.alloc | apply Grew.drew | apply Grew.drewN)))).mono ?_; rintro e w1 ⟨rfl, R3, n3, rfl⟩; rw [HNE.out])
    go_ret
    exact ⟨rfl, by repeat (first | with_reducible exact Grew.refl _ | apply Grew.more | apply Grew.alloc | apply Grew.drew | apply Grew.drewN)⟩
  have hany : (Tab.newT l).any (badE g) = l.any (badE g) := by rw [Tab.newT_rev l hP.1 hP.2, List.any_reverse]
  have hb : entB l g = !(l.any (badE g)) := by unfold entB; rw [hok, decide_eq_true hP]; rfl
  rw [hb]
  have HP := Lib.hid hP
  have HANY := Lib.hid hany
  clear hok hb hP hany
  go_enter Tryz.func55, Tryz.ntmps55
  go_wp2_with fail
  refine (HN.out _ (by repeat (first | with_reducible exact Grew.refl _ | apply Grew.more | apply Grew.alloc | apply Grew.drew | apply Grew.drewN))).mono ?_
  rintro e w1 (⟨-, t, b, rfl, hT, hb1, hb2, R1, n1, rfl⟩ | ⟨h1, -⟩)
  rotate_left
  · rw [HOK.out] at h1
    cases h1
  have HT := Lib.hid hT
  have HS := Lib.hid hs
  clear hT hs
  go_wp2_with fail
  refine (tabAll_any _ t b _ _ (HT.out.grew (by repeat (first | with_reducible exact Grew.refl _ | apply Grew.more | apply Grew.alloc | apply Grew.drew | apply Grew.drewN)))).mono ?_
  rintro e w2 ⟨v1, s, rfl, h1, h2, h3, R2, n2, rfl⟩
  have HE := Lib.hid (OwnAt.rows h1 encEn_len)
  obtain ⟨a3, c3, rfl⟩ := HE.out.len
  have HNE := Lib.hid (decide_eq_true ((Tab.all_iff h2 h3).2 HP.out))
  clear h1 h2 h3
  go_wp2_with (first
    | (go_at_call 63; refine (eqEns_any _ _ s l _ (HE.out.grew (by repeat (first | with_reducible exact Grew.refl _ | apply Grew.more | apply Grew.alloc | apply Grew.drew | apply Grew.drewN))) (HV.out.grew (by repeat (first | with_reducible exact Grew.refl _ | apply Grew.more | apply Grew.alloc | apply Grew.drew | apply Grew.drewN)))).mono ?_; rintro e w1 ⟨rfl, R3, n3, rfl⟩; rw [HNE.out])
    | (go_at_call 98; refine (remFits_any _ t b _ _ _ g (HT.out.grew (by repeat (first | with_reducible exact Grew.refl _ | apply Grew.more | apply Grew.alloc | apply Grew.drew | apply Grew.drewN))) (HU.out.grew (by repeat (first | with_reducible exact Grew.refl _ | apply Grew.more | apply Grew.alloc | apply Grew.drew | apply Grew.drewN))) HS.out).mono ?_; rintro e w1 ⟨rfl, R4, n4, rfl⟩; rw [HANY.out]))
  go_ret
  exact ⟨rfl, by repeat (first | with_reducible exact Grew.refl _ | apply Grew.more | apply Grew.alloc | apply Grew.drew | apply Grew.drewN)⟩
end Go.Proofs.YtmdmbimfdpngaaaGreat
