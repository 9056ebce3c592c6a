import Derived.Test.YtlgbipfpnfphjaaGreatDoorGb16
import Derived.Test.YtlgbipfpnfphjaaGreatDoorGb14
/-! lines: routes and places; fits. -/
namespace Go.Proofs.YtlgbipfpnfphjaaGreatDoor
set_option linter.unusedSimpArgs false
set_option linter.unusedVariables false
open Go.RowKit Ga
set_option maxRecDepth 100000

theorem rt3_eq (r : List Int) : Li.rt3 r = rtB 3 r := by
  unfold Li.rt3 rtB
  simp
theorem rtx_eq (r : List Int) : Li.rtx r = rtxt r := rfl
/-- the array of a route that is read, letter by letter -/
def rk (l : List Int) (k : Nat) : Array Value := ((l.take k ++ List.replicate (8 - k) 0).map (Value.int .i64)).toArray
theorem rk_at (y0 y1 y2 y3 y4 y5 y6 y7 : Int) (k : Nat) (hk : k < 8) : (rk [y0, y1, y2, y3, y4, y5, y6, y7] k)[k]? = some (.int .i64 0) ∧ (rk [y0, y1, y2, y3, y4, y5, y6, y7] k).setIfInBounds k (.int .i64 ([y0, y1, y2, y3, y4, y5, y6, y7].getD k 0)) = rk [y0, y1, y2, y3, y4, y5, y6, y7] (k + 1) := by
  rcases (show k = 0 ∨ k = 1 ∨ k = 2 ∨ k = 3 ∨ k = 4 ∨ k = 5 ∨ k = 6 ∨ k = 7 by omega) with rfl | rfl | rfl | rfl | rfl | rfl | rfl | rfl <;> exact ⟨rfl, rfl⟩
theorem idx8b (b0 b1 b2 b3 b4 b5 b6 b7 : UInt8) (k : Nat) (hk : k < 8) (w : World) : (Instr.index 9 (.string ⟨#[b0, b1, b2, b3, b4, b5, b6, b7]⟩) (.int .i64 k)).run Tryz.prog w = .ok (.int .u8 ([b0, b1, b2, b3, b4, b5, b6, b7].getD k 0).toNat) w := by
  rcases (show k = 0 ∨ k = 1 ∨ k = 2 ∨ k = 3 ∨ k = 4 ∨ k = 5 ∨ k = 6 ∨ k = 7 by omega) with rfl | rfl | rfl | rfl | rfl | rfl | rfl | rfl <;> kernel_rfl
theorem getD8 (b0 b1 b2 b3 b4 b5 b6 b7 : UInt8) (k : Nat) (hk : k < 8) : (([b0, b1, b2, b3, b4, b5, b6, b7].getD k 0).toNat : Int) - 48 = ([b0, b1, b2, b3, b4, b5, b6, b7].map Li.rbP).getD k 0 := by
  rcases (show k = 0 ∨ k = 1 ∨ k = 2 ∨ k = 3 ∨ k = 4 ∨ k = 5 ∨ k = 6 ∨ k = 7 by omega) with rfl | rfl | rfl | rfl | rfl | rfl | rfl | rfl <;> rfl
abbrev ag8 (l : List Int) : Value := .agg #[.int .i64 (l.getD 0 0), .int .i64 (l.getD 1 0), .int .i64 (l.getD 2 0), .int .i64 (l.getD 3 0), .int .i64 (l.getD 4 0), .int .i64 (l.getD 5 0), .int .i64 (l.getD 6 0), .int .i64 (l.getD 7 0)]
def routeC (s : List UInt8) : Int := if s.length = 8 ∧ Li.rt3 (s.map Li.rbP) = true then 0 else 4
set_option maxHeartbeats 16000000 in
theorem routeParse8 (b0 b1 b2 b3 b4 b5 b6 b7 : UInt8) (w : World) : Calls Tryz.prog 126 #[.string ⟨#[b0, b1, b2, b3, b4, b5, b6, b7]⟩] w (Gives (.tuple #[ag8 (Li.routeP [b0, b1, b2, b3, b4, b5, b6, b7]), .int .i64 (routeC [b0, b1, b2, b3, b4, b5, b6, b7])]) w) := by
  have HIX := Lib.hid (idx8b b0 b1 b2 b3 b4 b5 b6 b7)
  have HGD := Lib.hid (getD8 b0 b1 b2 b3 b4 b5 b6 b7)
  have hR : Li.routeP [b0, b1, b2, b3, b4, b5, b6, b7] = if rtB 3 ([b0, b1, b2, b3, b4, b5, b6, b7].map Li.rbP) = true then [b0, b1, b2, b3, b4, b5, b6, b7].map Li.rbP else Gr.zeros := by
    unfold Li.routeP
    rw [rt3_eq]
    simp
  have hC : routeC [b0, b1, b2, b3, b4, b5, b6, b7] = if rtB 3 ([b0, b1, b2, b3, b4, b5, b6, b7].map Li.rbP) = true then 0 else 4 := by
    unfold routeC
    rw [rt3_eq]
    simp
  rw [hR, hC]
  clear hR hC
  have hy : [b0, b1, b2, b3, b4, b5, b6, b7].map Li.rbP = [Li.rbP b0, Li.rbP b1, Li.rbP b2, Li.rbP b3, Li.rbP b4, Li.rbP b5, Li.rbP b6, Li.rbP b7] := rfl
  rw [hy] at HGD ⊢
  clear hy
  generalize Li.rbP b0 = y0 at *
  generalize Li.rbP b1 = y1 at *
  generalize Li.rbP b2 = y2 at *
  generalize Li.rbP b3 = y3 at *
  generalize Li.rbP b4 = y4 at *
  generalize Li.rbP b5 = y5 at *
  generalize Li.rbP b6 = y6 at *
  generalize Li.rbP b7 = y7 at *
  have HRK := Lib.hid (rk_at y0 y1 y2 y3 y4 y5 y6 y7)
  have hrt := fun W => routeRight_any 3 y0 y1 y2 y3 y4 y5 y6 y7 W
  cases hq : rtB 3 [y0, y1, y2, y3, y4, y5, y6, y7]
  case' false => rw [if_neg (by simp), if_neg (by simp)]
  case' true => rw [if_pos rfl, if_pos rfl]
  all_goals
    simp only [hq] at hrt
    have HRT := Lib.hid hrt
    clear hrt hq
    go_enter Tryz.func126, Tryz.ntmps126
    go_wp2
    go_loopg [10] 8 (fun gg s10 wr => ∃ k : Nat, k ≤ 8 ∧ 8 - k ≤ gg ∧ s10 = .int .i64 k ∧ Hid (Grew w wr) ∧ Hid (wr.heap[w.heap.size]? = some (.cells z8 47)) ∧ Hid (wr.heap[w.heap.size + 1]? = some (.cells (rk [y0, y1, y2, y3, y4, y5, y6, y7] k) 47)))
    case atStart => exact ⟨0, by omega, by omega, rfl, Lib.hid (by repeat (first | with_reducible exact Grew.refl _ | apply Grew.more | apply Grew.alloc | apply Grew.drew | apply Grew.drewN)), Lib.hid (heap_alloc' (heap_new_at w _ _ rfl) _), Lib.hid (heap_new_at _ _ _ (by simp [World.size_alloc]))⟩
    case round =>
      obtain ⟨k, hk, hgg, rfl, HG, HA, HB⟩ := hrel
      rename World => wa
      by_cases hlt : k < 8
      · have hi := HIX.out k hlt
        obtain ⟨k1, k2⟩ := HRK.out k hlt
        have hgd := HGD.out k hlt
        have hc := (cell_of (o := k) HB.out).trans k1
        have hf := frozen_of (o := k) HB.out
        have hp := Pre.mk (heap_lt HB.out)
        have hb8 : ([b0, b1, b2, b3, b4, b5, b6, b7].getD k 0).toNat < 256 := UInt8.toNat_lt _
        have K2 := Lib.hid k2
        have HGD2 := Lib.hid hgd
        clear k1 k2 hgd
        generalize ([b0, b1, b2, b3, b4, b5, b6, b7].getD k 0).toNat = bv at *
        go_wp2
        go_roundg (8 - (k + 1))
        case measure => omega
        case rel =>
          refine ⟨k + 1, by omega, by omega, by go_num, Lib.hid (Grew.set HG.out (by omega) _), Lib.hid ?_, Lib.hid ?_⟩
          · rw [set_other (by omega)]
            exact HA.out
          · rw [set_self HB.out, ← K2.out, ← HGD2.out]
            try rfl
      · obtain rfl : k = 8 := by omega
        have a0 := cell_of (o := 0) HA.out
        have a1 := cell_of (o := 1) HA.out
        have a2 := cell_of (o := 2) HA.out
        have a3 := cell_of (o := 3) HA.out
        have a4 := cell_of (o := 4) HA.out
        have a5 := cell_of (o := 5) HA.out
        have a6 := cell_of (o := 6) HA.out
        have a7 := cell_of (o := 7) HA.out
        have b0 := cell_of (o := 0) HB.out
        have b1 := cell_of (o := 1) HB.out
        have b2 := cell_of (o := 2) HB.out
        have b3 := cell_of (o := 3) HB.out
        have b4 := cell_of (o := 4) HB.out
        have b5 := cell_of (o := 5) HB.out
        have b6 := cell_of (o := 6) HB.out
        have b7 := cell_of (o := 7) HB.out
        simp [z8] at a0 a1 a2 a3 a4 a5 a6 a7
        simp [rk] at b0 b1 b2 b3 b4 b5 b6 b7
        have f0 := frozen_of (o := 0) HA.out
        have f1 := frozen_of (o := 1) HA.out
        have f2 := frozen_of (o := 2) HA.out
        have f3 := frozen_of (o := 3) HA.out
        have f4 := frozen_of (o := 4) HA.out
        have f5 := frozen_of (o := 5) HA.out
        have f6 := frozen_of (o := 6) HA.out
        have f7 := frozen_of (o := 7) HA.out
        have pa := Pre.mk (heap_lt HA.out)
        have pb := Pre.mk (heap_lt HB.out)
        go_wp2_with (go_at_call 143; refine (HRT.out _).mono ?_; rintro e w1 ⟨rfl, R1, n1, rfl⟩)
        refine bodyPost_ret (v := .tuple #[_, _]) (by simp [results, Tryz.results126, go_sem, pa, a0, a1, a2, a3, a4, a5, a6, a7]; try decide) rfl ⟨rfl, ?_⟩
        repeat (first | with_reducible exact HG.out | with_reducible apply Grew.more | with_reducible apply Grew.alloc | refine Grew.set ?_ (by omega) _)
theorem routeP_len {s : List UInt8} (h : s.length ≠ 8) : Li.routeP s = Gr.zeros := by unfold Li.routeP; rw [if_neg (fun q => h q.1)]
set_option maxHeartbeats 8000000 in
theorem routeParse_any (s : List UInt8) (hs : s.length ≤ 1000000) (w : World) : Calls Tryz.prog 126 #[.string ⟨s.toArray⟩] w (Gives (.tuple #[ag8 (Li.routeP s), .int .i64 (routeC s)]) w) := by
  by_cases h8 : s.length = 8
  · match s, h8 with
    | [b0, b1, b2, b3, b4, b5, b6, b7], _ => exact routeParse8 b0 b1 b2 b3 b4 b5 b6 b7 w
  · have hC : routeC s = 4 := by unfold routeC; rw [if_neg (fun q => h8 q.1)]
    rw [routeP_len h8, hC]
    clear hC
    have h8b : ¬ ((s.length : Int) = 8) := by omega
    go_enter Tryz.func126, Tryz.ntmps126
    go_wp2
    exact bodyPost_ret (v := .tuple #[_, _]) (by simp [results, Tryz.results126, go_sem]; try decide) rfl ⟨rfl, by repeat (first | with_reducible exact Grew.refl _ | apply Grew.more | apply Grew.alloc | apply Grew.drew | apply Grew.drewN)⟩
theorem routeP_cases (s : List UInt8) : ∃ x0 x1 x2 x3 x4 x5 x6 x7 : Int, Li.routeP s = [x0, x1, x2, x3, x4, x5, x6, x7] := by
  have h8 : (Li.routeP s).length = 8 := by
    unfold Li.routeP
    split
    · rename_i h; simpa using h.1
    · rfl
  match h : Li.routeP s, h8 with
  | [x0, x1, x2, x3, x4, x5, x6, x7], _ => exact ⟨_, _, _, _, _, _, _, _, rfl⟩
set_option maxHeartbeats 8000000 in
/-- lines.placed: par and route are read of two words -/
theorem placed_any (id kd par r0 r1 r2 r3 r4 r5 r6 r7 : Int) (af ap : Option Addr) (nf cf np cp : Nat) (p r : List UInt8) (hp : p.length ≤ 100000) (hr : r.length ≤ 100000) (w : World) (hE : Errs w) : ∃ x0 x1 x2 x3 x4 x5 x6 x7 : Int, Li.routeP r = [x0, x1, x2, x3, x4, x5, x6, x7] ∧ Calls Tryz.prog 87 #[.agg #[.int .i64 id, .int .i64 kd, .slice af nf cf, .slice ap np cp, .int .i64 par, .int .i64 r0, .int .i64 r1, .int .i64 r2, .int .i64 r3, .int .i64 r4, .int .i64 r5, .int .i64 r6, .int .i64 r7], .string ⟨p.toArray⟩, .string ⟨r.toArray⟩] w
    (Gives (.agg #[.int .i64 id, .int .i64 kd, .slice af nf cf, .slice ap np cp, .int .i64 (Co.atoiVal p), .int .i64 x0, .int .i64 x1, .int .i64 x2, .int .i64 x3, .int .i64 x4, .int .i64 x5, .int .i64 x6, .int .i64 x7]) w) := by
  obtain ⟨x0, x1, x2, x3, x4, x5, x6, x7, hx⟩ := routeP_cases r
  refine ⟨x0, x1, x2, x3, x4, x5, x6, x7, hx, ?_⟩
  have HA := Lib.hid fun W (q : Grew w W) => atoiL_any p (by omega) W (hE.grew q)
  have HR := Lib.hid (routeParse_any r (by omega))
  rw [hx] at HR
  clear hE hx
  generalize Co.atoiVal p = pp at *
  generalize routeC r = rc at *
  go_enter Tryz.func87, Tryz.ntmps87
  go_wp2_with (first
    | (go_at_call 85; refine (HA.out _ (by repeat (first | with_reducible exact Grew.refl _ | apply Grew.more | apply Grew.alloc | apply Grew.drew | apply Grew.drewN))).mono ?_; rintro e w1 ⟨v1, rfl, R1, n1, rfl⟩)
    | (go_at_call 126; refine (HR.out _).mono ?_; rintro e w1 ⟨rfl, R2, n2, rfl⟩))
  refine bodyPost_ret (v := .agg #[.int .i64 id, .int .i64 kd, .slice af nf cf, .slice ap np cp, .int .i64 pp, .int .i64 x0, .int .i64 x1, .int .i64 x2, .int .i64 x3, .int .i64 x4, .int .i64 x5, .int .i64 x6, .int .i64 x7]) (by simp [results, Tryz.results87, go_sem]) rfl ⟨rfl, ?_⟩
  repeat (first | with_reducible exact Grew.refl _ | apply Grew.more | apply Grew.alloc | apply Grew.drew | apply Grew.drewN)
end Go.Proofs.YtlgbipfpnfphjaaGreatDoor

/-! forebayref27: fits, List, Route, place, Right. -/
namespace Go.Proofs.YtlgbipfpnfphjaaGreatDoor
set_option linter.unusedSimpArgs false
set_option linter.unusedVariables false
open Go.RowKit Ga
set_option maxRecDepth 100000

end Go.Proofs.YtlgbipfpnfphjaaGreatDoor
