import Derived.Test.YthlmmfljeblflaaGreatDoorMc9
import Derived.Test.YthlmmfljeblflaaGreatDoorMc0
import Derived.Lib.AppendZeros
import Derived.Test.YthlmmfljeblflaaGreatDoorMc10
import Derived.Test.YthlmmfljeblflaaGreatDoorMc6
import Derived.Deep.LoopGhost
/-! slices.Grow, slices.Concat at nodes. -/
namespace Go.Proofs.YthlmmfljeblflaaGreatDoor
set_option linter.unusedSimpArgs false
set_option linter.unusedVariables false
open Go.RowKit Ga
set_option maxRecDepth 100000

def zNd : Value := .agg #[.int .i64 0, .int .i64 0, .slice none 0 0, .slice none 0 0, .int .i64 0, .int .i64 0, .int .i64 0, .int .i64 0, .int .i64 0, .int .i64 0, .int .i64 0, .int .i64 0, .int .i64 0]
theorem infoNdA : (Tryz.prog.info? 41).map (fun i => (i.zero, i.size, i.bytes)) = some (some zNd, 13, 136) := by kernel_rfl
theorem growNd_any (n : Nat) (hn : n ≤ 1000) (w : World) : Calls Tryz.prog 104 #[.slice none 0 0, .int .i64 n] w (fun e w' => ∃ v, e = .returned v ∧ OwnAt w.heap.size 41 13 encNd w' v [] ∧ Grew w w') := by
  by_cases h0 : 0 < n
  case neg =>
    obtain rfl : n = 0 := by omega
    go_enter Tryz.func104, Tryz.ntmps104
    go_wp2
    go_ret
    exact ⟨_, rfl, OwnAt.nil _, by repeat (first | with_reducible exact Grew.refl _ | apply Grew.more | apply Grew.alloc | apply Grew.drew | apply Grew.drewN)⟩
  obtain ⟨i, hi, hz0, hz1, hz2⟩ := info_parts infoNdA
  have hrun := Lib.run_append_nil_zeros (P := Tryz.prog) w 30 3 30 41 i zNd .i64 .i64 Tryz.underlying30 Tryz.underlying3 hi hz0 n h0 (by rw [hz1]; decide) (by omega) (by rw [hz2]; omega)
  have hge := grownCap_ge w n 0 41
  have hle := grownCap_le_maxLen w n 0 41 (by unfold maxLen; omega)
  have hsz : (Builtin.zeroCells zNd.cells n ++ Builtin.zeroCells zNd.cells (grownCap w n 0 41 - n)).size = grownCap w n 0 41 * 13 := by
    rw [Array.size_append, size_zeroCells, size_zeroCells, show zNd.cells.size = 13 from rfl, ← Nat.add_mul]
    congr 1
    omega
  generalize grownCap w n 0 41 = G at *
  generalize Builtin.zeroCells zNd.cells n ++ Builtin.zeroCells zNd.cells (G - n) = Z at *
  have HR := Lib.hid hrun
  clear hrun hi hz0 hz1 hz2
  go_enter Tryz.func104, Tryz.ntmps104
  go_wp2_with (at_builtin; go_loud (refine Lib.wpList_append_run _ rfl (.tmp 20) (.tmp 21) _ _ rfl _ _ rfl rfl _ _ HR.out ?_))
  go_ret
  exact ⟨_, rfl, ⟨rfl, .inr ⟨w.heap.size, G, Z, rfl, Nat.le_refl _, heap_new_at w _ _ rfl, Nat.zero_le _, hle, hsz, by simp⟩⟩, by repeat (first | with_reducible exact Grew.refl _ | apply Grew.more | apply Grew.alloc | apply Grew.drew | apply Grew.drewN)⟩
theorem encNd_lenA (c : NdC) : (encNd c).length = 13 := rfl
theorem encNd_oneA (c : NdC) : ∀ u ∈ encNd c, u.oneCell' = true := by
  intro u hu
  simp [encNd] at hu
  rcases hu with rfl | rfl | rfl | rfl | rfl | rfl | rfl | rfl | rfl | rfl | rfl | rfl | rfl <;> rfl
def sumK (a b : Nat) : Nat → Int
  | 0 => 0
  | 1 => a
  | _ => (a : Int) + b
def catK (a b : List NdC) : Nat → List NdC
  | 0 => []
  | 1 => a
  | _ => a ++ b
/-- a slice that is nil, or has a block -/
def NilOr (v : Value) (n : Nat) : Prop := v = .slice none 0 0 ∨ ∃ ad c, v = .slice (some ad) n c
set_option maxHeartbeats 16000000 in
theorem concat_any (B : Nat) (aa ab : Option Addr) (ca cb : Nat) (la lb : List NdC) (w : World) (hB : w.heap[B]? = some (.cells #[.slice aa la.length ca, .slice ab lb.length cb] 30)) (ra : RowsAt 13 encNd w (.slice aa la.length ca) la) (rb : RowsAt 13 encNd w (.slice ab lb.length cb) lb) (na : NilOr (.slice aa la.length ca) la.length) (nb : NilOr (.slice ab lb.length cb) lb.length) (hla : la.length ≤ 100) (hlb : lb.length ≤ 100) :
    Calls Tryz.prog 69 #[.slice (some ⟨B, 0, none⟩) 2 2] w (fun e w' => ∃ v, e = .returned v ∧ OwnAt w.heap.size 41 13 encNd w' v (la ++ lb) ∧ Grew w w') := by
  have HB := Lib.hid hB
  have HRA := Lib.hid ra
  have HRB := Lib.hid rb
  have HNA := Lib.hid na
  have HNB := Lib.hid nb
  have HGR := Lib.hid fun (n : Nat) (hn : n ≤ 1000) W => growNd_any n hn W
  clear hB ra rb na nb
  go_enter Tryz.func69, Tryz.ntmps69
  go_wp2
  go_loopg [3, 11] 2 (fun gg s3 s11 wr => ∃ k : Nat, k ≤ 2 ∧ 2 - k ≤ gg ∧ s11 = .int .i64 k ∧ s3 = .int .i64 (sumK la.length lb.length k) ∧ Hid (Grew w wr))
  case atStart => exact ⟨0, by omega, by omega, rfl, rfl, Lib.hid (Grew.refl _)⟩
  case round =>
    obtain ⟨k, hk, hgg, rfl, rfl, HG⟩ := hrel
    rename World => wa
    have hb := grew_heap HG.out HB.out
    have c0 := cell_of (o := 0) hb
    have c1 := cell_of (o := 1) hb
    simp at c0 c1
    have pb := Pre.mk (heap_lt hb)
    clear hb
    rcases (show k = 0 ∨ k = 1 ∨ k = 2 by omega) with rfl | rfl | rfl
    · show Code.wp _ _ _ _ _
      rw [show sumK la.length lb.length 0 = 0 from rfl]
      have hw : wrap64 ((0 : Int) + la.length) = la.length := by unfold wrap64; omega
      go_wp2
      go_roundg 1
      case measure => omega
      case rel => exact ⟨1, by omega, by omega, by go_num, by first | rfl | (rw [hw]; rfl), HG⟩
    · rw [show sumK la.length lb.length 1 = (la.length : Int) from rfl]
      have hw : wrap64 ((la.length : Int) + lb.length) = (la.length : Int) + lb.length := by unfold wrap64; omega
      go_wp2
      go_roundg 0
      case measure => omega
      case rel => exact ⟨2, by omega, by omega, by go_num, by first | rfl | (rw [hw]; rfl), HG⟩
    · rw [show sumK la.length lb.length 2 = (((la.length + lb.length : Nat)) : Int) by show (la.length : Int) + lb.length = _; omega]
      have HGN := Lib.hid (HGR.out (la.length + lb.length) (by omega))
      go_wp2_with (go_at_call 104; go_loud (refine (HGN.out _).mono ?_); rintro e w2 ⟨v2, rfl, hv2, R2, n2, rfl⟩; (have HV2 := Lib.hid hv2); clear hv2)
      have HG2 : Hid (Grew w (wa.more R2 n2)) := Lib.hid (HG.out.trans (by repeat (first | with_reducible exact Grew.refl _ | apply Grew.more | apply Grew.alloc | apply Grew.drew | apply Grew.drewN)))
      have HO2 : Hid (OwnAt w.heap.size 41 13 encNd (wa.more R2 n2) v2 []) := Lib.hid (OwnAt.low HV2.out HG.out.below.size)
      clear HV2 c0 c1 pb
      generalize wa.more R2 n2 = wx at *
      go_loopg [6, 27] 2 (fun gg s6 s27 wr => ∃ k : Nat, k ≤ 2 ∧ 2 - k ≤ gg ∧ s27 = .int .i64 k ∧ Hid (Grew w wr) ∧ Hid (OwnAt w.heap.size 41 13 encNd wr s6 (catK la lb k)))
      case atStart => exact ⟨0, by omega, by omega, rfl, HG2, HO2⟩
      case round =>
        obtain ⟨k, hk, hgg, rfl, HG3, HO3⟩ := hrel
        rename World => wb
        have hb := grew_heap HG3.out HB.out
        have c0 := cell_of (o := 0) hb
        have c1 := cell_of (o := 1) hb
        simp at c0 c1
        have pb := Pre.mk (heap_lt hb)
        clear hb
        have HNA2 := HNA.out
        have HNB2 := HNB.out
        unfold NilOr at HNA2 HNB2
        have HNA3 := Lib.hid HNA2
        have HNB3 := Lib.hid HNB2
        clear HNA2 HNB2
        rcases (show k = 0 ∨ k = 1 ∨ k = 2 by omega) with rfl | rfl | rfl
        · go_wp2_with (at_builtin; go_loud (refine wpList_ownM (w0 := w) rfl (.tmp 31) (.tmp 32) 30 _ _ _ la rfl Tryz.underlying30 infoNdA rfl (by decide) encNd_lenA encNd_oneA rfl (OwnAt.grew HO3.out (by repeat (first | with_reducible exact Grew.refl _ | apply Grew.more | apply Grew.alloc | apply Grew.drew | apply Grew.drewN))) (HG3.out.trans (by repeat (first | with_reducible exact Grew.refl _ | apply Grew.more | apply Grew.alloc | apply Grew.drew | apply Grew.drewN))) rfl (HRA.out.grew (HG3.out.trans (by repeat (first | with_reducible exact Grew.refl _ | apply Grew.more | apply Grew.alloc | apply Grew.drew | apply Grew.drewN)))) HNA3.out (by simp [catK]; omega) (by decide) ?_); intro v7 R7 N7 hA _; (have HA7 := Lib.hid hA); clear hA)
          go_roundg 1
          case measure => omega
          case rel => exact ⟨1, by omega, by omega, by go_num, Lib.hid ⟨_, _, rfl⟩, HA7⟩
        · go_wp2_with (at_builtin; go_loud (refine wpList_ownM (w0 := w) rfl (.tmp 31) (.tmp 32) 30 _ _ _ lb rfl Tryz.underlying30 infoNdA rfl (by decide) encNd_lenA encNd_oneA rfl (OwnAt.grew HO3.out (by repeat (first | with_reducible exact Grew.refl _ | apply Grew.more | apply Grew.alloc | apply Grew.drew | apply Grew.drewN))) (HG3.out.trans (by repeat (first | with_reducible exact Grew.refl _ | apply Grew.more | apply Grew.alloc | apply Grew.drew | apply Grew.drewN))) rfl (HRB.out.grew (HG3.out.trans (by repeat (first | with_reducible exact Grew.refl _ | apply Grew.more | apply Grew.alloc | apply Grew.drew | apply Grew.drewN)))) HNB3.out (by simp [catK]; omega) (by decide) ?_); intro v7 R7 N7 hA _; (have HA7 := Lib.hid hA); clear hA)
          go_roundg 0
          case measure => omega
          case rel => exact ⟨2, by omega, by omega, by go_num, Lib.hid ⟨_, _, rfl⟩, HA7⟩
        · go_wp2
          go_ret
          exact ⟨_, rfl, HO3.out, HG3.out⟩
end Go.Proofs.YthlmmfljeblflaaGreatDoor

/-! slices.IndexFunc and ContainsFunc at entries, numbers and lines. -/
namespace Go.Proofs.YthlmmfljeblflaaGreatDoor
set_option linter.unusedSimpArgs false
set_option linter.unusedVariables false
open Go.RowKit Ga
set_option maxRecDepth 100000

/-- a line as it lies -/
def encLn (x : Gr.Ln) : List Value := [.int .i64 x.sink, .int .i64 x.frm, .int .i64 x.key, .int .i64 x.v.1, .int .i64 x.v.2]
abbrev LnsAt (w : World) (v : Value) (l : List Gr.Ln) : Prop := RowsAt 5 encLn w v l
end Go.Proofs.YthlmmfljeblflaaGreatDoor

/-! Nodes as arguments. -/
namespace Go.Proofs.YthlmmfljeblflaaGreatDoor
set_option linter.unusedSimpArgs false
set_option maxRecDepth 100000
set_option linter.unusedVariables false
open Go.RowKit Ga Go.ChangeShapes Go.WideShapes

theorem cells_int1 : Tryz.prog.cellsOf 3 = 1 := by kernel_rfl
theorem cells_ints1 : Tryz.prog.cellsOf 29 = 1 := by kernel_rfl
theorem cells_ins : Tryz.prog.cellsOf 83 = 2 := by kernel_rfl
theorem cells_inss1 : Tryz.prog.cellsOf 38 = 1 := by kernel_rfl
theorem cells_arr8 : Tryz.prog.cellsOf 39 = 8 := by kernel_rfl
theorem cells_node : Tryz.prog.cellsOf 41 = 13 := by kernel_rfl
theorem laidOut : laidOutB Tryz.prog = true := by kernel_rfl
theorem opens_int1 : Opens Tryz.prog 3 (fun _ cs (n : Int) => cs = [Value.int .i64 n] ∧ True) := (Opens.i64 Tryz.underlying3).mono fun _ _ n h => ⟨n, h.1, trivial⟩
theorem opens_insN : Opens Tryz.prog 83 (fun _ cs (a : Ga.Val) => cs = [Value.int .i64 a.1, Value.int .i64 a.2] ∧ True) := by
  intro H enc w fuel cs x hx
  obtain ⟨hl, hf⟩ := Opens.fields Tryz.underlying83 hx
  rw [cells_ins] at hl
  match cs, hl with
  | [c0, c1], _ =>
    obtain ⟨n0, y0, h0⟩ := hf 0 _ rfl
    obtain ⟨n1, y1, h1⟩ := hf 1 _ rfl
    have h0' : DataW.trod enc Tryz.prog w 0 (fun _ => true) true n0 3 (([c0, c1].drop 0).take (Tryz.prog.cellsOf 3)) = some y0 := h0
    have h1' : DataW.trod enc Tryz.prog w 0 (fun _ => true) true n1 3 (([c0, c1].drop 1).take (Tryz.prog.cellsOf 3)) = some y1 := h1
    rw [cells_int1] at h0' h1'
    obtain ⟨i0, e0, -⟩ := opens_int1 H enc w n0 _ _ h0'
    obtain ⟨i1, e1, -⟩ := opens_int1 H enc w n1 _ _ h1'
    simp at e0 e1
    subst e0 e1
    exact ⟨(i0, i1), rfl, trivial⟩
/-- a slice and how far it may grow -/
theorem SlAt.rowsC {α : Type} {k : Nat} {enc : α → List Value} {w : World} {v : Value} {l : List α} (h : SlAt k (fun _ cs (a : α) => cs = enc a ∧ True) w v l) : RowsAt k enc w v l ∧ ∃ a cap, v = .slice a l.length cap ∧ l.length ≤ cap := by
  refine ⟨h.rows.1, ?_⟩
  obtain ⟨a, cap, rfl, hl, -⟩ := h
  exact ⟨a, cap, rfl, hl⟩
theorem opens_node : Opens Tryz.prog 41 (fun w cs (x : NdC × Gr.Nd) => cs = encNd x.1 ∧ NodeIs w x.1 x.2) := by
  intro H enc w fuel cs x hx
  obtain ⟨hl, hf⟩ := Opens.fields Tryz.underlying41 hx
  rw [cells_node] at hl
  match cs, hl with
  | [c0, c1, c2, c3, c4, c5, c6, c7, c8, c9, c10, c11, c12], _ =>
    obtain ⟨n0, y0, h0⟩ := hf 0 _ rfl
    obtain ⟨n1, y1, h1⟩ := hf 1 _ rfl
    obtain ⟨n2, y2, h2⟩ := hf 2 _ rfl
    obtain ⟨n3, y3, h3⟩ := hf 3 _ rfl
    obtain ⟨n4, y4, h4⟩ := hf 4 _ rfl
    obtain ⟨n5, y5, h5⟩ := hf 5 _ rfl
    have h0' : DataW.trod enc Tryz.prog w 0 (fun _ => true) true n0 3 (([c0, c1, c2, c3, c4, c5, c6, c7, c8, c9, c10, c11, c12].drop 0).take (Tryz.prog.cellsOf 3)) = some y0 := h0
    have h1' : DataW.trod enc Tryz.prog w 0 (fun _ => true) true n1 3 (([c0, c1, c2, c3, c4, c5, c6, c7, c8, c9, c10, c11, c12].drop 1).take (Tryz.prog.cellsOf 3)) = some y1 := h1
    have h2' : DataW.trod enc Tryz.prog w 0 (fun _ => true) true n2 29 (([c0, c1, c2, c3, c4, c5, c6, c7, c8, c9, c10, c11, c12].drop 2).take (Tryz.prog.cellsOf 29)) = some y2 := h2
    have h3' : DataW.trod enc Tryz.prog w 0 (fun _ => true) true n3 38 (([c0, c1, c2, c3, c4, c5, c6, c7, c8, c9, c10, c11, c12].drop 3).take (Tryz.prog.cellsOf 38)) = some y3 := h3
    have h4' : DataW.trod enc Tryz.prog w 0 (fun _ => true) true n4 3 (([c0, c1, c2, c3, c4, c5, c6, c7, c8, c9, c10, c11, c12].drop 4).take (Tryz.prog.cellsOf 3)) = some y4 := h4
    have h5' : DataW.trod enc Tryz.prog w 0 (fun _ => true) true n5 39 (([c0, c1, c2, c3, c4, c5, c6, c7, c8, c9, c10, c11, c12].drop 5).take (Tryz.prog.cellsOf 39)) = some y5 := h5
    rw [cells_int1] at h0' h1' h4'
    rw [cells_ints1] at h2'
    rw [cells_inss1] at h3'
    rw [cells_arr8] at h5'
    obtain ⟨i0, e0, -⟩ := opens_int1 H enc w n0 _ _ h0'
    obtain ⟨i1, e1, -⟩ := opens_int1 H enc w n1 _ _ h1'
    obtain ⟨i4, e4, -⟩ := opens_int1 H enc w n4 _ _ h4'
    obtain ⟨l2, v2, e2, s2⟩ := Opens.slice Tryz.underlying29 cells_int1 (by decide) opens_int1 H enc w n2 _ _ h2'
    obtain ⟨l3, v3, e3, s3⟩ := Opens.slice Tryz.underlying38 cells_ins (by decide) opens_insN H enc w n3 _ _ h3'
    obtain ⟨hl5, hf5⟩ := Opens.elems Tryz.underlying39 h5'
    obtain ⟨r2, a2, k2, rfl, hk2⟩ := SlAt.rowsC (enc := fun (x : Int) => [Value.int .i64 x]) s2
    obtain ⟨r3, a3, k3, rfl, hk3⟩ := SlAt.rowsC (enc := fun (a : Ga.Val) => [Value.int .i64 a.1, Value.int .i64 a.2]) s3
    have hr : ∀ i, i < 8 → ∃ r : Int, (([c5, c6, c7, c8, c9, c10, c11, c12].drop i).take 1) = [Value.int .i64 r] := fun i hi => by
      obtain ⟨m, y, h⟩ := hf5 i hi
      rw [cells_int1, Nat.mul_one] at h
      obtain ⟨r, e, -⟩ := opens_int1 H enc w m _ _ h
      exact ⟨r, e⟩
    obtain ⟨q0, g0⟩ := hr 0 (by decide)
    obtain ⟨q1, g1⟩ := hr 1 (by decide)
    obtain ⟨q2, g2⟩ := hr 2 (by decide)
    obtain ⟨q3, g3⟩ := hr 3 (by decide)
    obtain ⟨q4, g4⟩ := hr 4 (by decide)
    obtain ⟨q5, g5⟩ := hr 5 (by decide)
    obtain ⟨q6, g6⟩ := hr 6 (by decide)
    obtain ⟨q7, g7⟩ := hr 7 (by decide)
    simp at e0 e1 e2 e3 e4 g0 g1 g2 g3 g4 g5 g6 g7
    subst e0 e1 e2 e3 e4 g0 g1 g2 g3 g4 g5 g6 g7
    exact ⟨(⟨i0, i1, a2, l2.length, k2, a3, l3.length, k3, i4, q0, q1, q2, q3, q4, q5, q6, q7⟩, ⟨i0, i1, l2, l3, i4, [q0, q1, q2, q3, q4, q5, q6, q7]⟩), rfl, rfl, rfl, r2, r3, rfl, rfl, hk2⟩
theorem nodes_of {w : World} {v : Value} {l : List (NdC × Gr.Nd)} (h : SlAt 13 (fun w cs (x : NdC × Gr.Nd) => cs = encNd x.1 ∧ NodeIs w x.1 x.2) w v l) : NodesAt w v (l.map (·.2)) := by
  obtain ⟨a, cap, rfl, hl, hm, hnil, hx⟩ := h
  refine ⟨l.map (·.1), ⟨a, cap, by simp, Nat.le_trans (by simpa using hl) hm, fun hne => ?_⟩, by simp, ?_⟩
  · obtain ⟨b, off, rfl, hc⟩ := hx (by intro e; subst e; exact hne rfl)
    refine ⟨b, off, rfl, fun i c hi j u hu => ?_⟩
    rw [List.getElem?_map] at hi
    obtain ⟨y, hy, rfl⟩ := Option.map_eq_some_iff.1 hi
    obtain ⟨cs, -, ⟨rfl, -⟩, h2⟩ := hc i y hy
    exact h2 j u hu
  · intro i c n hc hn
    rw [List.getElem?_map] at hc hn
    obtain ⟨y, hy, rfl⟩ := Option.map_eq_some_iff.1 hc
    obtain ⟨z, hz, rfl⟩ := Option.map_eq_some_iff.1 hn
    obtain rfl := Option.some.inj (hy.symm.trans hz)
    obtain ⟨b, off, rfl, hx2⟩ := hx (by intro e; subst e; simp at hy)
    obtain ⟨cs, -, ⟨-, h1⟩, -⟩ := hx2 i y hy
    exact h1
end Go.Proofs.YthlmmfljeblflaaGreatDoor
