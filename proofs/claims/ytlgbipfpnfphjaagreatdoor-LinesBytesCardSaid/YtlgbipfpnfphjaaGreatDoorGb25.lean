import Derived.Test.YtlgbipfpnfphjaaGreatDoorGb21
import Derived.Test.YtlgbipfpnfphjaaGreatDoorGb17
import Derived.ChangeKeysEq
import Derived.Test.YtlgbipfpnfphjaaGreatDoorGb14
import Derived.Test.YtlgbipfpnfphjaaGreatDoorGb15
import Derived.Test.YtlgbipfpnfphjaaGreatDoorGb9
/-! pack's reader: node. -/
namespace Go.Proofs.YtlgbipfpnfphjaaGreatDoor
set_option linter.unusedSimpArgs false
set_option linter.unusedVariables false
open Go.RowKit Ga
set_option maxRecDepth 100000

/-- a node's cells, the routes as a list -/
def nodeArr (id kind : Int) (vf vp : Value) (par : Int) (rs : List Int) : Array Value := #[.int .i64 id, .int .i64 kind, vf, vp, .int .i64 par] ++ (rs.map (Value.int .i64)).toArray
theorem nodeArr_set (id kind : Int) (vf vp : Value) (par : Int) (rs : List Int) (k : Nat) (y : Int) : (nodeArr id kind vf vp par rs).setIfInBounds (5 + k) (.int .i64 y) = nodeArr id kind vf vp par (rs.set k y) := by
  unfold nodeArr
  apply Array.ext'
  simp only [Array.toList_setIfInBounds, Array.toList_append, List.map_set]
  rw [List.set_append_right _ _ (by simp)]
  simp
theorem nodeArr_get (id kind : Int) (vf vp : Value) (par : Int) (rs : List Int) (k : Nat) (h : k < rs.length) : (nodeArr id kind vf vp par rs)[5 + k]? = some (.int .i64 rs[k]) := by
  unfold nodeArr
  rw [Array.getElem?_append_right (by simp)]
  simp [h]
def padR (l : List Int) : List Int := l ++ List.replicate (8 - l.length) 0
theorem padR_len {l : List Int} (h : l.length ≤ 8) : (padR l).length = 8 := by unfold padR; rw [List.length_append, List.length_replicate]; omega
theorem padR_set {l : List Int} {y : Int} (h : l.length < 8) : (padR l).set l.length y = padR (l ++ [y]) := by
  unfold padR
  rw [List.set_append_right _ _ (Nat.le_refl _), Nat.sub_self, List.length_append, List.append_assoc]
  obtain ⟨m, hm⟩ : ∃ m, 8 - l.length = m + 1 := ⟨7 - l.length, by omega⟩
  rw [hm, show 8 - (l.length + [y].length) = m by simp; omega]
  rfl
theorem Keep2.setNew {A B C : Nat} {w W : World} {o : Nat} {v : Value} (h : Keep2 A B w W) (hC : w.heap.size ≤ C) : Keep2 A B w (W.setCell ⟨C, o, none⟩ v) :=
  ⟨by rw [World.size_setCell]; exact h.1, fun q hq h1 h2 => by rw [set_other (show C ≠ q by omega)]; exact h.2 q hq h1 h2⟩
theorem eight (l : List Int) (h : l.length = 8) : ∃ o0 o1 o2 o3 o4 o5 o6 o7, l = [o0, o1, o2, o3, o4, o5, o6, o7] := by
  match l, h with
  | [o0, o1, o2, o3, o4, o5, o6, o7], _ => exact ⟨o0, o1, o2, o3, o4, o5, o6, o7, rfl⟩
/-- a node comes back in memory of the call's own -/
def RdNode (w0 W : World) (A B : Nat) (n : Gr.Nd) (s : Gr.Rs) (e : Ending) (W' : World) : Prop := ∃ c : NdC, e = .returned (.agg #[.int .i64 c.id, .int .i64 c.kind, .slice c.af c.nf c.cf, .slice c.ap c.np c.cp, .int .i64 c.par, .int .i64 c.r0, .int .i64 c.r1, .int .i64 c.r2, .int .i64 c.r3, .int .i64 c.r4, .int .i64 c.r5, .int .i64 c.r6, .int .i64 c.r7]) ∧ NodeIs W' c n ∧ OwnsNd W.heap.size W' c n ∧ RdAt w0.heap.size A B W' s ∧ Grew w0 W' ∧ Keep2 A B W W'
theorem set13 {W : World} {q : Nat} {t : TypeId} {u0 u1 u2 u3 u4 u5 u6 u7 u8 u9 u10 u11 u12 : Value} (h : W.heap[q]? = some (.cells #[u0, u1, u2, u3, u4, u5, u6, u7, u8, u9, u10, u11, u12] t)) (v0 v1 v2 v3 v4 v5 v6 v7 v8 v9 v10 v11 v12 : Value) : (((((((((((((W.setCell ⟨q, 0, none⟩ v0).setCell ⟨q, 1, none⟩ v1).setCell ⟨q, 2, none⟩ v2).setCell ⟨q, 3, none⟩ v3).setCell ⟨q, 4, none⟩ v4).setCell ⟨q, 5, none⟩ v5).setCell ⟨q, 6, none⟩ v6).setCell ⟨q, 7, none⟩ v7).setCell ⟨q, 8, none⟩ v8).setCell ⟨q, 9, none⟩ v9).setCell ⟨q, 10, none⟩ v10).setCell ⟨q, 11, none⟩ v11).setCell ⟨q, 12, none⟩ v12).heap[q]? = some (.cells #[v0, v1, v2, v3, v4, v5, v6, v7, v8, v9, v10, v11, v12] t) := by
  have h0 := set_self (o := 0) (v := v0) h
  simp at h0
  have h1 := set_self (o := 1) (v := v1) h0
  simp at h1
  have h2 := set_self (o := 2) (v := v2) h1
  simp at h2
  have h3 := set_self (o := 3) (v := v3) h2
  simp at h3
  have h4 := set_self (o := 4) (v := v4) h3
  simp at h4
  have h5 := set_self (o := 5) (v := v5) h4
  simp at h5
  have h6 := set_self (o := 6) (v := v6) h5
  simp at h6
  have h7 := set_self (o := 7) (v := v7) h6
  simp at h7
  have h8 := set_self (o := 8) (v := v8) h7
  simp at h8
  have h9 := set_self (o := 9) (v := v9) h8
  simp at h9
  have h10 := set_self (o := 10) (v := v10) h9
  simp at h10
  have h11 := set_self (o := 11) (v := v11) h10
  simp at h11
  have h12 := set_self (o := 12) (v := v12) h11
  simp at h12
  exact h12
theorem res_node {W : World} {tmps : Array Value} {q : Nat} {id kind par o0 o1 o2 o3 o4 o5 o6 o7 : Int} {vf vp : Value} (hs : tmps.size = 32) (ht : tmps[4]? = some (.pointer (some ⟨q, 0, none⟩))) (h : W.heap[q]? = some (.cells #[.int .i64 id, .int .i64 kind, vf, vp, .int .i64 par, .int .i64 o0, .int .i64 o1, .int .i64 o2, .int .i64 o3, .int .i64 o4, .int .i64 o5, .int .i64 o6, .int .i64 o7] 49)) :
    (results Tryz.f54 tmps).run Tryz.prog W = .ok (.agg #[.int .i64 id, .int .i64 kind, vf, vp, .int .i64 par, .int .i64 o0, .int .i64 o1, .int .i64 o2, .int .i64 o3, .int .i64 o4, .int .i64 o5, .int .i64 o6, .int .i64 o7]) W := by
  have c0 := cell_of (o := 0) h
  have c1 := cell_of (o := 1) h
  have c2 := cell_of (o := 2) h
  have c3 := cell_of (o := 3) h
  have c4 := cell_of (o := 4) h
  have c5 := cell_of (o := 5) h
  have c6 := cell_of (o := 6) h
  have c7 := cell_of (o := 7) h
  have c8 := cell_of (o := 8) h
  have c9 := cell_of (o := 9) h
  have c10 := cell_of (o := 10) h
  have c11 := cell_of (o := 11) h
  have c12 := cell_of (o := 12) h
  have ht2 : tmps.getD 4 undef = .pointer (some ⟨q, 0, none⟩) := by rw [Array.getD_eq_getD_getElem?, ht]; rfl
  simp at c0 c1 c2 c3 c4 c5 c6 c7 c8 c9 c10 c11 c12
  simp [results, Tryz.results54, go_sem, ht, c0, c1, c2, c3, c4, c5, c6, c7, c8, c9, c10, c11, c12]
theorem rdNode_made {w0 W W' : World} {A B : Nat} (c : NdC) {n : Gr.Nd} {s : Gr.Rs} (hi : n.id = c.id) (hk : n.kind = c.kind) (hp : n.par = c.par) (hr : n.route = [c.r0, c.r1, c.r2, c.r3, c.r4, c.r5, c.r6, c.r7])
    (o1 : OwnAt W.heap.size 3 1 encN W' c.vf n.frm) (o2 : OwnAt W.heap.size 124 2 encI W' c.vp n.prog) (h1 : RdAt w0.heap.size A B W' s) (h2 : Grew w0 W') (h3 : Keep2 A B W W') : RdNode w0 W A B n s (.returned (.agg #[.int .i64 c.id, .int .i64 c.kind, .slice c.af c.nf c.cf, .slice c.ap c.np c.cp, .int .i64 c.par, .int .i64 c.r0, .int .i64 c.r1, .int .i64 c.r2, .int .i64 c.r3, .int .i64 c.r4, .int .i64 c.r5, .int .i64 c.r6, .int .i64 c.r7])) W' :=
  ⟨c, rfl, ⟨hi, hk, o1.rows encN_len, o2.rows encI_len, hp, hr, OwnAt.cap o1⟩, ⟨o1, o2⟩, h1, h2, h3⟩
set_option maxHeartbeats 8000000 in
theorem rdNode_any (w0 : World) (A B : Nat) (s : Gr.Rs) (lp : Int) (hlp : lp ≤ 0 ∨ lp ≤ 3) (W : World) (h : RdAt w0.heap.size A B W s) (hg : Grew w0 W) (hs : s.1.length ≤ 1000000) :
    Calls Tryz.prog 54 #[.pointer (some ⟨A, 0, none⟩), .int .i64 lp] W (RdNode w0 W A B (Gr.nodeS getL lp s).1 (Gr.nodeS getL lp s).2) := by
  have hAlt := heap_lt h.2.1
  have hBlt := heap_lt h.2.2.2
  have hAB := h.ne
  have HH := Lib.hid h
  have HG := Lib.hid hg
  clear h hg
  -- the numbers that come up
  have n1 := rdNum_any w0 A B s 0 7
  have l1 := numS_len 0 7 s
  obtain ⟨id, s1, e1⟩ : ∃ x t, Gr.numS 0 7 s = (x, t) := ⟨_, _, rfl⟩
  rw [e1] at n1 l1
  have n2 := rdNum_any w0 A B s1 0 2
  have l2 := numS_len 0 2 s1
  obtain ⟨kind, s2, e2⟩ : ∃ x t, Gr.numS 0 2 s1 = (x, t) := ⟨_, _, rfl⟩
  rw [e2] at n2 l2
  have n3 := rdList_any w0 A B s2 3 0 7
  have l3 := (listS_len 0 7 (Gr.numS 0 3 s2).1.toNat (Gr.numS 0 3 s2).2).2
  have l3' := numS_len 0 3 s2
  obtain ⟨fr, s3, e3⟩ : ∃ x t, Gr.listS 0 7 (Gr.numS 0 3 s2).1.toNat (Gr.numS 0 3 s2).2 = (x, t) := ⟨_, _, rfl⟩
  rw [e3] at n3 l3
  have n4 := rdProg_any w0 A B s3
  have l4 := progS_len s3
  obtain ⟨pr, s4, e4⟩ : ∃ x t, Gr.progS getL s3 = (x, t) := ⟨_, _, rfl⟩
  rw [e4] at n4 l4
  have n5 := rdNum_any w0 A B s4 lp 3
  have l5 := numS_len lp 3 s4
  obtain ⟨par, s5, e5⟩ : ∃ x t, Gr.numS lp 3 s4 = (x, t) := ⟨_, _, rfl⟩
  rw [e5] at n5 l5
  have hres : Gr.nodeS getL lp s = (⟨id, kind, fr, pr, par, (Gr.listS 0 2 8 s5).1⟩, (Gr.listS 0 2 8 s5).2) := by
    unfold Gr.nodeS
    simp only [e1, e2, e3, e4, e5]
  rw [hres]
  simp only at n1 n2 n3 n4 n5 l1 l2 l3 l4 l5
  have N1 := Lib.hid n1
  have N2 := Lib.hid n2
  have N3 := Lib.hid n3
  have N4 := Lib.hid n4
  have N5 := Lib.hid n5
  clear hres e1 e2 e3 e4 e5 n1 n2 n3 n4 n5
  have HT4 := Lib.hid (heap_new_at W (.cells #[.int .i64 0, .int .i64 0, .slice none 0 0, .slice none 0 0, .int .i64 0, .int .i64 0, .int .i64 0, .int .i64 0, .int .i64 0, .int .i64 0, .int .i64 0, .int .i64 0, .int .i64 0] 49) _ rfl)
  go_enter Tryz.func54, Tryz.ntmps54
  go_wp2_with fail
  refine (N1.out _ (HH.out.grew (by repeat (first | with_reducible exact Grew.refl _ | apply Grew.more | apply Grew.alloc | apply Grew.drew | apply Grew.drewN))) (HG.out.trans (by repeat (first | with_reducible exact Grew.refl _ | apply Grew.more | apply Grew.alloc | apply Grew.drew | apply Grew.drewN))) hs).mono ?_
  rintro e W1 ⟨rfl, r1, g1, k1⟩
  have R1 := Lib.hid r1
  have G1 := Lib.hid g1
  have K1 := Lib.hid k1
  clear r1 g1 k1
  go_wp2_with fail
  refine (N2.out _ R1.out G1.out (by omega)).mono ?_
  rintro e W2 ⟨rfl, r2, g2, k2⟩
  have R2 := Lib.hid r2
  have G2 := Lib.hid g2
  have K2 := Lib.hid (K1.out.trans k2)
  have z1 := k2.1
  have z2 := K1.out.1
  rw [World.size_alloc] at z2
  clear r2 g2 k2
  have h5 := heap_new_at W2 (.cells #[.int .i64 id, .int .i64 kind, .slice none 0 0, .slice none 0 0, .int .i64 0, .int .i64 0, .int .i64 0, .int .i64 0, .int .i64 0, .int .i64 0, .int .i64 0, .int .i64 0, .int .i64 0] 49) _ rfl
  have H5 := Lib.hid h5
  clear h5
  go_wp2_with fail
  refine (N3.out _ (R2.out.grew (by repeat (first | with_reducible exact Grew.refl _ | apply Grew.more | apply Grew.alloc | apply Grew.drew | apply Grew.drewN))) (G2.out.trans (by repeat (first | with_reducible exact Grew.refl _ | apply Grew.more | apply Grew.alloc | apply Grew.drew | apply Grew.drewN))) (by omega) (by decide) (by decide)).mono ?_
  rintro e W3 ⟨vf, rfl, o3, r3, g3, k3⟩
  have h53 := k3.2 W2.heap.size (by rw [World.size_alloc]; omega) (by omega) (by omega)
  rw [H5.out] at h53
  obtain ⟨af, cf, rfl⟩ := (o3.rows encN_len).len
  have z3 := k3.1
  rw [World.size_alloc] at z3
  have q2 := cell_of (o := 2) h53
  have f2 := frozen_of (o := 2) h53
  have p2 := Pre.mk (heap_lt h53)
  simp at q2
  have R3 := Lib.hid r3
  have G3 := Lib.hid g3
  have K3 := Lib.hid ((K2.out.trans (Keep2.ofGrew (by repeat (first | with_reducible exact Grew.refl _ | apply Grew.more | apply Grew.alloc | apply Grew.drew | apply Grew.drewN)))).trans k3)
  have O3 := Lib.hid o3
  have H53 := Lib.hid h53
  clear o3 r3 g3 k3 h53
  have hTA : W2.heap.size ≠ A := by omega
  have hTB : W2.heap.size ≠ B := by omega
  have hT0 : w0.heap.size ≤ W2.heap.size := G2.out.below.size
  have hTW : (W.alloc (.cells #[.int .i64 0, .int .i64 0, .slice none 0 0, .slice none 0 0, .int .i64 0, .int .i64 0, .int .i64 0, .int .i64 0, .int .i64 0, .int .i64 0, .int .i64 0, .int .i64 0, .int .i64 0] 49)).heap.size ≤ W2.heap.size := by rw [World.size_alloc]; omega
  have R3s := Lib.hid (RdAt.setOther (o := 2) (v := .slice af fr.length cf) R3.out hTA hTB)
  have G3s := Lib.hid (G3.out.set (o := 2) hT0 (.slice af fr.length cf))
  have K3s := Lib.hid (Keep2.setNew (o := 2) (v := .slice af fr.length cf) K3.out hTW)
  have O3s := Lib.hid (OwnAt.setOther (o := 2) (x := .slice af fr.length cf) O3.out H53.out (by decide))
  have h5s : (W3.setCell ⟨W2.heap.size, 2, none⟩ (.slice af fr.length cf)).heap[W2.heap.size]? = some (.cells #[.int .i64 id, .int .i64 kind, .slice af fr.length cf, .slice none 0 0, .int .i64 0, .int .i64 0, .int .i64 0, .int .i64 0, .int .i64 0, .int .i64 0, .int .i64 0, .int .i64 0, .int .i64 0] 49) := by rw [set_self H53.out]; rfl
  have H5s := Lib.hid h5s
  clear h5s
  go_wp2_with fail
  clear q2 f2 p2
  refine (N4.out _ R3s.out G3s.out (by omega)).mono ?_
  rintro e W4 ⟨vp, rfl, o4, r4, g4, k4⟩
  obtain ⟨ap, cp, rfl⟩ := (o4.rows encI_len).len
  have h54 := k4.2 W2.heap.size (heap_lt H5s.out) hTA hTB
  rw [H5s.out] at h54
  have q3 := cell_of (o := 3) h54
  have f3 := frozen_of (o := 3) h54
  have p3 := Pre.mk (heap_lt h54)
  simp at q3
  have R4s := Lib.hid (RdAt.setOther (o := 3) (v := .slice ap pr.length cp) r4 hTA hTB)
  have G4s := Lib.hid (g4.set (o := 3) hT0 (.slice ap pr.length cp))
  have K4s := Lib.hid (Keep2.setNew (o := 3) (v := .slice ap pr.length cp) (K3s.out.trans k4) hTW)
  have O34 := Lib.hid (OwnAt.setOther (o := 3) (x := .slice ap pr.length cp) (OwnAt.keep2 O3s.out k4 R3s.out) h54 (by decide))
  have O4s := Lib.hid (OwnAt.setOther (o := 3) (x := .slice ap pr.length cp) o4 h54 (by decide))
  have h5t : (W4.setCell ⟨W2.heap.size, 3, none⟩ (.slice ap pr.length cp)).heap[W2.heap.size]? = some (.cells #[.int .i64 id, .int .i64 kind, .slice af fr.length cf, .slice ap pr.length cp, .int .i64 0, .int .i64 0, .int .i64 0, .int .i64 0, .int .i64 0, .int .i64 0, .int .i64 0, .int .i64 0, .int .i64 0] 49) := by rw [set_self h54]; rfl
  have H5t := Lib.hid h5t
  have z4 := k4.1
  rw [World.size_setCell] at z4
  clear o4 r4 g4 k4 h54 h5t
  go_wp2_with fail
  clear q3 f3 p3
  refine (N5.out _ R4s.out G4s.out (by omega)).mono ?_
  rintro e W5 ⟨rfl, r5, g5, k5⟩
  have h55 := k5.2 W2.heap.size (heap_lt H5t.out) hTA hTB
  rw [H5t.out] at h55
  have q4 := cell_of (o := 4) h55
  have f4 := frozen_of (o := 4) h55
  have p4 := Pre.mk (heap_lt h55)
  simp at q4
  have R5s := Lib.hid (RdAt.setOther (o := 4) (v := .int .i64 par) r5 hTA hTB)
  have G5s := Lib.hid (g5.set (o := 4) hT0 (.int .i64 par))
  have K5s := Lib.hid (Keep2.setNew (o := 4) (v := .int .i64 par) (K4s.out.trans k5) hTW)
  have O35 := Lib.hid (OwnAt.low (base' := W.heap.size) (OwnAt.setOther (o := 4) (x := .int .i64 par) (OwnAt.keep2 O34.out k5 R4s.out) h55 (by decide)) (by rw [World.size_alloc]; omega))
  have O45 := Lib.hid (OwnAt.low (base' := W.heap.size) (OwnAt.setOther (o := 4) (x := .int .i64 par) (OwnAt.keep2 O4s.out k5 R4s.out) h55 (by decide)) (by rw [World.size_setCell]; omega))
  have h5u : (W5.setCell ⟨W2.heap.size, 4, none⟩ (.int .i64 par)).heap[W2.heap.size]? = some (.cells (nodeArr id kind (.slice af fr.length cf) (.slice ap pr.length cp) par (padR (Gr.listS 0 2 0 s5).1)) 49) := by rw [set_self h55]; rfl
  have H5u := Lib.hid h5u
  clear r5 g5 k5 h55 h5u
  go_wp2
  go_loopg [22] 8 (fun gg s22 wr => ∃ k : Nat, k ≤ 8 ∧ 8 - k ≤ gg ∧ s22 = .int .i64 k ∧ Hid (RdAt w0.heap.size A B wr (Gr.listS 0 2 k s5).2) ∧ Hid (Grew w0 wr) ∧ Hid (Keep2 A B (W.alloc (.cells #[.int .i64 0, .int .i64 0, .slice none 0 0, .slice none 0 0, .int .i64 0, .int .i64 0, .int .i64 0, .int .i64 0, .int .i64 0, .int .i64 0, .int .i64 0, .int .i64 0, .int .i64 0] 49)) wr) ∧ Hid (wr.heap[W2.heap.size]? = some (.cells (nodeArr id kind (.slice af fr.length cf) (.slice ap pr.length cp) par (padR (Gr.listS 0 2 k s5).1)) 49)) ∧ Hid (OwnAt W.heap.size 3 1 encN wr (.slice af fr.length cf) fr) ∧ Hid (OwnAt W.heap.size 124 2 encI wr (.slice ap pr.length cp) pr))
  case atStart => exact ⟨0, by omega, by omega, rfl, R5s, G5s, K5s, H5u, O35, O45⟩
  case round =>
    obtain ⟨k, hk, hgg, rfl, HR, HGr, HK, HT, HF, HP⟩ := hrel
    obtain ⟨hl1, hl2⟩ := listS_len 0 2 k s5
    by_cases hlt : k < 8
    · have hsc := listS_succ 0 2 k s5
      have hnum := rdNum_any w0 A B (Gr.listS 0 2 k s5).2 0 2 wr HR.out HGr.out (by omega)
      have HSC := Lib.hid hsc
      have HNUM := Lib.hid hnum
      have HL1 := Lib.hid hl1
      clear hsc hnum hl1 hl2
      generalize Gr.numS 0 2 (Gr.listS 0 2 k s5).2 = y at *
      obtain ⟨y1, y2⟩ := y
      simp only at HNUM HSC
      generalize hLS : Gr.listS 0 2 k s5 = LS at *
      have HLS := Lib.hid hLS
      clear hLS
      go_wp2_with (go_at_call 53; refine HNUM.out.mono ?_; rintro e W6 ⟨rfl, r6, g6, k6⟩; (have h56 := k6.2 W2.heap.size (heap_lt HT.out) hTA hTB); rw [HT.out] at h56; (have q6 := cell_of (o := 5 + k) h56); rw [nodeArr_get _ _ _ _ _ _ _ (by rw [padR_len (by rw [HL1.out]; omega)]; exact hlt)] at q6; (have f6 := frozen_of (o := 5 + k) h56); (have p6 := Pre.mk (heap_lt h56)); (have R6 := Lib.hid r6); (have G6 := Lib.hid g6); (have K6 := Lib.hid k6); (have H56 := Lib.hid h56); clear r6 g6 k6 h56)
      have hT7 : (W6.setCell ⟨W2.heap.size, 5 + k, none⟩ (.int .i64 y1)).heap[W2.heap.size]? = some (.cells (nodeArr id kind (.slice af fr.length cf) (.slice ap pr.length cp) par (padR (LS.1 ++ [y1]))) 49) := by
        rw [set_self H56.out, nodeArr_set]
        have := padR_set (l := LS.1) (y := y1) (by rw [HL1.out]; exact hlt)
        rw [HL1.out] at this
        rw [this]
      have HT7 := Lib.hid hT7
      clear hT7
      go_roundg (8 - (k + 1))
      case measure => omega
      case rel => exact ⟨k + 1, by omega, by omega, by go_num, Lib.hid (by rw [HSC.out]; exact R6.out.setOther hTA hTB), Lib.hid (G6.out.set hT0 _), Lib.hid (Keep2.setNew (HK.out.trans K6.out) hTW), Lib.hid (by rw [HSC.out]; exact HT7.out), Lib.hid (OwnAt.setOther (OwnAt.keep2 HF.out K6.out HR.out) H56.out (by decide)), Lib.hid (OwnAt.setOther (OwnAt.keep2 HP.out K6.out HR.out) H56.out (by decide))⟩
    · obtain rfl : k = 8 := by omega
      generalize hLS : Gr.listS 0 2 8 s5 = LS at *
      obtain ⟨o, s6⟩ := LS
      simp only at hl1 hl2 HT HR
      obtain ⟨o0, o1, o2, o3, o4, o5, o6, o7, rfl⟩ := eight o hl1
      have hT8 : wr.heap[W2.heap.size]? = some (.cells #[.int .i64 id, .int .i64 kind, .slice af fr.length cf, .slice ap pr.length cp, .int .i64 par, .int .i64 o0, .int .i64 o1, .int .i64 o2, .int .i64 o3, .int .i64 o4, .int .i64 o5, .int .i64 o6, .int .i64 o7] 49) := HT.out
      have hT4 := HK.out.2 W.heap.size (by rw [World.size_alloc]; omega) (by omega) (by omega)
      rw [HT4.out] at hT4
      have c0 := cell_of (o := 0) hT8
      have c1 := cell_of (o := 1) hT8
      have c2 := cell_of (o := 2) hT8
      have c3 := cell_of (o := 3) hT8
      have c4 := cell_of (o := 4) hT8
      have c5 := cell_of (o := 5) hT8
      have c6 := cell_of (o := 6) hT8
      have c7 := cell_of (o := 7) hT8
      have c8 := cell_of (o := 8) hT8
      have c9 := cell_of (o := 9) hT8
      have c10 := cell_of (o := 10) hT8
      have c11 := cell_of (o := 11) hT8
      have c12 := cell_of (o := 12) hT8
      have d0 := cell_of (o := 0) hT4
      have f0 := frozen_of (o := 0) hT4
      have d1 := cell_of (o := 1) hT4
      have f1 := frozen_of (o := 1) hT4
      have d2 := cell_of (o := 2) hT4
      have f2 := frozen_of (o := 2) hT4
      have d3 := cell_of (o := 3) hT4
      have f3 := frozen_of (o := 3) hT4
      have d4 := cell_of (o := 4) hT4
      have f4 := frozen_of (o := 4) hT4
      have d5 := cell_of (o := 5) hT4
      have f5 := frozen_of (o := 5) hT4
      have d6 := cell_of (o := 6) hT4
      have f6 := frozen_of (o := 6) hT4
      have d7 := cell_of (o := 7) hT4
      have f7 := frozen_of (o := 7) hT4
      have d8 := cell_of (o := 8) hT4
      have f8 := frozen_of (o := 8) hT4
      have d9 := cell_of (o := 9) hT4
      have f9 := frozen_of (o := 9) hT4
      have d10 := cell_of (o := 10) hT4
      have f10 := frozen_of (o := 10) hT4
      have d11 := cell_of (o := 11) hT4
      have f11 := frozen_of (o := 11) hT4
      have d12 := cell_of (o := 12) hT4
      have f12 := frozen_of (o := 12) hT4
      have pT4 := Pre.mk (heap_lt hT4)
      have pT8 := Pre.mk (heap_lt hT8)
      have hne : W2.heap.size ≠ W.heap.size := by omega
      have HT4b := Lib.hid hT4
      simp at c0 c1 c2 c3 c4 c5 c6 c7 c8 c9 c10 c11 c12 d0 d1 d2 d3 d4 d5 d6 d7 d8 d9 d10 d11 d12
      clear hT8 hT4 hLS
      go_wp2
      have hA4 : W.heap.size ≠ A := by omega
      have hB4 : W.heap.size ≠ B := by omega
      have hF4 := OwnAt.other HF.out HT4b.out (by decide)
      have hP4 := OwnAt.other HP.out HT4b.out (by decide)
      refine bodyPost_ret (v := .agg #[.int .i64 id, .int .i64 kind, .slice af fr.length cf, .slice ap pr.length cp, .int .i64 par, .int .i64 o0, .int .i64 o1, .int .i64 o2, .int .i64 o3, .int .i64 o4, .int .i64 o5, .int .i64 o6, .int .i64 o7])
        (res_node rfl rfl ?_) rfl
        (rdNode_made ⟨id, kind, af, fr.length, cf, ap, pr.length, cp, par, o0, o1, o2, o3, o4, o5, o6, o7⟩ rfl rfl rfl rfl ?_ ?_ ?_ ?_ ?_)
      · exact set13 HT4b.out _ _ _ _ _ _ _ _ _ _ _ _ _
      · exact OwnAt.same HF.out fun b hb => by
          have : W.heap.size ≠ b := fun e => hF4 (by rw [e]; exact hb)
          iterate 13 rw [set_other this]
      · exact OwnAt.same HP.out fun b hb => by
          have : W.heap.size ≠ b := fun e => hP4 (by rw [e]; exact hb)
          iterate 13 rw [set_other this]
      · iterate 13 refine RdAt.setOther ?_ hA4 hB4
        exact HR.out
      · have hWW : w0.heap.size ≤ W.heap.size := HG.out.below.size
        iterate 13 refine Grew.set ?_ hWW _
        exact HGr.out
      · iterate 13 refine Keep2.setNew ?_ (Nat.le_refl _)
        exact (Keep2.ofGrew (by repeat (first | with_reducible exact Grew.refl _ | apply Grew.more | apply Grew.alloc | apply Grew.drew | apply Grew.drewN))).trans HK.out
end Go.Proofs.YtlgbipfpnfphjaaGreatDoor

/-! pack's reader: nodes; sorted; GetGraph. -/
namespace Go.Proofs.YtlgbipfpnfphjaaGreatDoor
set_option linter.unusedSimpArgs false
set_option linter.unusedVariables false
open Go.RowKit Ga
set_option maxRecDepth 100000

theorem OwnsNd.keep2 {base base0 A B : Nat} {w w' : World} {c : NdC} {n : Gr.Nd} {s : Gr.Rs} (o : OwnsNd base w c n) (hk : Keep2 A B w w') (hr : RdAt base0 A B w s) : OwnsNd base w' c n := ⟨OwnAt.keep2 o.1 hk hr, OwnAt.keep2 o.2 hk hr⟩
theorem NodesIn.keep2 {base base0 A B : Nat} {w w' : World} {lc : List NdC} {l : List Gr.Nd} {s : Gr.Rs} (h : NodesIn base w lc l) (hk : Keep2 A B w w') (hr : RdAt base0 A B w s) : NodesIn base w' lc l :=
  Rel.mono (fun c n ⟨h1, h2⟩ => ⟨(h2.keep2 hk hr).is h1, h2.keep2 hk hr⟩) h
theorem nodeS_len (lp : Int) (s : Gr.Rs) : (Gr.nodeS getL lp s).2.1.length ≤ s.1.length := by
  unfold Gr.nodeS
  simp only
  have l1 := numS_len 0 7 s
  have l2 := numS_len 0 2 (Gr.numS 0 7 s).2
  generalize (Gr.numS 0 2 (Gr.numS 0 7 s).2).2 = s2 at *
  have l3 := numS_len 0 3 s2
  have l4 := (listS_len 0 7 (Gr.numS 0 3 s2).1.toNat (Gr.numS 0 3 s2).2).2
  generalize (Gr.listS 0 7 (Gr.numS 0 3 s2).1.toNat (Gr.numS 0 3 s2).2).2 = s3 at *
  have l5 := progS_len s3
  generalize (Gr.progS getL s3).2 = s4 at *
  have l6 := numS_len lp 3 s4
  have l7 := (listS_len 0 2 8 (Gr.numS lp 3 s4).2).2
  omega
end Go.Proofs.YtlgbipfpnfphjaaGreatDoor

/-! pack.sorted: the nodes stand by their numbers. -/
namespace Go.Proofs.YtlgbipfpnfphjaaGreatDoor
set_option linter.unusedSimpArgs false
set_option linter.unusedVariables false
open Go.RowKit Ga
set_option maxRecDepth 100000

end Go.Proofs.YtlgbipfpnfphjaaGreatDoor

/-! pack.GetGraph. -/
namespace Go.Proofs.YtlgbipfpnfphjaaGreatDoor
set_option linter.unusedSimpArgs false
set_option linter.unusedVariables false
open Go.RowKit Ga
set_option maxRecDepth 100000

theorem readL_many : ∀ (n : Nat) (s : List UInt8) (acc : List Val), (readL n s acc).1.length ≤ acc.length + n
  | 0, s, acc => Nat.le_refl _
  | n + 1, s, acc => by
    rw [readL]
    split
    · simp
    · split
      · simp
      · have := readL_many n (numR (within s 0 17).2.2).2.2 (acc ++ [((within s 0 17).1, (numR (within s 0 17).2.2).1)])
        rw [List.length_append] at this
        simp at this
        omega
theorem getL_many (s : List UInt8) : (getL s).1.length ≤ 24 := by
  have h0 : (within s 0 24).1.toNat ≤ 24 := by
    have := numS_range (a := 0) (b := 24) (s, 0) (by omega) (by omega)
    unfold Gr.numS at this
    rw [if_neg (by simp)] at this
    have h2 : (within s 0 24).1 ≤ 24 := this.2
    omega
  have h1 := readL_many (within s 0 24).1.toNat (within s 0 24).2.2 []
  simp only [List.length_nil, Nat.zero_add] at h1
  unfold getL
  split
  · simp
  · split
    · omega
    · split
      · omega
      · simp
theorem nodeS_small (lp : Int) (s : Gr.Rs) : (Gr.nodeS getL lp s).1.frm.length ≤ 3 ∧ (Gr.nodeS getL lp s).1.prog.length ≤ 24 ∧ 0 ≤ (Gr.nodeS getL lp s).1.id ∧ (Gr.nodeS getL lp s).1.id ≤ 7 ∧ (Gr.nodeS getL lp s).1.route.length = 8 := by
  unfold Gr.nodeS
  simp only
  have h1 := numS_range (a := 0) (b := 7) s (by omega) (by omega)
  refine ⟨?_, ?_, h1.1, h1.2, (listS_len 0 2 8 _).1⟩
  · rw [(listS_len 0 7 _ _).1]
    have := numS_range (a := 0) (b := 3) (Gr.numS 0 2 (Gr.numS 0 7 s).2).2 (by omega) (by omega)
    omega
  · unfold Gr.progS
    split
    · simp
    · exact getL_many _
theorem NodesAt.nil (w : World) : NodesAt w (.slice none 0 0) [] := ⟨[], RowsAt.nil, rfl, fun i c n h => by simp at h⟩
theorem rd_new (w : World) (s : List UInt8) : RdAt w.heap.size (w.heap.size + 1) w.heap.size ((w.alloc (.cells #[.string ⟨s.toArray⟩] 138)).alloc (.cells #[.pointer (some ⟨w.heap.size, 0, none⟩), .int .i64 0] 100)) (s, 0) :=
  ⟨by omega, heap_new_at _ _ _ (by rw [World.size_alloc]), Nat.le_refl _, heap_alloc_old (heap_new_at _ _ _ rfl) _⟩

end Go.Proofs.YtlgbipfpnfphjaaGreatDoor

/-! [8]int: equal. -/
namespace Go.Proofs.YtlgbipfpnfphjaaGreatDoor
set_option linter.unusedSimpArgs false
set_option linter.unusedVariables false
open Go.RowKit Ga
set_option maxRecDepth 100000
set_option maxHeartbeats 4000000 in
theorem eq8 (r0 r1 r2 r3 r4 r5 r6 r7 s0 s1 s2 s3 s4 s5 s6 s7 : Int) (w : World) : (binOp .eql 47 (.agg #[.int .i64 r0, .int .i64 r1, .int .i64 r2, .int .i64 r3, .int .i64 r4, .int .i64 r5, .int .i64 r6, .int .i64 r7]) (.agg #[.int .i64 s0, .int .i64 s1, .int .i64 s2, .int .i64 s3, .int .i64 s4, .int .i64 s5, .int .i64 s6, .int .i64 s7])).run Tryz.prog w = .ok (.bool (decide ([r0, r1, r2, r3, r4, r5, r6, r7] = [s0, s1, s2, s3, s4, s5, s6, s7]))) w := by
  have u3 := Tryz.underlying3
  have a3 := Tryz.isAgg3
  have z3 := Tryz.sizeOf3
  obtain ⟨i, hi⟩ : ∃ i, Tryz.prog.info? 3 = some i := info_of_underlying u3
  rw [run_eql_struct, show (10000 : Nat) = 9999 + 1 from rfl, run_equalIn_array w 9999 _ _ Tryz.underlying47 hi]
  rw [show Tryz.prog.cellsOf 3 = 1 by kernel_rfl]
  rw [show List.range 8 = [0, 1, 2, 3, 4, 5, 6, 7] from rfl]
  simp only [Op.eqItems]
  go_simp
  by_cases h0 : r0 = s0
  · by_cases h1 : r1 = s1
    · by_cases h2 : r2 = s2
      · by_cases h3 : r3 = s3
        · by_cases h4 : r4 = s4
          · by_cases h5 : r5 = s5
            · by_cases h6 : r6 = s6
              · by_cases h7 : r7 = s7
                · simp [h0, h1, h2, h3, h4, h5, h6, h7]
                · simp [h0, h1, h2, h3, h4, h5, h6, h7]
              · simp [h0, h1, h2, h3, h4, h5, h6]
            · simp [h0, h1, h2, h3, h4, h5]
          · simp [h0, h1, h2, h3, h4]
        · simp [h0, h1, h2, h3]
      · simp [h0, h1, h2]
    · simp [h0, h1]
  · simp [h0]
end Go.Proofs.YtlgbipfpnfphjaaGreatDoor

/-! forebayref13.num, Node, Graph. -/
namespace Go.Proofs.YtlgbipfpnfphjaaGreatDoor
set_option linter.unusedSimpArgs false
set_option linter.unusedVariables false
open Go.RowKit Ga
set_option maxRecDepth 100000

theorem num13_any (n : Int) (h : Oc.fitsN n = true) (w : World) : Calls Tryz.prog 31 #[.int .i64 n] w (Gives (str (Oc.be n)) w) := by
  have HP := Lib.hid fun W => refPut01_any n h W
  clear h
  go_enter Tryz.func31, Tryz.ntmps31
  go_wp2_with (go_at_call 80; refine (HP.out _).mono ?_; rintro e w1 ⟨rfl, R3, n3, rfl⟩)
  go_ret
  refine ⟨rfl, ?_⟩
  repeat (first | with_reducible exact Grew.refl _ | apply Grew.more | apply Grew.alloc | apply Grew.drew | apply Grew.drewN)
theorem enc_rt {a0 a1 a2 a3 a4 : Value} {r0 r1 r2 r3 r4 r5 r6 r7 : Int} (g : Nat) (h : g < 8) : (#[a0, a1, a2, a3, a4, .int .i64 r0, .int .i64 r1, .int .i64 r2, .int .i64 r3, .int .i64 r4, .int .i64 r5, .int .i64 r6, .int .i64 r7] : Array Value)[5 + g]? = some (.int .i64 ([r0, r1, r2, r3, r4, r5, r6, r7] : List Int)[g]) := by
  rcases (show g = 0 ∨ g = 1 ∨ g = 2 ∨ g = 3 ∨ g = 4 ∨ g = 5 ∨ g = 6 ∨ g = 7 by omega) with rfl | rfl | rfl | rfl | rfl | rfl | rfl | rfl <;> rfl
set_option maxHeartbeats 8000000 in
theorem node13_any (c : NdC) (n : Gr.Nd) (lp : Int) (hlp : -2147483648 ≤ lp) (w : World) (hn : NodeIs w c n) (hok : Gr.OkB fitsP lp n) : Calls Tryz.prog 34 #[.agg #[.int .i64 c.id, .int .i64 c.kind, .slice c.af c.nf c.cf, .slice c.ap c.np c.cp, .int .i64 c.par, .int .i64 c.r0, .int .i64 c.r1, .int .i64 c.r2, .int .i64 c.r3, .int .i64 c.r4, .int .i64 c.r5, .int .i64 c.r6, .int .i64 c.r7]] w (Gives (str (Gr.putNd putI n)) w) := by
  have HF := Lib.hid hn.f
  have HP := Lib.hid hn.p
  have HFI : Hid (Co.fitsI n.prog = true) := Lib.hid hok.p
  have HFF := Lib.hid hok.f
  have HOO := Lib.hid hok.o
  have hfl := hok.m
  have hq := putNd_eq [] n
  obtain ⟨id, kind, af, cf, ap, cp, par, r0, r1, r2, r3, r4, r5, r6, r7, rfl⟩ := hn.lit
  have e1 := hn.id
  have e2 := hn.kind
  have e3 := hn.par
  have e4 := hn.route
  simp only at e1 e2 e3 e4 HF HP
  rw [List.nil_append, List.nil_append, be_three, be_one, e1, e2, e3, e4] at hq
  have f1 : Oc.fitsN id = true := by rw [← e1]; exact fits_of (by have := hok.i; omega) (by have := hok.i; omega)
  have f2 : Oc.fitsN kind = true := by rw [← e2]; exact fits_of (by have := hok.k; omega) (by have := hok.k; omega)
  have f3 : Oc.fitsN (n.frm.length : Int) = true := fits_of (by omega) (by omega)
  have f4 : Oc.fitsN par = true := by rw [← e3]; exact fits_of (by have := hok.r; omega) (by have := hok.r; omega)
  have E4 := Lib.hid e4
  have HQ := Lib.hid hq
  have hpl := putI_len n.prog hok.p
  clear hq e1 e2 e3 e4 hn hok
  generalize hpg : n.prog.length = pl at *
  obtain ⟨fr, hfr⟩ : ∃ fr, fr = n.frm := ⟨_, rfl⟩
  have HFR := Lib.hid hfr
  rw [← hfr] at HF HFF hfl HQ f3
  rw [← hfr]
  clear hfr hpg
  show Calls Tryz.prog 34 #[.agg #[.int .i64 id, .int .i64 kind, .slice af fr.length cf, .slice ap pl cp, .int .i64 par, .int .i64 r0, .int .i64 r1, .int .i64 r2, .int .i64 r3, .int .i64 r4, .int .i64 r5, .int .i64 r6, .int .i64 r7]] w _
  have b1 : (Oc.be id).length ≤ 4 := Nat.le_of_eq (Oc.be_len _)
  have b2 : (Oc.be kind).length ≤ 4 := Nat.le_of_eq (Oc.be_len _)
  have b3 : (Oc.be (fr.length : Int)).length ≤ 4 := Nat.le_of_eq (Oc.be_len _)
  have b4 : (Oc.be par).length ≤ 4 := Nat.le_of_eq (Oc.be_len _)
  go_enter Tryz.func34, Tryz.ntmps34
  go_wp2_with fail
  refine wp_region_seq 13 Tryz.mixed (by kernel_rfl) (by kernel_rfl) ?_
  iterate 13
    apply Seq.val
    focus
      rintro w1 u ⟨R1, n1, rfl⟩ hF
      simp [moreFacts, Fact.more, Oper.deps, Region.binds, List.filter_cons, World.more_drew] at hF
      simp [putFacts, Oper.deps, Region.binds, List.filter_cons, Region.dstOf, Fact.at, Act.put, World.more_drew]
      go_wp2_with (first
        | (go_at_call 31; refine (num13_any _ (by assumption) _).mono ?_; rintro e w1 ⟨rfl, R3, n3, rfl⟩)
        )
      exact ⟨by repeat (first | with_reducible exact Grew.refl _ | apply Grew.more | apply Grew.alloc | apply Grew.drew | apply Grew.drewN), rfl, _, _, rfl, rfl, rfl⟩
  rintro u w1 ⟨R1, n1, rfl⟩ hF
  clear hF
  simp [putFacts, Region.dstOf, Fact.at, Act.put, List.range_succ, World.more_drew]
  go_wp2
  have hT0 : (Oc.be id ++ (Oc.be kind ++ Oc.be (fr.length : Int))).length ≤ 12 := by simp only [List.length_append, Oc.be_len]; omega
  have hbe : (⟨(Oc.be id).toArray⟩ ++ ⟨(Oc.be kind).toArray⟩ ++ ⟨(Oc.be (fr.length : Int)).toArray⟩ : ByteArray) = ⟨(Oc.be id ++ (Oc.be kind ++ Oc.be (fr.length : Int))).toArray⟩ := by rw [str_cat, str_cat, List.append_assoc]
  rw [hbe]
  have hlen0 : (Oc.be (fr.length : Int)) = (Oc.be (fr.length : Int)) := rfl
  generalize Oc.be id ++ (Oc.be kind ++ Oc.be (fr.length : Int)) = T0 at *
  clear hbe hlen0
  go_loopg [3, 4] fr.length (fun gg s3 s4 wr => ∃ g : Nat, g ≤ fr.length ∧ fr.length - g ≤ gg ∧ s4 = .int .i64 g ∧ s3 = str (T0 ++ Oc.bes (fr.take g)) ∧ Hid (Grew w wr) ∧ Hid (wr.heap[w.heap.size]? = some (.cells #[.int .i64 id, .int .i64 kind, .slice af fr.length cf, .slice ap pl cp, .int .i64 par, .int .i64 r0, .int .i64 r1, .int .i64 r2, .int .i64 r3, .int .i64 r4, .int .i64 r5, .int .i64 r6, .int .i64 r7] 49)))
  case atStart => exact ⟨0, by omega, by omega, rfl, by simp [Oc.bes], Lib.hid (by repeat (first | with_reducible exact Grew.refl _ | apply Grew.more | apply Grew.alloc | apply Grew.drew | apply Grew.drewN)), Lib.hid (grew_heap (by repeat (first | with_reducible exact Grew.refl _ | apply Grew.more | apply Grew.alloc | apply Grew.drew | apply Grew.drewN)) (heap_new_at w _ _ rfl))⟩
  case round =>
    obtain ⟨g, hg8, hgg, rfl, rfl, HGR, HBX⟩ := hrel
    have d2 := cell_of (o := 2) HBX.out
    have d3 := cell_of (o := 3) HBX.out
    have d4 := cell_of (o := 4) HBX.out
    have px := Pre.mk (heap_lt HBX.out)
    simp at d2 d3 d4
    have hbl := Oc.bes_len (fr.take g)
    rw [List.length_take_of_le hg8] at hbl
    have hTl : (T0 ++ Oc.bes (fr.take g)).length ≤ 100 := by rw [List.length_append, hbl]; omega
    by_cases hlt : g < fr.length
    · obtain ⟨af', cf', e, -, hx⟩ := ints_open (HF.out.grew HGR.out)
      cases e
      obtain ⟨bf, offf, rfl, hpf, cx⟩ := hx g hlt
      have hbs := Oc.bes_succ fr g hlt
      have hfx := HFF.out _ (List.getElem_mem hlt)
      clear hx
      generalize fr[g] = x at *
      have fx : Oc.fitsN x = true := fits_of (by omega) (by omega)
      have bx : (Oc.be x).length ≤ 4 := Nat.le_of_eq (Oc.be_len _)
      have hns : T0 ++ Oc.bes (fr.take (g + 1)) = (T0 ++ Oc.bes (fr.take g)) ++ Oc.be x := by rw [hbs, List.append_assoc]
      have HNS := Lib.hid hns
      clear hns hbs hbl hfx d3 d4
      generalize T0 ++ Oc.bes (fr.take g) = T at *
      go_wp2_with (go_at_call 31; refine (num13_any _ fx _).mono ?_; rintro e w2 ⟨rfl, R5, n5, rfl⟩)
      go_roundg (fr.length - (g + 1))
      case measure => omega
      case rel => exact ⟨g + 1, by omega, by omega, by go_num, by rw [HNS.out]; exact congrArg Value.string (str_cat _ _), Lib.hid (HGR.out.trans (by repeat (first | with_reducible exact Grew.refl _ | apply Grew.more | apply Grew.alloc | apply Grew.drew | apply Grew.drewN))), Lib.hid (grew_heap (by repeat (first | with_reducible exact Grew.refl _ | apply Grew.more | apply Grew.alloc | apply Grew.drew | apply Grew.drewN)) HBX.out)⟩
    · obtain rfl : g = fr.length := by omega
      rw [List.take_length] at *
      generalize hT1 : T0 ++ Oc.bes fr = T1 at *
      have HT1 := Lib.hid hT1
      have HPg := Lib.hid (HP.out.grew HGR.out)
      have hpp : (putI n.prog).length ≤ 200 := hpl
      clear hT1 hbl
      go_wp2_with fail
      refine wp_region_seq 9 Tryz.mixed (by kernel_rfl) (by kernel_rfl) ?_
      iterate 9
        apply Seq.val
        focus
          rintro w1 u ⟨R1, n1, rfl⟩ hF
          simp [moreFacts, Fact.more, Oper.deps, Region.binds, List.filter_cons, World.more_drew] at hF
          simp [putFacts, Oper.deps, Region.binds, List.filter_cons, Region.dstOf, Fact.at, Act.put, World.more_drew]
          go_wp2_with (first
            | (go_at_call 82; refine (refPut04_any _ n.prog _ (HPg.out.grew (by repeat (first | with_reducible exact Grew.refl _ | apply Grew.more | apply Grew.alloc | apply Grew.drew | apply Grew.drewN))) HFI.out).mono ?_; rintro e w2 ⟨rfl, R5, n5, rfl⟩)
            | (go_at_call 31; refine (num13_any _ f4 _).mono ?_; rintro e w2 ⟨rfl, R5, n5, rfl⟩))
          exact ⟨by repeat (first | with_reducible exact Grew.refl _ | apply Grew.more | apply Grew.alloc | apply Grew.drew | apply Grew.drewN), rfl, _, _, rfl, rfl, rfl⟩
      rintro u w1 ⟨R1, n1, rfl⟩ hF
      clear hF
      simp [putFacts, Region.dstOf, Fact.at, Act.put, List.range_succ, World.more_drew]
      go_wp2
      have hbe2 : (⟨T1.toArray⟩ ++ ⟨(putI n.prog).toArray⟩ ++ ⟨(Oc.be par).toArray⟩ : ByteArray) = ⟨((T1 ++ putI n.prog) ++ Oc.be par).toArray⟩ := by rw [str_cat, str_cat]
      rw [hbe2]
      have hT2l : ((T1 ++ putI n.prog) ++ Oc.be par).length ≤ 400 := by simp only [List.length_append, Oc.be_len]; omega
      generalize hT2 : (T1 ++ putI n.prog) ++ Oc.be par = T2 at *
      have HT2 := Lib.hid hT2
      clear hbe2 hT2 d3 d4
      go_loopg [3, 5] 8 (fun gg s3 s5 ws => ∃ g : Nat, g ≤ 8 ∧ 8 - g ≤ gg ∧ s5 = .int .i64 g ∧ s3 = str (T2 ++ Oc.bes (([r0, r1, r2, r3, r4, r5, r6, r7] : List Int).take g)) ∧ Hid (Grew w ws) ∧ Hid (ws.heap[w.heap.size]? = some (.cells #[.int .i64 id, .int .i64 kind, .slice af fr.length cf, .slice ap pl cp, .int .i64 par, .int .i64 r0, .int .i64 r1, .int .i64 r2, .int .i64 r3, .int .i64 r4, .int .i64 r5, .int .i64 r6, .int .i64 r7] 49)))
      case atStart => exact ⟨0, by omega, by omega, rfl, by simp [Oc.bes], Lib.hid (HGR.out.trans (by repeat (first | with_reducible exact Grew.refl _ | apply Grew.more | apply Grew.alloc | apply Grew.drew | apply Grew.drewN))), Lib.hid (grew_heap (by repeat (first | with_reducible exact Grew.refl _ | apply Grew.more | apply Grew.alloc | apply Grew.drew | apply Grew.drewN)) HBX.out)⟩
      case round =>
        obtain ⟨h, hh8, hhg, rfl, rfl, HGS, HBS⟩ := hrel
        have px2 := Pre.mk (heap_lt HBS.out)
        have hbl2 := Oc.bes_len (([r0, r1, r2, r3, r4, r5, r6, r7] : List Int).take h)
        rw [List.length_take_of_le (show h ≤ ([r0, r1, r2, r3, r4, r5, r6, r7] : List Int).length from hh8)] at hbl2
        have hTl2 : (T2 ++ Oc.bes (([r0, r1, r2, r3, r4, r5, r6, r7] : List Int).take h)).length ≤ 500 := by rw [List.length_append, hbl2]; omega
        by_cases hlt2 : h < 8
        · have dg := cell_of (o := 5 + h) HBS.out
          rw [enc_rt h hlt2] at dg
          have hbs := Oc.bes_succ ([r0, r1, r2, r3, r4, r5, r6, r7] : List Int) h hlt2
          have hfx := HOO.out _ (by rw [E4.out]; exact List.getElem_mem (show h < ([r0, r1, r2, r3, r4, r5, r6, r7] : List Int).length from hlt2))
          have hns : T2 ++ Oc.bes (([r0, r1, r2, r3, r4, r5, r6, r7] : List Int).take (h + 1)) = (T2 ++ Oc.bes (([r0, r1, r2, r3, r4, r5, r6, r7] : List Int).take h)) ++ Oc.be ([r0, r1, r2, r3, r4, r5, r6, r7] : List Int)[h] := by rw [hbs, List.append_assoc]
          have HNS := Lib.hid hns
          clear hns hbs hbl2
          generalize ([r0, r1, r2, r3, r4, r5, r6, r7] : List Int)[h] = x at *
          have fx : Oc.fitsN x = true := fits_of (by omega) (by omega)
          have bx : (Oc.be x).length ≤ 4 := Nat.le_of_eq (Oc.be_len _)
          generalize T2 ++ Oc.bes (([r0, r1, r2, r3, r4, r5, r6, r7] : List Int).take h) = T at *
          clear hfx
          go_wp2_with (go_at_call 31; refine (num13_any _ fx _).mono ?_; rintro e w2 ⟨rfl, R7, n7, rfl⟩)
          go_roundg (8 - (h + 1))
          case measure => omega
          case rel => exact ⟨h + 1, by omega, by omega, by go_num, by rw [HNS.out]; exact congrArg Value.string (str_cat _ _), Lib.hid (HGS.out.trans (by repeat (first | with_reducible exact Grew.refl _ | apply Grew.more | apply Grew.alloc | apply Grew.drew | apply Grew.drewN))), Lib.hid (grew_heap (by repeat (first | with_reducible exact Grew.refl _ | apply Grew.more | apply Grew.alloc | apply Grew.drew | apply Grew.drewN)) HBS.out)⟩
        · obtain rfl : h = 8 := by omega
          clear hbl2
          go_wp2
          go_ret
          exact ⟨by rw [← HQ.out]; rfl, HGS.out⟩
end Go.Proofs.YtlgbipfpnfphjaaGreatDoor

/-! forebayref13.Graph. -/
namespace Go.Proofs.YtlgbipfpnfphjaaGreatDoor
set_option linter.unusedSimpArgs false
set_option linter.unusedVariables false
open Go.RowKit Ga
set_option maxRecDepth 100000

end Go.Proofs.YtlgbipfpnfphjaaGreatDoor

/-! forebayref08.Node, Same. -/
namespace Go.Proofs.YtlgbipfpnfphjaaGreatDoor
set_option linter.unusedSimpArgs false
set_option linter.unusedVariables false
open Go.RowKit Ga
set_option maxRecDepth 100000

open Classical in
/-- two nodes are one -/
noncomputable def eqNd (n m : Gr.Nd) : Bool := decide (n = m)
open Classical in
theorem eqNd_false {n m : Gr.Nd} (h : n ≠ m) : eqNd n m = false := by unfold eqNd; exact decide_eq_false h
open Classical in
theorem eqNd_true {n m : Gr.Nd} (h : n = m) : eqNd n m = true := by unfold eqNd; exact decide_eq_true h
theorem eqNd_iff {n m : Gr.Nd} {p : Prop} [Decidable p] (h : n = m ↔ p) : eqNd n m = decide p := by
  by_cases hp : p
  · rw [eqNd_true (h.2 hp), decide_eq_true hp]
  · rw [eqNd_false (fun q => hp (h.1 q)), decide_eq_false hp]
end Go.Proofs.YtlgbipfpnfphjaaGreatDoor

/-! graph.alike. -/
namespace Go.Proofs.YtlgbipfpnfphjaaGreatDoor
set_option linter.unusedSimpArgs false
set_option linter.unusedVariables false
open Go.RowKit Ga
set_option maxRecDepth 100000

set_option maxHeartbeats 8000000 in
theorem alike_any (c d : NdC) (n m : Gr.Nd) (w : World) (hn : NodeIs w c n) (hm : NodeIs w d m) : Calls Tryz.prog 137 #[.agg #[.int .i64 c.id, .int .i64 c.kind, .slice c.af c.nf c.cf, .slice c.ap c.np c.cp, .int .i64 c.par, .int .i64 c.r0, .int .i64 c.r1, .int .i64 c.r2, .int .i64 c.r3, .int .i64 c.r4, .int .i64 c.r5, .int .i64 c.r6, .int .i64 c.r7], .agg #[.int .i64 d.id, .int .i64 d.kind, .slice d.af d.nf d.cf, .slice d.ap d.np d.cp, .int .i64 d.par, .int .i64 d.r0, .int .i64 d.r1, .int .i64 d.r2, .int .i64 d.r3, .int .i64 d.r4, .int .i64 d.r5, .int .i64 d.r6, .int .i64 d.r7]] w (Gives (.bool (eqNd n m)) w) := by
  have HF := Lib.hid fun W (g : Grew w W) => eqInts_any _ _ n.frm m.frm W (hn.f.grew g) (hm.f.grew g)
  have HP := Lib.hid fun W (g : Grew w W) => eqVals_any _ _ n.prog m.prog W (hn.p.grew g) (hm.p.grew g)
  obtain ⟨id, kind, af, cf, ap, cp, par, r0, r1, r2, r3, r4, r5, r6, r7, rfl⟩ := hn.lit
  obtain ⟨id2, kind2, af2, cf2, ap2, cp2, par2, s0, s1, s2, s3, s4, s5, s6, s7, rfl⟩ := hm.lit
  have e1 := hn.id
  have e2 := hn.kind
  have e3 := hn.par
  have e4 := hn.route
  have g1 := hm.id
  have g2 := hm.kind
  have g3 := hm.par
  have g4 := hm.route
  simp only at e1 e2 e3 e4 g1 g2 g3 g4 HF HP
  have heq : eqNd n m = (decide (id = id2) && (decide (kind = kind2) && (decide (par = par2) && (decide ([r0, r1, r2, r3, r4, r5, r6, r7] = [s0, s1, s2, s3, s4, s5, s6, s7]) && (decide (n.frm = m.frm) && decide (n.prog = m.prog)))))) := by
    obtain ⟨i1, k1, f1, p1, q1, t1⟩ := n
    obtain ⟨i2, k2, f2, p2, q2, t2⟩ := m
    simp only at e1 e2 e3 e4 g1 g2 g3 g4
    subst e1 e2 e3 e4 g1 g2 g3 g4
    rw [← Bool.decide_and, ← Bool.decide_and, ← Bool.decide_and, ← Bool.decide_and, ← Bool.decide_and]
    exact eqNd_iff (by simp only [Gr.Nd.mk.injEq]; exact ⟨fun ⟨h1, h2, h3, h4, h5, h6⟩ => ⟨h1, h2, h5, h6, h3, h4⟩, fun ⟨h1, h2, h3, h4, h5, h6⟩ => ⟨h1, h2, h5, h6, h3, h4⟩⟩)
  have HEQ := Lib.hid heq
  have h8 := eq8 r0 r1 r2 r3 r4 r5 r6 r7 s0 s1 s2 s3 s4 s5 s6 s7
  have hfl : n.frm.length ≤ 9223372036854775807 := by obtain ⟨_, _, _, h, _⟩ := ints_open hn.f; exact h
  have hpl : n.prog.length ≤ 9223372036854775807 := by obtain ⟨_, _, _, h, _⟩ := hn.p.open2; exact h
  clear hn hm e1 e2 e3 e4 g1 g2 g3 g4 heq
  generalize hq8 : decide ([r0, r1, r2, r3, r4, r5, r6, r7] = [s0, s1, s2, s3, s4, s5, s6, s7]) = b8 at *
  generalize hqf : decide (n.frm = m.frm) = bf at *
  generalize hqp : decide (n.prog = m.prog) = bp at *
  clear hq8 hqf hqp
  generalize n.frm.length = nf at *
  generalize m.frm.length = mf at *
  generalize n.prog.length = np at *
  generalize m.prog.length = mp at *
  generalize eqNd n m = q at *
  by_cases h1 : id = id2
  case neg =>
    have hq : q = false := by rw [HEQ.out, decide_eq_false h1]; simp
    have HQ := Lib.hid hq
    have h1b : (id == id2) = false := by simpa using h1
    clear h1 hq
    go_enter Tryz.func137, Tryz.ntmps137
    go_wp2_with (first
    | (go_at_call 168; refine (HF.out _ (by repeat (first | with_reducible exact Grew.refl _ | apply Grew.more | apply Grew.alloc | apply Grew.drew | apply Grew.drewN))).mono ?_; rintro e w1 ⟨rfl, R1, n1, rfl⟩)
    | (go_at_call 169; refine (HP.out _ (by repeat (first | with_reducible exact Grew.refl _ | apply Grew.more | apply Grew.alloc | apply Grew.drew | apply Grew.drewN))).mono ?_; rintro e w1 ⟨rfl, R2, n2, rfl⟩))
    go_ret
    exact ⟨by rw [HQ.out]; rfl, by repeat (first | with_reducible exact Grew.refl _ | apply Grew.more | apply Grew.alloc | apply Grew.drew | apply Grew.drewN)⟩
  subst h1
  by_cases h2 : kind = kind2
  case neg =>
    have hq : q = false := by rw [HEQ.out, decide_eq_false h2]; simp
    have HQ := Lib.hid hq
    have h2b : (kind == kind2) = false := by simpa using h2
    clear h2 hq
    go_enter Tryz.func137, Tryz.ntmps137
    go_wp2_with (first
    | (go_at_call 168; refine (HF.out _ (by repeat (first | with_reducible exact Grew.refl _ | apply Grew.more | apply Grew.alloc | apply Grew.drew | apply Grew.drewN))).mono ?_; rintro e w1 ⟨rfl, R1, n1, rfl⟩)
    | (go_at_call 169; refine (HP.out _ (by repeat (first | with_reducible exact Grew.refl _ | apply Grew.more | apply Grew.alloc | apply Grew.drew | apply Grew.drewN))).mono ?_; rintro e w1 ⟨rfl, R2, n2, rfl⟩))
    go_ret
    exact ⟨by rw [HQ.out]; rfl, by repeat (first | with_reducible exact Grew.refl _ | apply Grew.more | apply Grew.alloc | apply Grew.drew | apply Grew.drewN)⟩
  subst h2
  by_cases h3 : par = par2
  case neg =>
    have hq : q = false := by rw [HEQ.out, decide_eq_false h3]; simp
    have HQ := Lib.hid hq
    have h3b : (par == par2) = false := by simpa using h3
    clear h3 hq
    go_enter Tryz.func137, Tryz.ntmps137
    go_wp2_with (first
    | (go_at_call 168; refine (HF.out _ (by repeat (first | with_reducible exact Grew.refl _ | apply Grew.more | apply Grew.alloc | apply Grew.drew | apply Grew.drewN))).mono ?_; rintro e w1 ⟨rfl, R1, n1, rfl⟩)
    | (go_at_call 169; refine (HP.out _ (by repeat (first | with_reducible exact Grew.refl _ | apply Grew.more | apply Grew.alloc | apply Grew.drew | apply Grew.drewN))).mono ?_; rintro e w1 ⟨rfl, R2, n2, rfl⟩))
    go_ret
    exact ⟨by rw [HQ.out]; rfl, by repeat (first | with_reducible exact Grew.refl _ | apply Grew.more | apply Grew.alloc | apply Grew.drew | apply Grew.drewN)⟩
  subst h3
  cases b8
  · have hq : q = false := by rw [HEQ.out]; simp
    have HQ := Lib.hid hq
    clear hq
    go_enter Tryz.func137, Tryz.ntmps137
    go_wp2_with (first
    | (go_at_call 168; refine (HF.out _ (by repeat (first | with_reducible exact Grew.refl _ | apply Grew.more | apply Grew.alloc | apply Grew.drew | apply Grew.drewN))).mono ?_; rintro e w1 ⟨rfl, R1, n1, rfl⟩)
    | (go_at_call 169; refine (HP.out _ (by repeat (first | with_reducible exact Grew.refl _ | apply Grew.more | apply Grew.alloc | apply Grew.drew | apply Grew.drewN))).mono ?_; rintro e w1 ⟨rfl, R2, n2, rfl⟩))
    go_ret
    exact ⟨by rw [HQ.out]; rfl, by repeat (first | with_reducible exact Grew.refl _ | apply Grew.more | apply Grew.alloc | apply Grew.drew | apply Grew.drewN)⟩
  cases bf
  · have hq : q = false := by rw [HEQ.out]; simp
    have HQ := Lib.hid hq
    clear hq
    go_enter Tryz.func137, Tryz.ntmps137
    go_wp2_with (first
    | (go_at_call 168; refine (HF.out _ (by repeat (first | with_reducible exact Grew.refl _ | apply Grew.more | apply Grew.alloc | apply Grew.drew | apply Grew.drewN))).mono ?_; rintro e w1 ⟨rfl, R1, n1, rfl⟩)
    | (go_at_call 169; refine (HP.out _ (by repeat (first | with_reducible exact Grew.refl _ | apply Grew.more | apply Grew.alloc | apply Grew.drew | apply Grew.drewN))).mono ?_; rintro e w1 ⟨rfl, R2, n2, rfl⟩))
    go_ret
    exact ⟨by rw [HQ.out]; rfl, by repeat (first | with_reducible exact Grew.refl _ | apply Grew.more | apply Grew.alloc | apply Grew.drew | apply Grew.drewN)⟩
  · have hq : q = bp := by rw [HEQ.out]; simp
    have HQ := Lib.hid hq
    clear hq
    go_enter Tryz.func137, Tryz.ntmps137
    go_wp2_with (first
    | (go_at_call 168; refine (HF.out _ (by repeat (first | with_reducible exact Grew.refl _ | apply Grew.more | apply Grew.alloc | apply Grew.drew | apply Grew.drewN))).mono ?_; rintro e w1 ⟨rfl, R1, n1, rfl⟩)
    | (go_at_call 169; refine (HP.out _ (by repeat (first | with_reducible exact Grew.refl _ | apply Grew.more | apply Grew.alloc | apply Grew.drew | apply Grew.drewN))).mono ?_; rintro e w1 ⟨rfl, R2, n2, rfl⟩))
    go_ret
    exact ⟨by rw [HQ.out]; rfl, by repeat (first | with_reducible exact Grew.refl _ | apply Grew.more | apply Grew.alloc | apply Grew.drew | apply Grew.drewN)⟩
end Go.Proofs.YtlgbipfpnfphjaaGreatDoor

/-! forebayref08.Same. -/
namespace Go.Proofs.YtlgbipfpnfphjaaGreatDoor
set_option linter.unusedSimpArgs false
set_option linter.unusedVariables false
open Go.RowKit Ga
set_option maxRecDepth 100000

end Go.Proofs.YtlgbipfpnfphjaaGreatDoor

/-! graph.Pass at two parts. -/
namespace Go.Proofs.YtlgbipfpnfphjaaGreatDoor
set_option linter.unusedSimpArgs false
set_option linter.unusedVariables false
open Go.RowKit Ga
set_option maxRecDepth 100000

end Go.Proofs.YtlgbipfpnfphjaaGreatDoor

/-! forebaylaw13: awake. -/
namespace Go.Proofs.YtlgbipfpnfphjaaGreatDoor
set_option linter.unusedSimpArgs false
set_option linter.unusedVariables false
open Go.RowKit Ga
set_option maxRecDepth 100000

end Go.Proofs.YtlgbipfpnfphjaaGreatDoor
