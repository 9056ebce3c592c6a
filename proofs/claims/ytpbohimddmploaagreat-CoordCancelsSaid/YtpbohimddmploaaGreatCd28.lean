import Derived.Test.YtpbohimddmploaaGreatCd23
import Derived.Test.YtpbohimddmploaaGreatCd11
import Derived.ChangeKeysEq
import Derived.Test.YtpbohimddmploaaGreatCd14
import Derived.Test.YtpbohimddmploaaGreatCd21
import Derived.Test.YtpbohimddmploaaGreatCd10
import Derived.Test.YtpbohimddmploaaGreatCd6
set_option linter.unusedSimpArgs false
set_option linter.unusedVariables false
set_option maxRecDepth 100000
set_option maxHeartbeats 64000000
namespace Go.Proofs.YtpbohimddmploaaGreat
open Go.RowKit Ga

def nodeArr (id kind : Int) (vf vp : Value) (par : Int) (rs : List Int) : Array Value := #[.int .i64 id, .int .i64 kind, vf, vp, .int .i64 par] ++ (rs.map (Value.int .i64)).toArray
theorem nodeArr_set (id kind : Int) (vf vp : Value) (par : Int) (rs : List Int) (k : Nat) (y : Int) : (nodeArr id kind vf vp par rs).setIfInBounds (5 + k) (.int .i64 y) = nodeArr id kind vf vp par (rs.set k y) := by
  unfold nodeArr
  apply Array.ext'
  simp only [Array.toList_setIfInBounds, Array.toList_append, List.map_set]
  rw [List.set_append_right _ _ (by simp)]
  simp
theorem nodeArr_get (id kind : Int) (vf vp : Value) (par : Int) (rs : List Int) (k : Nat) (h : k < rs.length) : (nodeArr id kind vf vp par rs)[5 + k]? = some (.int .i64 rs[k]) := by
  unfold nodeArr
  rw [Array.getElem?_append_right (by simp)]
  simp [h]
def padR (l : List Int) : List Int := l ++ List.replicate (8 - l.length) 0
theorem padR_len {l : List Int} (h : l.length ≤ 8) : (padR l).length = 8 := by unfold padR; rw [List.length_append, List.length_replicate]; omega
theorem padR_set {l : List Int} {y : Int} (h : l.length < 8) : (padR l).set l.length y = padR (l ++ [y]) := by
  unfold padR
  rw [List.set_append_right _ _ (Nat.le_refl _), Nat.sub_self, List.length_append, List.append_assoc]
  obtain ⟨m, hm⟩ : ∃ m, 8 - l.length = m + 1 := ⟨7 - l.length, by omega⟩
  rw [hm, show 8 - (l.length + [y].length) = m by simp; omega]
  rfl
theorem Keep2.setNew {A B C : Nat} {w W : World} {o : Nat} {v : Value} (h : Keep2 A B w W) (hC : w.heap.size ≤ C) : Keep2 A B w (W.setCell ⟨C, o, none⟩ v) :=
  ⟨by rw [World.size_setCell]; exact h.1, fun q hq h1 h2 => by rw [set_other (show C ≠ q by omega)]; exact h.2 q hq h1 h2⟩
theorem eight (l : List Int) (h : l.length = 8) : ∃ o0 o1 o2 o3 o4 o5 o6 o7, l = [o0, o1, o2, o3, o4, o5, o6, o7] := by
  match l, h with
  | [o0, o1, o2, o3, o4, o5, o6, o7], _ => exact ⟨o0, o1, o2, o3, o4, o5, o6, o7, rfl⟩
def RdNode (w0 W : World) (A B : Nat) (n : Gr.Nd) (s : Gr.Rs) (e : Ending) (W' : World) : Prop := ∃ c : NdC, e = .returned (.agg #[.int .i64 c.id, .int .i64 c.kind, .slice c.af c.nf c.cf, .slice c.ap c.np c.cp, .int .i64 c.par, .int .i64 c.r0, .int .i64 c.r1, .int .i64 c.r2, .int .i64 c.r3, .int .i64 c.r4, .int .i64 c.r5, .int .i64 c.r6, .int .i64 c.r7]) ∧ NodeIs W' c n ∧ OwnsNd W.heap.size W' c n ∧ RdAt w0.heap.size A B W' s ∧ Grew w0 W' ∧ Keep2 A B W W'
theorem set13 {W : World} {q : Nat} {t : TypeId} {u0 u1 u2 u3 u4 u5 u6 u7 u8 u9 u10 u11 u12 : Value} (h : W.heap[q]? = some (.cells #[u0, u1, u2, u3, u4, u5, u6, u7, u8, u9, u10, u11, u12] t)) (v0 v1 v2 v3 v4 v5 v6 v7 v8 v9 v10 v11 v12 : Value) : (((((((((((((W.setCell ⟨q, 0, none⟩ v0).setCell ⟨q, 1, none⟩ v1).setCell ⟨q, 2, none⟩ v2).setCell ⟨q, 3, none⟩ v3).setCell ⟨q, 4, none⟩ v4).setCell ⟨q, 5, none⟩ v5).setCell ⟨q, 6, none⟩ v6).setCell ⟨q, 7, none⟩ v7).setCell ⟨q, 8, none⟩ v8).setCell ⟨q, 9, none⟩ v9).setCell ⟨q, 10, none⟩ v10).setCell ⟨q, 11, none⟩ v11).setCell ⟨q, 12, none⟩ v12).heap[q]? = some (.cells #[v0, v1, v2, v3, v4, v5, v6, v7, v8, v9, v10, v11, v12] t) := by
  have h0 := set_self (o := 0) (v := v0) h
  simp at h0
  have h1 := set_self (o := 1) (v := v1) h0
  simp at h1
  have h2 := set_self (o := 2) (v := v2) h1
  simp at h2
  have h3 := set_self (o := 3) (v := v3) h2
  simp at h3
  have h4 := set_self (o := 4) (v := v4) h3
  simp at h4
  have h5 := set_self (o := 5) (v := v5) h4
  simp at h5
  have h6 := set_self (o := 6) (v := v6) h5
  simp at h6
  have h7 := set_self (o := 7) (v := v7) h6
  simp at h7
  have h8 := set_self (o := 8) (v := v8) h7
  simp at h8
  have h9 := set_self (o := 9) (v := v9) h8
  simp at h9
  have h10 := set_self (o := 10) (v := v10) h9
  simp at h10
  have h11 := set_self (o := 11) (v := v11) h10
  simp at h11
  have h12 := set_self (o := 12) (v := v12) h11
  simp at h12
  exact h12
theorem res_node {W : World} {tmps : Array Value} {q : Nat} {id kind par o0 o1 o2 o3 o4 o5 o6 o7 : Int} {vf vp : Value} (hs : tmps.size = 32) (ht : tmps[4]? = some (.pointer (some ⟨q, 0, none⟩))) (h : W.heap[q]? = some (.cells #[.int .i64 id, .int .i64 kind, vf, vp, .int .i64 par, .int .i64 o0, .int .i64 o1, .int .i64 o2, .int .i64 o3, .int .i64 o4, .int .i64 o5, .int .i64 o6, .int .i64 o7] 56)) :
    (results Tryz.f110 tmps).run Tryz.prog W = .ok (.agg #[.int .i64 id, .int .i64 kind, vf, vp, .int .i64 par, .int .i64 o0, .int .i64 o1, .int .i64 o2, .int .i64 o3, .int .i64 o4, .int .i64 o5, .int .i64 o6, .int .i64 o7]) W := by
  have c0 := cell_of (o := 0) h
  have c1 := cell_of (o := 1) h
  have c2 := cell_of (o := 2) h
  have c3 := cell_of (o := 3) h
  have c4 := cell_of (o := 4) h
  have c5 := cell_of (o := 5) h
  have c6 := cell_of (o := 6) h
  have c7 := cell_of (o := 7) h
  have c8 := cell_of (o := 8) h
  have c9 := cell_of (o := 9) h
  have c10 := cell_of (o := 10) h
  have c11 := cell_of (o := 11) h
  have c12 := cell_of (o := 12) h
  have ht2 : tmps.getD 4 undef = .pointer (some ⟨q, 0, none⟩) := by rw [Array.getD_eq_getD_getElem?, ht]; rfl
  simp at c0 c1 c2 c3 c4 c5 c6 c7 c8 c9 c10 c11 c12
  simp [results, Tryz.results110, go_sem, ht, c0, c1, c2, c3, c4, c5, c6, c7, c8, c9, c10, c11, c12]
theorem rdNode_made {w0 W W' : World} {A B : Nat} (c : NdC) {n : Gr.Nd} {s : Gr.Rs} (hi : n.id = c.id) (hk : n.kind = c.kind) (hp : n.par = c.par) (hr : n.route = [c.r0, c.r1, c.r2, c.r3, c.r4, c.r5, c.r6, c.r7])
    (o1 : OwnAt W.heap.size 3 1 encN W' c.vf n.frm) (o2 : OwnAt W.heap.size 190 2 encI W' c.vp n.prog) (h1 : RdAt w0.heap.size A B W' s) (h2 : Grew w0 W') (h3 : Keep2 A B W W') : RdNode w0 W A B n s (.returned (.agg #[.int .i64 c.id, .int .i64 c.kind, .slice c.af c.nf c.cf, .slice c.ap c.np c.cp, .int .i64 c.par, .int .i64 c.r0, .int .i64 c.r1, .int .i64 c.r2, .int .i64 c.r3, .int .i64 c.r4, .int .i64 c.r5, .int .i64 c.r6, .int .i64 c.r7])) W' :=
  ⟨c, rfl, ⟨hi, hk, o1.rows encN_len, o2.rows encI_len, hp, hr, OwnAt.cap o1⟩, ⟨o1, o2⟩, h1, h2, h3⟩
theorem rdNode_any (w0 : World) (A B : Nat) (s : Gr.Rs) (lp : Int) (hlp : lp ≤ 0 ∨ lp ≤ 3) (W : World) (h : RdAt w0.heap.size A B W s) (hg : Grew w0 W) (hs : s.1.length ≤ 1000000) :
    Calls Tryz.prog 110 #[.pointer (some ⟨A, 0, none⟩), .int .i64 lp] W (RdNode w0 W A B (Gr.nodeS getL lp s).1 (Gr.nodeS getL lp s).2) := by
  have hAlt := heap_lt h.2.1
  have hBlt := heap_lt h.2.2.2
  have hAB := h.ne
  have HH := Lib.hid h
  have HG := Lib.hid hg
  clear h hg
  -- the numbers that come up
  have n1 := rdNum_any w0 A B s 0 7
  have l1 := numS_len 0 7 s
  obtain ⟨id, s1, e1⟩ : ∃ x t, Gr.numS 0 7 s = (x, t) := ⟨_, _, rfl⟩
  rw [e1] at n1 l1
  have n2 := rdNum_any w0 A B s1 0 2
  have l2 := numS_len 0 2 s1
  obtain ⟨kind, s2, e2⟩ : ∃ x t, Gr.numS 0 2 s1 = (x, t) := ⟨_, _, rfl⟩
  rw [e2] at n2 l2
  have n3 := rdList_any w0 A B s2 3 0 7
  have l3 := (listS_len 0 7 (Gr.numS 0 3 s2).1.toNat (Gr.numS 0 3 s2).2).2
  have l3' := numS_len 0 3 s2
  obtain ⟨fr, s3, e3⟩ : ∃ x t, Gr.listS 0 7 (Gr.numS 0 3 s2).1.toNat (Gr.numS 0 3 s2).2 = (x, t) := ⟨_, _, rfl⟩
  rw [e3] at n3 l3
  have n4 := rdProg_any w0 A B s3
  have l4 := progS_len s3
  obtain ⟨pr, s4, e4⟩ : ∃ x t, Gr.progS getL s3 = (x, t) := ⟨_, _, rfl⟩
  rw [e4] at n4 l4
  have n5 := rdNum_any w0 A B s4 lp 3
  have l5 := numS_len lp 3 s4
  obtain ⟨par, s5, e5⟩ : ∃ x t, Gr.numS lp 3 s4 = (x, t) := ⟨_, _, rfl⟩
  rw [e5] at n5 l5
  have hres : Gr.nodeS getL lp s = (⟨id, kind, fr, pr, par, (Gr.listS 0 2 8 s5).1⟩, (Gr.listS 0 2 8 s5).2) := by
    unfold Gr.nodeS
    simp only [e1, e2, e3, e4, e5]
  rw [hres]
  simp only at n1 n2 n3 n4 n5 l1 l2 l3 l4 l5
  have N1 := Lib.hid n1
  have N2 := Lib.hid n2
  have N3 := Lib.hid n3
  have N4 := Lib.hid n4
  have N5 := Lib.hid n5
  clear hres e1 e2 e3 e4 e5 n1 n2 n3 n4 n5
  have HT4 := Lib.hid (heap_new_at W (.cells #[.int .i64 0, .int .i64 0, .slice none 0 0, .slice none 0 0, .int .i64 0, .int .i64 0, .int .i64 0, .int .i64 0, .int .i64 0, .int .i64 0, .int .i64 0, .int .i64 0, .int .i64 0] 56) _ rfl)
  go_enter Tryz.func110, Tryz.ntmps110
  go_wp2_with fail
  refine (N1.out _ (HH.out.grew (by repeat (first | with_reducible exact Grew.refl _ | apply Grew.more | apply Grew.alloc | apply Grew.drew | apply Grew.drewN))) (HG.out.trans (by repeat (first | with_reducible exact Grew.refl _ | apply Grew.more | apply Grew.alloc | apply Grew.drew | apply Grew.drewN))) hs).mono ?_
  rintro e W1 ⟨rfl, r1, g1, k1⟩
  have R1 := Lib.hid r1
  have G1 := Lib.hid g1
  have K1 := Lib.hid k1
  clear r1 g1 k1
  go_wp2_with fail
  refine (N2.out _ R1.out G1.out (by omega)).mono ?_
  rintro e W2 ⟨rfl, r2, g2, k2⟩
  have R2 := Lib.hid r2
  have G2 := Lib.hid g2
  have K2 := Lib.hid (K1.out.trans k2)
  have z1 := k2.1
  have z2 := K1.out.1
  rw [World.size_alloc] at z2
  clear r2 g2 k2
  have h5 := heap_new_at W2 (.cells #[.int .i64 id, .int .i64 kind, .slice none 0 0, .slice none 0 0, .int .i64 0, .int .i64 0, .int .i64 0, .int .i64 0, .int .i64 0, .int .i64 0, .int .i64 0, .int .i64 0, .int .i64 0] 56) _ rfl
  have H5 := Lib.hid h5
  clear h5
  go_wp2_with fail
  refine (N3.out _ (R2.out.grew (by repeat (first | with_reducible exact Grew.refl _ | apply Grew.more | apply Grew.alloc | apply Grew.drew | apply Grew.drewN))) (G2.out.trans (by repeat (first | with_reducible exact Grew.refl _ | apply Grew.more | apply Grew.alloc | apply Grew.drew | apply Grew.drewN))) (by omega) (by decide) (by decide)).mono ?_
  rintro e W3 ⟨vf, rfl, o3, r3, g3, k3⟩
  have h53 := k3.2 W2.heap.size (by rw [World.size_alloc]; omega) (by omega) (by omega)
  rw [H5.out] at h53
  obtain ⟨af, cf, rfl⟩ := (o3.rows encN_len).len
  have z3 := k3.1
  rw [World.size_alloc] at z3
  have q2 := cell_of (o := 2) h53
  have f2 := frozen_of (o := 2) h53
  have p2 := Pre.mk (heap_lt h53)
  simp at q2
  have R3 := Lib.hid r3
  have G3 := Lib.hid g3
  have K3 := Lib.hid ((K2.out.trans (Keep2.ofGrew (by repeat (first | with_reducible exact Grew.refl _ | apply Grew.more | apply Grew.alloc | apply Grew.drew | apply Grew.drewN)))).trans k3)
  have O3 := Lib.hid o3
  have H53 := Lib.hid h53
  clear o3 r3 g3 k3 h53
  have hTA : W2.heap.size ≠ A := by omega
  have hTB : W2.heap.size ≠ B := by omega
  have hT0 : w0.heap.size ≤ W2.heap.size := G2.out.below.size
  have hTW : (W.alloc (.cells #[.int .i64 0, .int .i64 0, .slice none 0 0, .slice none 0 0, .int .i64 0, .int .i64 0, .int .i64 0, .int .i64 0, .int .i64 0, .int .i64 0, .int .i64 0, .int .i64 0, .int .i64 0] 56)).heap.size ≤ W2.heap.size := by rw [World.size_alloc]; omega
  have R3s := Lib.hid (RdAt.setOther (o := 2) (v := .slice af fr.length cf) R3.out hTA hTB)
  have G3s := Lib.hid (G3.out.set (o := 2) hT0 (.slice af fr.length cf))
  have K3s := Lib.hid (Keep2.setNew (o := 2) (v := .slice af fr.length cf) K3.out hTW)
  have O3s := Lib.hid (OwnAt.setOther (o := 2) (x := .slice af fr.length cf) O3.out H53.out (by decide))
  have h5s : (W3.setCell ⟨W2.heap.size, 2, none⟩ (.slice af fr.length cf)).heap[W2.heap.size]? = some (.cells #[.int .i64 id, .int .i64 kind, .slice af fr.length cf, .slice none 0 0, .int .i64 0, .int .i64 0, .int .i64 0, .int .i64 0, .int .i64 0, .int .i64 0, .int .i64 0, .int .i64 0, .int .i64 0] 56) := by rw [set_self H53.out]; rfl
  have H5s := Lib.hid h5s
  clear h5s
  go_wp2_with fail
  clear q2 f2 p2
  refine (N4.out _ R3s.out G3s.out (by omega)).mono ?_
  rintro e W4 ⟨vp, rfl, o4, r4, g4, k4⟩
  obtain ⟨ap, cp, rfl⟩ := (o4.rows encI_len).len
  have h54 := k4.2 W2.heap.size (heap_lt H5s.out) hTA hTB
  rw [H5s.out] at h54
  have q3 := cell_of (o := 3) h54
  have f3 := frozen_of (o := 3) h54
  have p3 := Pre.mk (heap_lt h54)
  simp at q3
  have R4s := Lib.hid (RdAt.setOther (o := 3) (v := .slice ap pr.length cp) r4 hTA hTB)
  have G4s := Lib.hid (g4.set (o := 3) hT0 (.slice ap pr.length cp))
  have K4s := Lib.hid (Keep2.setNew (o := 3) (v := .slice ap pr.length cp) (K3s.out.trans k4) hTW)
  have O34 := Lib.hid (OwnAt.setOther (o := 3) (x := .slice ap pr.length cp) (OwnAt.keep2 O3s.out k4 R3s.out) h54 (by decide))
  have O4s := Lib.hid (OwnAt.setOther (o := 3) (x := .slice ap pr.length cp) o4 h54 (by decide))
  have h5t : (W4.setCell ⟨W2.heap.size, 3, none⟩ (.slice ap pr.length cp)).heap[W2.heap.size]? = some (.cells #[.int .i64 id, .int .i64 kind, .slice af fr.length cf, .slice ap pr.length cp, .int .i64 0, .int .i64 0, .int .i64 0, .int .i64 0, .int .i64 0, .int .i64 0, .int .i64 0, .int .i64 0, .int .i64 0] 56) := by rw [set_self h54]; rfl
  have H5t := Lib.hid h5t
  have z4 := k4.1
  rw [World.size_setCell] at z4
  clear o4 r4 g4 k4 h54 h5t
  go_wp2_with fail
  clear q3 f3 p3
  refine (N5.out _ R4s.out G4s.out (by omega)).mono ?_
  rintro e W5 ⟨rfl, r5, g5, k5⟩
  have h55 := k5.2 W2.heap.size (heap_lt H5t.out) hTA hTB
  rw [H5t.out] at h55
  have q4 := cell_of (o := 4) h55
  have f4 := frozen_of (o := 4) h55
  have p4 := Pre.mk (heap_lt h55)
  simp at q4
  have R5s := Lib.hid (RdAt.setOther (o := 4) (v := .int .i64 par) r5 hTA hTB)
  have G5s := Lib.hid (g5.set (o := 4) hT0 (.int .i64 par))
  have K5s := Lib.hid (Keep2.setNew (o := 4) (v := .int .i64 par) (K4s.out.trans k5) hTW)
  have O35 := Lib.hid (OwnAt.low (base' := W.heap.size) (OwnAt.setOther (o := 4) (x := .int .i64 par) (OwnAt.keep2 O34.out k5 R4s.out) h55 (by decide)) (by rw [World.size_alloc]; omega))
  have O45 := Lib.hid (OwnAt.low (base' := W.heap.size) (OwnAt.setOther (o := 4) (x := .int .i64 par) (OwnAt.keep2 O4s.out k5 R4s.out) h55 (by decide)) (by rw [World.size_setCell]; omega))
  have h5u : (W5.setCell ⟨W2.heap.size, 4, none⟩ (.int .i64 par)).heap[W2.heap.size]? = some (.cells (nodeArr id kind (.slice af fr.length cf) (.slice ap pr.length cp) par (padR (Gr.listS 0 2 0 s5).1)) 56) := by rw [set_self h55]; rfl
  have H5u := Lib.hid h5u
  clear r5 g5 k5 h55 h5u
  go_wp2
  go_loopg [22] 8 (fun gg s22 wr => ∃ k : Nat, k ≤ 8 ∧ 8 - k ≤ gg ∧ s22 = .int .i64 k ∧ Hid (RdAt w0.heap.size A B wr (Gr.listS 0 2 k s5).2) ∧ Hid (Grew w0 wr) ∧ Hid (Keep2 A B (W.alloc (.cells #[.int .i64 0, .int .i64 0, .slice none 0 0, .slice none 0 0, .int .i64 0, .int .i64 0, .int .i64 0, .int .i64 0, .int .i64 0, .int .i64 0, .int .i64 0, .int .i64 0, .int .i64 0] 56)) wr) ∧ Hid (wr.heap[W2.heap.size]? = some (.cells (nodeArr id kind (.slice af fr.length cf) (.slice ap pr.length cp) par (padR (Gr.listS 0 2 k s5).1)) 56)) ∧ Hid (OwnAt W.heap.size 3 1 encN wr (.slice af fr.length cf) fr) ∧ Hid (OwnAt W.heap.size 190 2 encI wr (.slice ap pr.length cp) pr))
  case atStart => exact ⟨0, by omega, by omega, rfl, R5s, G5s, K5s, H5u, O35, O45⟩
  case round =>
    obtain ⟨k, hk, hgg, rfl, HR, HGr, HK, HT, HF, HP⟩ := hrel
    obtain ⟨hl1, hl2⟩ := listS_len 0 2 k s5
    by_cases hlt : k < 8
    · have hsc := listS_succ 0 2 k s5
      have hnum := rdNum_any w0 A B (Gr.listS 0 2 k s5).2 0 2 wr HR.out HGr.out (by omega)
      have HSC := Lib.hid hsc
      have HNUM := Lib.hid hnum
      have HL1 := Lib.hid hl1
      clear hsc hnum hl1 hl2
      generalize Gr.numS 0 2 (Gr.listS 0 2 k s5).2 = y at *
      obtain ⟨y1, y2⟩ := y
      simp only at HNUM HSC
      generalize hLS : Gr.listS 0 2 k s5 = LS at *
      have HLS := Lib.hid hLS
      clear hLS
      go_wp2_with (go_at_call 101; refine HNUM.out.mono ?_; rintro e W6 ⟨rfl, r6, g6, k6⟩; (have h56 := k6.2 W2.heap.size (heap_lt HT.out) hTA hTB); rw [HT.out] at h56; (have q6 := cell_of (o := 5 + k) h56); rw [nodeArr_get _ _ _ _ _ _ _ (by rw [padR_len (by rw [HL1.out]; omega)]; exact hlt)] at q6; (have f6 := frozen_of (o := 5 + k) h56); (have p6 := Pre.mk (heap_lt h56)); (have R6 := Lib.hid r6); (have G6 := Lib.hid g6); (have K6 := Lib.hid k6); (have H56 := Lib.hid h56); clear r6 g6 k6 h56)
      have hT7 : (W6.setCell ⟨W2.heap.size, 5 + k, none⟩ (.int .i64 y1)).heap[W2.heap.size]? = some (.cells (nodeArr id kind (.slice af fr.length cf) (.slice ap pr.length cp) par (padR (LS.1 ++ [y1]))) 56) := by
        rw [set_self H56.out, nodeArr_set]
        have := padR_set (l := LS.1) (y := y1) (by rw [HL1.out]; exact hlt)
        rw [HL1.out] at this
        rw [this]
      have HT7 := Lib.hid hT7
      clear hT7
      go_roundg (8 - (k + 1))
      case measure => omega
      case rel => exact ⟨k + 1, by omega, by omega, by go_num, Lib.hid (by rw [HSC.out]; exact R6.out.setOther hTA hTB), Lib.hid (G6.out.set hT0 _), Lib.hid (Keep2.setNew (HK.out.trans K6.out) hTW), Lib.hid (by rw [HSC.out]; exact HT7.out), Lib.hid (OwnAt.setOther (OwnAt.keep2 HF.out K6.out HR.out) H56.out (by decide)), Lib.hid (OwnAt.setOther (OwnAt.keep2 HP.out K6.out HR.out) H56.out (by decide))⟩
    · obtain rfl : k = 8 := by omega
      generalize hLS : Gr.listS 0 2 8 s5 = LS at *
      obtain ⟨o, s6⟩ := LS
      simp only at hl1 hl2 HT HR
      obtain ⟨o0, o1, o2, o3, o4, o5, o6, o7, rfl⟩ := eight o hl1
      have hT8 : wr.heap[W2.heap.size]? = some (.cells #[.int .i64 id, .int .i64 kind, .slice af fr.length cf, .slice ap pr.length cp, .int .i64 par, .int .i64 o0, .int .i64 o1, .int .i64 o2, .int .i64 o3, .int .i64 o4, .int .i64 o5, .int .i64 o6, .int .i64 o7] 56) := HT.out
      have hT4 := HK.out.2 W.heap.size (by rw [World.size_alloc]; omega) (by omega) (by omega)
      rw [HT4.out] at hT4
      have c0 := cell_of (o := 0) hT8
      have c1 := cell_of (o := 1) hT8
      have c2 := cell_of (o := 2) hT8
      have c3 := cell_of (o := 3) hT8
      have c4 := cell_of (o := 4) hT8
      have c5 := cell_of (o := 5) hT8
      have c6 := cell_of (o := 6) hT8
      have c7 := cell_of (o := 7) hT8
      have c8 := cell_of (o := 8) hT8
      have c9 := cell_of (o := 9) hT8
      have c10 := cell_of (o := 10) hT8
      have c11 := cell_of (o := 11) hT8
      have c12 := cell_of (o := 12) hT8
      have d0 := cell_of (o := 0) hT4
      have f0 := frozen_of (o := 0) hT4
      have d1 := cell_of (o := 1) hT4
      have f1 := frozen_of (o := 1) hT4
      have d2 := cell_of (o := 2) hT4
      have f2 := frozen_of (o := 2) hT4
      have d3 := cell_of (o := 3) hT4
      have f3 := frozen_of (o := 3) hT4
      have d4 := cell_of (o := 4) hT4
      have f4 := frozen_of (o := 4) hT4
      have d5 := cell_of (o := 5) hT4
      have f5 := frozen_of (o := 5) hT4
      have d6 := cell_of (o := 6) hT4
      have f6 := frozen_of (o := 6) hT4
      have d7 := cell_of (o := 7) hT4
      have f7 := frozen_of (o := 7) hT4
      have d8 := cell_of (o := 8) hT4
      have f8 := frozen_of (o := 8) hT4
      have d9 := cell_of (o := 9) hT4
      have f9 := frozen_of (o := 9) hT4
      have d10 := cell_of (o := 10) hT4
      have f10 := frozen_of (o := 10) hT4
      have d11 := cell_of (o := 11) hT4
      have f11 := frozen_of (o := 11) hT4
      have d12 := cell_of (o := 12) hT4
      have f12 := frozen_of (o := 12) hT4
      have pT4 := Pre.mk (heap_lt hT4)
      have pT8 := Pre.mk (heap_lt hT8)
      have hne : W2.heap.size ≠ W.heap.size := by omega
      have HT4b := Lib.hid hT4
      simp at c0 c1 c2 c3 c4 c5 c6 c7 c8 c9 c10 c11 c12 d0 d1 d2 d3 d4 d5 d6 d7 d8 d9 d10 d11 d12
      clear hT8 hT4 hLS
      go_wp2
      have hA4 : W.heap.size ≠ A := by omega
      have hB4 : W.heap.size ≠ B := by omega
      have hF4 := OwnAt.other HF.out HT4b.out (by decide)
      have hP4 := OwnAt.other HP.out HT4b.out (by decide)
      refine bodyPost_ret (v := .agg #[.int .i64 id, .int .i64 kind, .slice af fr.length cf, .slice ap pr.length cp, .int .i64 par, .int .i64 o0, .int .i64 o1, .int .i64 o2, .int .i64 o3, .int .i64 o4, .int .i64 o5, .int .i64 o6, .int .i64 o7])
        (res_node rfl rfl ?_) rfl
        (rdNode_made ⟨id, kind, af, fr.length, cf, ap, pr.length, cp, par, o0, o1, o2, o3, o4, o5, o6, o7⟩ rfl rfl rfl rfl ?_ ?_ ?_ ?_ ?_)
      · exact set13 HT4b.out _ _ _ _ _ _ _ _ _ _ _ _ _
      · exact OwnAt.same HF.out fun b hb => by
          have : W.heap.size ≠ b := fun e => hF4 (by rw [e]; exact hb)
          iterate 13 rw [set_other this]
      · exact OwnAt.same HP.out fun b hb => by
          have : W.heap.size ≠ b := fun e => hP4 (by rw [e]; exact hb)
          iterate 13 rw [set_other this]
      · iterate 13 refine RdAt.setOther ?_ hA4 hB4
        exact HR.out
      · have hWW : w0.heap.size ≤ W.heap.size := HG.out.below.size
        iterate 13 refine Grew.set ?_ hWW _
        exact HGr.out
      · iterate 13 refine Keep2.setNew ?_ (Nat.le_refl _)
        exact (Keep2.ofGrew (by repeat (first | with_reducible exact Grew.refl _ | apply Grew.more | apply Grew.alloc | apply Grew.drew | apply Grew.drewN))).trans HK.out

theorem OwnsNd.keep2 {base base0 A B : Nat} {w w' : World} {c : NdC} {n : Gr.Nd} {s : Gr.Rs} (o : OwnsNd base w c n) (hk : Keep2 A B w w') (hr : RdAt base0 A B w s) : OwnsNd base w' c n := ⟨OwnAt.keep2 o.1 hk hr, OwnAt.keep2 o.2 hk hr⟩
theorem NodesIn.keep2 {base base0 A B : Nat} {w w' : World} {lc : List NdC} {l : List Gr.Nd} {s : Gr.Rs} (h : NodesIn base w lc l) (hk : Keep2 A B w w') (hr : RdAt base0 A B w s) : NodesIn base w' lc l :=
  Rel.mono (fun c n ⟨h1, h2⟩ => ⟨(h2.keep2 hk hr).is h1, h2.keep2 hk hr⟩) h
theorem nodeS_len (lp : Int) (s : Gr.Rs) : (Gr.nodeS getL lp s).2.1.length ≤ s.1.length := by
  unfold Gr.nodeS
  simp only
  have l1 := numS_len 0 7 s
  have l2 := numS_len 0 2 (Gr.numS 0 7 s).2
  generalize (Gr.numS 0 2 (Gr.numS 0 7 s).2).2 = s2 at *
  have l3 := numS_len 0 3 s2
  have l4 := (listS_len 0 7 (Gr.numS 0 3 s2).1.toNat (Gr.numS 0 3 s2).2).2
  generalize (Gr.listS 0 7 (Gr.numS 0 3 s2).1.toNat (Gr.numS 0 3 s2).2).2 = s3 at *
  have l5 := progS_len s3
  generalize (Gr.progS getL s3).2 = s4 at *
  have l6 := numS_len lp 3 s4
  have l7 := (listS_len 0 2 8 (Gr.numS lp 3 s4).2).2
  omega
theorem nodesS_succ (lp : Int) : ∀ (k : Nat) (s : Gr.Rs), Gr.nodesS getL lp (k + 1) s = ((Gr.nodesS getL lp k s).1 ++ [(Gr.nodeS getL lp (Gr.nodesS getL lp k s).2).1], (Gr.nodeS getL lp (Gr.nodesS getL lp k s).2).2)
  | 0, s => rfl
  | k + 1, s => by
    have ih := nodesS_succ lp k (Gr.nodeS getL lp s).2
    rw [Gr.nodesS, ih]
    rfl
theorem nodesS_len (lp : Int) : ∀ (k : Nat) (s : Gr.Rs), (Gr.nodesS getL lp k s).1.length = k ∧ (Gr.nodesS getL lp k s).2.1.length ≤ s.1.length
  | 0, s => ⟨rfl, Nat.le_refl _⟩
  | k + 1, s => by
    obtain ⟨h1, h2⟩ := nodesS_len lp k (Gr.nodeS getL lp s).2
    refine ⟨?_, ?_⟩
    · rw [Gr.nodesS, List.length_cons, h1]
    · rw [Gr.nodesS]
      exact Nat.le_trans h2 (nodeS_len lp s)
def RdNodes (w0 W : World) (A B : Nat) (l : List Gr.Nd) (s : Gr.Rs) (e : Ending) (W' : World) : Prop := ∃ v lc, e = .returned v ∧ NodesOwn W.heap.size W' v lc ∧ NodesIn W.heap.size W' lc l ∧ RdAt w0.heap.size A B W' s ∧ Grew w0 W' ∧ Keep2 A B W W'
theorem NodesIn.keepX {base base' : Nat} {w w' : World} {v : Value} {lc lv : List NdC} {l : List Gr.Nd} (h : NodesIn base w lc l) (ho : NodesOwn base' w v lv) (hk : ∀ q, q < w.heap.size → v.ownBlock ≠ some q → w'.heap[q]? = w.heap[q]?) : NodesIn base w' lc l :=
  Rel.mono (fun c n ⟨h1, h2⟩ => by
    have h3 : OwnsNd base w' c n := h2.to2 fun q cs t hq hb hne => hk q (heap_lt hq) (OwnAt.other ho hq hne)
    exact ⟨h3.is h1, h3⟩) h
theorem nodes_round {w0 wr W2 W3 W' : World} {A B base base2 : Nat} {v v' : Value} {lc : List NdC} {c : NdC} {l : List Gr.Nd} {y : Gr.Nd} {s s' : Gr.Rs} (hr : RdAt w0.heap.size A B wr s) (ho : NodesOwn w0.heap.size wr v lc) (hn : NodesIn base wr lc l) (hb : base ≤ base2)
    (hk : Keep2 A B wr W2) (hr2 : RdAt w0.heap.size A B W2 s') (h9 : NodeIs W2 c y) (o9 : OwnsNd base2 W2 c y) (g : Grew W2 W3) (hA : Appended w0 56 13 encNd W3 v (lc ++ [c]) v' W') :
    NodesIn base W' (lc ++ [c]) (l ++ [y]) ∧ RdAt w0.heap.size A B W' s' := by
  have ho3 : NodesOwn w0.heap.size W3 v lc := OwnAt.grew (OwnAt.keep2 ho hk hr) g
  have h5 : OwnsNd base W' c y := ((o9.grew g).low hb).to2 fun q cs t hq _ hne => hA.2.2.2.1 q (heap_lt hq) (OwnAt.other ho3 hq hne)
  exact ⟨Rel.snoc (((hn.keep2 hk hr).grew g).keepX ho3 hA.2.2.2.1) ⟨h5.is h9, h5⟩, RdAt.app (hr2.grew g) ho3 hA⟩
theorem rdNodes_any (w0 : World) (A B : Nat) (s : Gr.Rs) (W : World) (h : RdAt w0.heap.size A B W s) (hg : Grew w0 W) (hs : s.1.length ≤ 1000000) :
    Calls Tryz.prog 103 #[.pointer (some ⟨A, 0, none⟩)] W (RdNodes w0 W A B (Gr.nodesS getL 1 (Gr.numS 0 8 s).1.toNat (Gr.numS 0 8 s).2).1 (Gr.nodesS getL 1 (Gr.numS 0 8 s).1.toNat (Gr.numS 0 8 s).2).2) := by
  have hn := rdNum_any w0 A B s 0 8 W h hg hs
  have hr := numS_range (a := 0) (b := 8) s (by omega) (by omega)
  have hl := numS_len 0 8 s
  generalize Gr.numS 0 8 s = r at *
  obtain ⟨n, s1⟩ := r
  simp only at hn hr hl ⊢
  obtain ⟨N, rfl⟩ : ∃ N : Nat, n = N := ⟨n.toNat, by omega⟩
  rw [Int.toNat_natCast]
  have HN := Lib.hid hn
  have hBlt := heap_lt h.2.2.2
  clear h hg hn
  go_enter Tryz.func103, Tryz.ntmps103
  go_wp2_with (go_at_call 101; refine HN.out.mono ?_; rintro e w1 ⟨rfl, hr1, hg1, hk1⟩; (have HR1 := Lib.hid hr1); (have HG1 := Lib.hid hg1); (have HK1 := Lib.hid hk1); clear hr1 hg1 hk1)
  go_loopg [3, 6] N (fun gg s3 s6 wr => ∃ (k : Nat) (vk : Value) (lc : List NdC), k ≤ N ∧ N - k ≤ gg ∧ s6 = .int .i64 k ∧ vk = s3 ∧ Hid (NodesOwn w0.heap.size wr vk lc) ∧ Hid (NodesIn W.heap.size wr lc (Gr.nodesS getL 1 k s1).1) ∧ Hid (RdAt w0.heap.size A B wr (Gr.nodesS getL 1 k s1).2) ∧ Hid (Grew w0 wr) ∧ Hid (Keep2 A B W wr) ∧ Hid (∀ q, vk.ownBlock = some q → W.heap.size ≤ q))
  case atStart => exact ⟨0, _, [], Nat.zero_le _, by omega, rfl, rfl, Lib.hid (OwnAt.nil _), Lib.hid trivial, HR1, HG1, HK1, Lib.hid fun q h => by cases h⟩
  case round =>
    obtain ⟨k, vk, lc, hk, hgg, rfl, rfl, HO, HN2, HR, HG, HK, HI⟩ := hrel
    obtain ⟨hl1, hl2⟩ := nodesS_len 1 k s1
    have hlc := Rel.len HN2.out
    rw [hl1] at hlc
    by_cases hlt : k < N
    · have hsc := nodesS_succ 1 k s1
      have hnum := rdNode_any w0 A B (Gr.nodesS getL 1 k s1).2 1 (.inr (by decide)) wr HR.out HG.out (by omega)
      have HSC := Lib.hid hsc
      have HNUM := Lib.hid hnum
      obtain ⟨ak, ck, rfl⟩ := (OwnAt.rows HO.out encNd_len).len
      have HLC := Lib.hid hlc
      clear hsc hnum hl1 hl2 hlc
      generalize Gr.nodeS getL 1 (Gr.nodesS getL 1 k s1).2 = y at *
      obtain ⟨y1, y2⟩ := y
      simp only at HNUM HSC
      generalize hLS : Gr.nodesS getL 1 k s1 = LS at *
      have HLS := Lib.hid hLS
      clear hLS
      have hsz := HK.out.1
      go_wp2_with (first
        | (go_at_call 110; refine HNUM.out.mono ?_; rintro e w2 ⟨c9, rfl, hn9, ho9, hr2, hg2, hk2⟩; obtain ⟨cid9, kind9, af9, cf9, ap9, cp9, par9, s0, s1, s2, s3, s4, s5, s6, s7, rfl⟩ := hn9.lit; (have HN9 := Lib.hid hn9); (have HO9 := Lib.hid ho9); (have HR2 := Lib.hid hr2); (have HG2 := Lib.hid hg2); (have HK2 := Lib.hid hk2); (have HO2 := Lib.hid (OwnAt.keep2 HO.out hk2 HR.out)); clear hn9 ho9 hr2 hg2 hk2)
        | (at_builtin; refine wpList_ownK (w0 := w0) rfl (.tmp 8) (.tmp 11) 22 _ _ _ _ [⟨cid9, kind9, af9, y1.frm.length, cf9, ap9, y1.prog.length, cp9, par9, s0, s1, s2, s3, s4, s5, s6, s7⟩] rfl Tryz.underlying22 infoNode rfl (by decide) encNd_len encNd_one rfl (OwnAt.grew HO2.out (by repeat (first | with_reducible exact Grew.refl _ | apply Grew.more | apply Grew.alloc | apply Grew.drew | apply Grew.drewN))) (HG2.out.trans (by repeat (first | with_reducible exact Grew.refl _ | apply Grew.more | apply Grew.alloc | apply Grew.drew | apply Grew.drewN))) rfl (nd_at _ _ _ _ rfl (by simp [go_sem])) (by rw [HLC.out]; simp; omega) (by decide) (by simp) ?_; intro v5 W5 hA; (have HA := Lib.hid hA); clear hA))
      obtain ⟨q1, q2⟩ := nodes_round HR.out HO.out HN2.out hsz HK2.out HR2.out HN9.out HO9.out (by repeat (first | with_reducible exact Grew.refl _ | apply Grew.more | apply Grew.alloc | apply Grew.drew | apply Grew.drewN)) HA.out
      obtain ⟨q4, q5⟩ := Keep2.app (HK.out.trans (HK2.out.trans (Keep2.ofGrew (by repeat (first | with_reducible exact Grew.refl _ | apply Grew.more | apply Grew.alloc | apply Grew.drew | apply Grew.drewN))))) HA.out HI.out
      have Q1 := Lib.hid q1
      have Q2 := Lib.hid q2
      have Q4 := Lib.hid q4
      have Q5 := Lib.hid q5
      clear q1 q2 q4 q5
      go_roundg (N - (k + 1))
      case measure => omega
      case rel => exact ⟨k + 1, _, _, by omega, by omega, by go_num, rfl, Lib.hid HA.out.2.1, Lib.hid (by rw [HSC.out]; exact Q1.out), Lib.hid (by rw [HSC.out]; exact Q2.out), Lib.hid HA.out.1, Q4, Q5⟩
    · obtain rfl : k = N := by omega
      obtain ⟨ak, ck, rfl⟩ := (OwnAt.rows HO.out encNd_len).len
      go_wp2
      go_ret
      exact ⟨_, lc, rfl, OwnAt.up HO.out HI.out, HN2.out, HR.out, HG.out, HK.out⟩


def sortedB (l : List Gr.Nd) : Bool := decide (l.Pairwise fun a b => a.id ≤ b.id)
theorem sortedB_true {l : List Gr.Nd} (h : ∀ j (hj : j < l.length), 0 < j → l[j - 1].id ≤ l[j].id) : sortedB l = true := by
  unfold sortedB
  rw [decide_eq_true_eq, List.pairwise_iff_getElem]
  have key : ∀ d i (hj : i + d < l.length), l[i].id ≤ l[i + d].id := by
    intro d
    induction d with
    | zero => intro i hj; exact Int.le_refl _
    | succ d ih =>
      intro i hj
      have h1 := ih i (by omega)
      have h2 := h (i + (d + 1)) hj (by omega)
      simp only [show i + (d + 1) - 1 = i + d by omega] at h2
      exact Int.le_trans h1 h2
  intro i j hi hj hij
  have := key (j - i) i (by omega)
  simp only [show i + (j - i) = j by omega] at this
  exact this
theorem sortedB_false {l : List Gr.Nd} {j : Nat} (hj : j < l.length) (h0 : 0 < j) (h : l[j].id < l[j - 1].id) : sortedB l = false := by
  unfold sortedB
  rw [decide_eq_false_iff_not, List.pairwise_iff_getElem]
  intro hp
  have := hp (j - 1) j (by omega) hj (by omega)
  omega
theorem cmpD_any (x y : NdC) (W : World) (h1 : 0 ≤ x.id ∧ x.id ≤ 1000) (h2 : 0 ≤ y.id ∧ y.id ≤ 1000) : Calls Tryz.prog 186 #[.agg #[.int .i64 x.id, .int .i64 x.kind, .slice x.af x.nf x.cf, .slice x.ap x.np x.cp, .int .i64 x.par, .int .i64 x.r0, .int .i64 x.r1, .int .i64 x.r2, .int .i64 x.r3, .int .i64 x.r4, .int .i64 x.r5, .int .i64 x.r6, .int .i64 x.r7], .agg #[.int .i64 y.id, .int .i64 y.kind, .slice y.af y.nf y.cf, .slice y.ap y.np y.cp, .int .i64 y.par, .int .i64 y.r0, .int .i64 y.r1, .int .i64 y.r2, .int .i64 y.r3, .int .i64 y.r4, .int .i64 y.r5, .int .i64 y.r6, .int .i64 y.r7]] W (Gives (.int .i64 (x.id - y.id)) W) := by
  obtain ⟨xi, xk, xaf, xnf, xcf, xap, xnp, xcp, xpar, x0, x1, x2, x3, x4, x5, x6, x7⟩ := x
  obtain ⟨yi, yk, yaf, ynf, ycf, yap, ynp, ycp, ypar, y0, y1, y2, y3, y4, y5, y6, y7⟩ := y
  simp only at *
  obtain ⟨h1, h1'⟩ := h1
  obtain ⟨h2, h2'⟩ := h2
  go_enter Tryz.func186, Tryz.ntmps186
  go_wp2
  go_ret
  refine ⟨rfl, ?_⟩
  repeat (first | with_reducible exact Grew.refl _ | apply Grew.more | apply Grew.alloc | apply Grew.drew | apply Grew.drewN)
theorem enters186 : ∀ args w, (callFunc 186 args).run Tryz.prog w = .ok (.enter 186 args) w := enters_of Tryz.func186 (by kernel_rfl) rfl
theorem isSorted_any (v : Value) (l : List Gr.Nd) (w : World) (hv : NodesAt w v l) (hid : ∀ n ∈ l, 0 ≤ n.id ∧ n.id ≤ 1000) (hl : l.length ≤ 1000) :
    Calls Tryz.prog 185 #[v, .func (.func 186) #[] #[]] w (Gives (.bool (sortedB l)) w) := by
  have HV := Lib.hid hv
  have HID := Lib.hid hid
  have eg := enters186
  obtain ⟨a, cap, rfl, hm, -⟩ := hv.openC
  clear hv hid
  go_enter Tryz.func185, Tryz.ntmps185
  go_wp2
  go_loopg [5] l.length (fun gg s5 wr => ∃ i : Int, -1 ≤ i ∧ i < l.length ∧ i ≤ gg ∧ s5 = .int .i64 i ∧ Hid (Grew w wr) ∧ Hid (∀ j (hj : j < l.length), i < j → 0 < j → l[j - 1].id ≤ l[j].id))
  case atStart => exact ⟨(l.length : Int) - 1, by omega, by omega, by omega, rfl, Lib.hid (by repeat (first | with_reducible exact Grew.refl _ | apply Grew.more | apply Grew.alloc | apply Grew.drew | apply Grew.drewN)), Lib.hid fun j hj h _ => by omega⟩
  case round =>
    obtain ⟨i, hi0, hi1, hgg, rfl, HG, HNO⟩ := hrel
    by_cases hpos : 0 < i
    · obtain ⟨k, rfl⟩ : ∃ k : Nat, i = (k : Int) + 1 := ⟨(i - 1).toNat, by omega⟩
      have hk1 : k + 1 < l.length := by omega
      obtain ⟨a', cap', e, -, hx⟩ := (HV.out.grew HG.out).openC
      cases e
      obtain ⟨b, off, c, rfl, hb, hn, c0, c1, c2, c3, c4, c5, c6, c7, c8, c9, c10, c11, c12⟩ := hx (k + 1) hk1
      obtain ⟨b', off', d, eb, hb', hn', d0, d1, d2, d3, d4, d5, d6, d7, d8, d9, d10, d11, d12⟩ := hx k (by omega)
      cases eb
      have hi1 := HID.out _ (List.getElem_mem hk1)
      have hi2 := HID.out _ (List.getElem_mem (show k < l.length by omega))
      have e1 := hn.id
      have e2 := hn'.id
      rw [e1] at hi1
      rw [e2] at hi2
      have hcm := fun W => cmpD_any c d W hi1 hi2
      have E1 := Lib.hid e1
      have E2 := Lib.hid e2
      clear hx hn hn' e1 e2
      obtain ⟨cid, kind, af, nf, cf, ap, np, cp, par, r0, r1, r2, r3, r4, r5, r6, r7⟩ := c
      obtain ⟨did, dkind, daf, dnf, dcf, dap, dnp, dcp, dpar, t0, t1, t2, t3, t4, t5, t6, t7⟩ := d
      simp only at c0 c1 c2 c3 c4 c5 c6 c7 c8 c9 c10 c11 c12 d0 d1 d2 d3 d4 d5 d6 d7 d8 d9 d10 d11 d12 hcm hi1 hi2
      have HCM := Lib.hid hcm
      obtain ⟨i1, i2⟩ := hi1
      obtain ⟨j1, j2⟩ := hi2
      clear hcm
      go_upto_region 4 with fail
      refine wp_region_seq 12 Tryz.mixed (by kernel_rfl) (by kernel_rfl) ?_
      iterate 12
        apply Seq.val
        focus
          rintro w1 u ⟨R1, n1, rfl⟩ hF
          simp [moreFacts, Fact.more, Oper.deps, Region.binds, List.filter_cons, World.more_drew] at hF
          simp [putFacts, Oper.deps, Region.binds, List.filter_cons, Region.dstOf, Fact.at, Act.put, World.more_drew]
          go_wp2_with (go_at_fn 186; refine (HCM.out _).mono ?_; rintro e w2 ⟨rfl, R3, n3, rfl⟩)
          exact ⟨by repeat (first | with_reducible exact Grew.refl _ | apply Grew.more | apply Grew.alloc | apply Grew.drew | apply Grew.drewN), rfl, _, _, rfl, rfl, rfl⟩
      rintro u w1 ⟨R1, n1, rfl⟩ hF
      clear hF
      simp [putFacts, Region.dstOf, Fact.at, Act.put, List.range_succ, World.more_drew]
      by_cases hlt : cid - did < 0
      · have hr := sortedB_false hk1 (by omega) (by simp only [Nat.add_sub_cancel]; rw [E1.out, E2.out]; simp only; omega)
        have HR := Lib.hid hr
        clear hr
        go_wp2
        go_ret
        exact ⟨by rw [HR.out]; rfl, HG.out.trans (by repeat (first | with_reducible exact Grew.refl _ | apply Grew.more | apply Grew.alloc | apply Grew.drew | apply Grew.drewN))⟩
      · have hge : 0 ≤ cid - did := by omega
        go_wp2
        go_roundg (k : Nat)
        case measure => omega
        case rel => exact ⟨(k : Int), by omega, by omega, by omega, by go_num, Lib.hid (HG.out.trans (by repeat (first | with_reducible exact Grew.refl _ | apply Grew.more | apply Grew.alloc | apply Grew.drew | apply Grew.drewN))), Lib.hid fun j hj h h0 => by
          by_cases h1 : (k : Int) + 1 < j
          · exact HNO.out j hj h1 h0
          · obtain rfl : j = k + 1 := by omega
            have h4 : l[k + 1].id = cid := E1.out
            have h5 : l[k].id = did := E2.out
            show l[k].id ≤ l[k + 1].id
            omega⟩
    · go_wp2
      have hr := sortedB_true fun j hj h0 => HNO.out j hj (by omega) h0
      have HR := Lib.hid hr
      clear hr
      go_ret
      exact ⟨by rw [HR.out]; rfl, HG.out⟩
theorem sorted_any (v : Value) (l : List Gr.Nd) (w : World) (hv : NodesAt w v l) (hid : ∀ n ∈ l, 0 ≤ n.id ∧ n.id ≤ 1000) (hl : l.length ≤ 1000) : Calls Tryz.prog 141 #[v] w (Gives (.bool (sortedB l)) w) := by
  have HI := Lib.hid (isSorted_any v l w hv hid hl)
  obtain ⟨a, cap, rfl, hm, -⟩ := hv.openC
  clear hv
  go_enter Tryz.func141, Tryz.ntmps141
  go_wp2_with (go_at_call 185; refine HI.out.mono ?_; rintro e w1 ⟨rfl, R3, n3, rfl⟩)
  go_ret
  refine ⟨rfl, ?_⟩
  repeat (first | with_reducible exact Grew.refl _ | apply Grew.more | apply Grew.alloc | apply Grew.drew | apply Grew.drewN)

theorem readL_many : ∀ (n : Nat) (s : List UInt8) (acc : List Val), (readL n s acc).1.length ≤ acc.length + n
  | 0, s, acc => Nat.le_refl _
  | n + 1, s, acc => by
    rw [readL]
    split
    · simp
    · split
      · simp
      · have := readL_many n (numR (within s 0 17).2.2).2.2 (acc ++ [((within s 0 17).1, (numR (within s 0 17).2.2).1)])
        rw [List.length_append] at this
        simp at this
        omega
theorem getL_many (s : List UInt8) : (getL s).1.length ≤ 24 := by
  have h0 : (within s 0 24).1.toNat ≤ 24 := by
    have := numS_range (a := 0) (b := 24) (s, 0) (by omega) (by omega)
    unfold Gr.numS at this
    rw [if_neg (by simp)] at this
    have h2 : (within s 0 24).1 ≤ 24 := this.2
    omega
  have h1 := readL_many (within s 0 24).1.toNat (within s 0 24).2.2 []
  simp only [List.length_nil, Nat.zero_add] at h1
  unfold getL
  split
  · simp
  · split
    · omega
    · split
      · omega
      · simp
theorem nodeS_small (lp : Int) (s : Gr.Rs) : (Gr.nodeS getL lp s).1.frm.length ≤ 3 ∧ (Gr.nodeS getL lp s).1.prog.length ≤ 24 ∧ 0 ≤ (Gr.nodeS getL lp s).1.id ∧ (Gr.nodeS getL lp s).1.id ≤ 7 ∧ (Gr.nodeS getL lp s).1.route.length = 8 := by
  unfold Gr.nodeS
  simp only
  have h1 := numS_range (a := 0) (b := 7) s (by omega) (by omega)
  refine ⟨?_, ?_, h1.1, h1.2, (listS_len 0 2 8 _).1⟩
  · rw [(listS_len 0 7 _ _).1]
    have := numS_range (a := 0) (b := 3) (Gr.numS 0 2 (Gr.numS 0 7 s).2).2 (by omega) (by omega)
    omega
  · unfold Gr.progS
    split
    · simp
    · exact getL_many _
theorem nodesS_small (lp : Int) : ∀ (k : Nat) (s : Gr.Rs), ∀ n ∈ (Gr.nodesS getL lp k s).1, n.frm.length ≤ 3 ∧ n.prog.length ≤ 24 ∧ 0 ≤ n.id ∧ n.id ≤ 7 ∧ n.route.length = 8
  | 0, s, n, h => by cases h
  | k + 1, s, n, h => by
    rw [Gr.nodesS] at h
    rcases List.mem_cons.1 h with rfl | h1
    · exact nodeS_small lp s
    · exact nodesS_small lp k _ n h1
theorem NodesAt.nil (w : World) : NodesAt w (.slice none 0 0) [] := ⟨[], RowsAt.nil, rfl, fun i c n h => by simp at h⟩
theorem rd_new (w : World) (s : List UInt8) : RdAt w.heap.size (w.heap.size + 1) w.heap.size ((w.alloc (.cells #[.string ⟨s.toArray⟩] 217)).alloc (.cells #[.pointer (some ⟨w.heap.size, 0, none⟩), .int .i64 0] 165)) (s, 0) :=
  ⟨by omega, heap_new_at _ _ _ (by rw [World.size_alloc]), Nat.le_refl _, heap_alloc_old (heap_new_at _ _ _ rfl) _⟩

theorem eq8 (r0 r1 r2 r3 r4 r5 r6 r7 s0 s1 s2 s3 s4 s5 s6 s7 : Int) (w : World) : (binOp .eql 54 (.agg #[.int .i64 r0, .int .i64 r1, .int .i64 r2, .int .i64 r3, .int .i64 r4, .int .i64 r5, .int .i64 r6, .int .i64 r7]) (.agg #[.int .i64 s0, .int .i64 s1, .int .i64 s2, .int .i64 s3, .int .i64 s4, .int .i64 s5, .int .i64 s6, .int .i64 s7])).run Tryz.prog w = .ok (.bool (decide ([r0, r1, r2, r3, r4, r5, r6, r7] = [s0, s1, s2, s3, s4, s5, s6, s7]))) w := by
  have u3 := Tryz.underlying3
  have a3 := Tryz.isAgg3
  have z3 := Tryz.sizeOf3
  obtain ⟨i, hi⟩ : ∃ i, Tryz.prog.info? 3 = some i := info_of_underlying u3
  rw [run_eql_struct, show (10000 : Nat) = 9999 + 1 from rfl, run_equalIn_array w 9999 _ _ Tryz.underlying54 hi]
  rw [show Tryz.prog.cellsOf 3 = 1 by kernel_rfl]
  rw [show List.range 8 = [0, 1, 2, 3, 4, 5, 6, 7] from rfl]
  simp only [Op.eqItems]
  go_simp
  by_cases h0 : r0 = s0
  · by_cases h1 : r1 = s1
    · by_cases h2 : r2 = s2
      · by_cases h3 : r3 = s3
        · by_cases h4 : r4 = s4
          · by_cases h5 : r5 = s5
            · by_cases h6 : r6 = s6
              · by_cases h7 : r7 = s7
                · simp [h0, h1, h2, h3, h4, h5, h6, h7]
                · simp [h0, h1, h2, h3, h4, h5, h6, h7]
              · simp [h0, h1, h2, h3, h4, h5, h6]
            · simp [h0, h1, h2, h3, h4, h5]
          · simp [h0, h1, h2, h3, h4]
        · simp [h0, h1, h2, h3]
      · simp [h0, h1, h2]
    · simp [h0, h1]
  · simp [h0]

open Classical in
noncomputable def eqNd (n m : Gr.Nd) : Bool := decide (n = m)
open Classical in
theorem eqNd_false {n m : Gr.Nd} (h : n ≠ m) : eqNd n m = false := by unfold eqNd; exact decide_eq_false h
open Classical in
theorem eqNd_true {n m : Gr.Nd} (h : n = m) : eqNd n m = true := by unfold eqNd; exact decide_eq_true h
theorem eqNd_iff {n m : Gr.Nd} {p : Prop} [Decidable p] (h : n = m ↔ p) : eqNd n m = decide p := by
  by_cases hp : p
  · rw [eqNd_true (h.2 hp), decide_eq_true hp]
  · rw [eqNd_false (fun q => hp (h.1 q)), decide_eq_false hp]

theorem alike_any (c d : NdC) (n m : Gr.Nd) (w : World) (hn : NodeIs w c n) (hm : NodeIs w d m) : Calls Tryz.prog 59 #[.agg #[.int .i64 c.id, .int .i64 c.kind, .slice c.af c.nf c.cf, .slice c.ap c.np c.cp, .int .i64 c.par, .int .i64 c.r0, .int .i64 c.r1, .int .i64 c.r2, .int .i64 c.r3, .int .i64 c.r4, .int .i64 c.r5, .int .i64 c.r6, .int .i64 c.r7], .agg #[.int .i64 d.id, .int .i64 d.kind, .slice d.af d.nf d.cf, .slice d.ap d.np d.cp, .int .i64 d.par, .int .i64 d.r0, .int .i64 d.r1, .int .i64 d.r2, .int .i64 d.r3, .int .i64 d.r4, .int .i64 d.r5, .int .i64 d.r6, .int .i64 d.r7]] w (Gives (.bool (eqNd n m)) w) := by
  have HF := Lib.hid fun W (g : Grew w W) => eqInts_any _ _ n.frm m.frm W (hn.f.grew g) (hm.f.grew g)
  have HP := Lib.hid fun W (g : Grew w W) => eqVals_any _ _ n.prog m.prog W (hn.p.grew g) (hm.p.grew g)
  obtain ⟨id, kind, af, cf, ap, cp, par, r0, r1, r2, r3, r4, r5, r6, r7, rfl⟩ := hn.lit
  obtain ⟨id2, kind2, af2, cf2, ap2, cp2, par2, s0, s1, s2, s3, s4, s5, s6, s7, rfl⟩ := hm.lit
  have e1 := hn.id
  have e2 := hn.kind
  have e3 := hn.par
  have e4 := hn.route
  have g1 := hm.id
  have g2 := hm.kind
  have g3 := hm.par
  have g4 := hm.route
  simp only at e1 e2 e3 e4 g1 g2 g3 g4 HF HP
  have heq : eqNd n m = (decide (id = id2) && (decide (kind = kind2) && (decide (par = par2) && (decide ([r0, r1, r2, r3, r4, r5, r6, r7] = [s0, s1, s2, s3, s4, s5, s6, s7]) && (decide (n.frm = m.frm) && decide (n.prog = m.prog)))))) := by
    obtain ⟨i1, k1, f1, p1, q1, t1⟩ := n
    obtain ⟨i2, k2, f2, p2, q2, t2⟩ := m
    simp only at e1 e2 e3 e4 g1 g2 g3 g4
    subst e1 e2 e3 e4 g1 g2 g3 g4
    rw [← Bool.decide_and, ← Bool.decide_and, ← Bool.decide_and, ← Bool.decide_and, ← Bool.decide_and]
    exact eqNd_iff (by simp only [Gr.Nd.mk.injEq]; exact ⟨fun ⟨h1, h2, h3, h4, h5, h6⟩ => ⟨h1, h2, h5, h6, h3, h4⟩, fun ⟨h1, h2, h3, h4, h5, h6⟩ => ⟨h1, h2, h5, h6, h3, h4⟩⟩)
  have HEQ := Lib.hid heq
  have h8 := eq8 r0 r1 r2 r3 r4 r5 r6 r7 s0 s1 s2 s3 s4 s5 s6 s7
  have hfl : n.frm.length ≤ 9223372036854775807 := by obtain ⟨_, _, _, h, _⟩ := ints_open hn.f; exact h
  have hpl : n.prog.length ≤ 9223372036854775807 := by obtain ⟨_, _, _, h, _⟩ := hn.p.open2; exact h
  clear hn hm e1 e2 e3 e4 g1 g2 g3 g4 heq
  generalize hq8 : decide ([r0, r1, r2, r3, r4, r5, r6, r7] = [s0, s1, s2, s3, s4, s5, s6, s7]) = b8 at *
  generalize hqf : decide (n.frm = m.frm) = bf at *
  generalize hqp : decide (n.prog = m.prog) = bp at *
  clear hq8 hqf hqp
  generalize n.frm.length = nf at *
  generalize m.frm.length = mf at *
  generalize n.prog.length = np at *
  generalize m.prog.length = mp at *
  generalize eqNd n m = q at *
  by_cases h1 : id = id2
  case neg =>
    have hq : q = false := by rw [HEQ.out, decide_eq_false h1]; simp
    have HQ := Lib.hid hq
    have h1b : (id == id2) = false := by simpa using h1
    clear h1 hq
    go_enter Tryz.func59, Tryz.ntmps59
    go_wp2_with (first
    | (go_at_call 72; refine (HF.out _ (by repeat (first | with_reducible exact Grew.refl _ | apply Grew.more | apply Grew.alloc | apply Grew.drew | apply Grew.drewN))).mono ?_; rintro e w1 ⟨rfl, R1, n1, rfl⟩)
    | (go_at_call 120; refine (HP.out _ (by repeat (first | with_reducible exact Grew.refl _ | apply Grew.more | apply Grew.alloc | apply Grew.drew | apply Grew.drewN))).mono ?_; rintro e w1 ⟨rfl, R2, n2, rfl⟩))
    go_ret
    exact ⟨by rw [HQ.out]; rfl, by repeat (first | with_reducible exact Grew.refl _ | apply Grew.more | apply Grew.alloc | apply Grew.drew | apply Grew.drewN)⟩
  subst h1
  by_cases h2 : kind = kind2
  case neg =>
    have hq : q = false := by rw [HEQ.out, decide_eq_false h2]; simp
    have HQ := Lib.hid hq
    have h2b : (kind == kind2) = false := by simpa using h2
    clear h2 hq
    go_enter Tryz.func59, Tryz.ntmps59
    go_wp2_with (first
    | (go_at_call 72; refine (HF.out _ (by repeat (first | with_reducible exact Grew.refl _ | apply Grew.more | apply Grew.alloc | apply Grew.drew | apply Grew.drewN))).mono ?_; rintro e w1 ⟨rfl, R1, n1, rfl⟩)
    | (go_at_call 120; refine (HP.out _ (by repeat (first | with_reducible exact Grew.refl _ | apply Grew.more | apply Grew.alloc | apply Grew.drew | apply Grew.drewN))).mono ?_; rintro e w1 ⟨rfl, R2, n2, rfl⟩))
    go_ret
    exact ⟨by rw [HQ.out]; rfl, by repeat (first | with_reducible exact Grew.refl _ | apply Grew.more | apply Grew.alloc | apply Grew.drew | apply Grew.drewN)⟩
  subst h2
  by_cases h3 : par = par2
  case neg =>
    have hq : q = false := by rw [HEQ.out, decide_eq_false h3]; simp
    have HQ := Lib.hid hq
    have h3b : (par == par2) = false := by simpa using h3
    clear h3 hq
    go_enter Tryz.func59, Tryz.ntmps59
    go_wp2_with (first
    | (go_at_call 72; refine (HF.out _ (by repeat (first | with_reducible exact Grew.refl _ | apply Grew.more | apply Grew.alloc | apply Grew.drew | apply Grew.drewN))).mono ?_; rintro e w1 ⟨rfl, R1, n1, rfl⟩)
    | (go_at_call 120; refine (HP.out _ (by repeat (first | with_reducible exact Grew.refl _ | apply Grew.more | apply Grew.alloc | apply Grew.drew | apply Grew.drewN))).mono ?_; rintro e w1 ⟨rfl, R2, n2, rfl⟩))
    go_ret
    exact ⟨by rw [HQ.out]; rfl, by repeat (first | with_reducible exact Grew.refl _ | apply Grew.more | apply Grew.alloc | apply Grew.drew | apply Grew.drewN)⟩
  subst h3
  cases b8
  · have hq : q = false := by rw [HEQ.out]; simp
    have HQ := Lib.hid hq
    clear hq
    go_enter Tryz.func59, Tryz.ntmps59
    go_wp2_with (first
    | (go_at_call 72; refine (HF.out _ (by repeat (first | with_reducible exact Grew.refl _ | apply Grew.more | apply Grew.alloc | apply Grew.drew | apply Grew.drewN))).mono ?_; rintro e w1 ⟨rfl, R1, n1, rfl⟩)
    | (go_at_call 120; refine (HP.out _ (by repeat (first | with_reducible exact Grew.refl _ | apply Grew.more | apply Grew.alloc | apply Grew.drew | apply Grew.drewN))).mono ?_; rintro e w1 ⟨rfl, R2, n2, rfl⟩))
    go_ret
    exact ⟨by rw [HQ.out]; rfl, by repeat (first | with_reducible exact Grew.refl _ | apply Grew.more | apply Grew.alloc | apply Grew.drew | apply Grew.drewN)⟩
  cases bf
  · have hq : q = false := by rw [HEQ.out]; simp
    have HQ := Lib.hid hq
    clear hq
    go_enter Tryz.func59, Tryz.ntmps59
    go_wp2_with (first
    | (go_at_call 72; refine (HF.out _ (by repeat (first | with_reducible exact Grew.refl _ | apply Grew.more | apply Grew.alloc | apply Grew.drew | apply Grew.drewN))).mono ?_; rintro e w1 ⟨rfl, R1, n1, rfl⟩)
    | (go_at_call 120; refine (HP.out _ (by repeat (first | with_reducible exact Grew.refl _ | apply Grew.more | apply Grew.alloc | apply Grew.drew | apply Grew.drewN))).mono ?_; rintro e w1 ⟨rfl, R2, n2, rfl⟩))
    go_ret
    exact ⟨by rw [HQ.out]; rfl, by repeat (first | with_reducible exact Grew.refl _ | apply Grew.more | apply Grew.alloc | apply Grew.drew | apply Grew.drewN)⟩
  · have hq : q = bp := by rw [HEQ.out]; simp
    have HQ := Lib.hid hq
    clear hq
    go_enter Tryz.func59, Tryz.ntmps59
    go_wp2_with (first
    | (go_at_call 72; refine (HF.out _ (by repeat (first | with_reducible exact Grew.refl _ | apply Grew.more | apply Grew.alloc | apply Grew.drew | apply Grew.drewN))).mono ?_; rintro e w1 ⟨rfl, R1, n1, rfl⟩)
    | (go_at_call 120; refine (HP.out _ (by repeat (first | with_reducible exact Grew.refl _ | apply Grew.more | apply Grew.alloc | apply Grew.drew | apply Grew.drewN))).mono ?_; rintro e w1 ⟨rfl, R2, n2, rfl⟩))
    go_ret
    exact ⟨by rw [HQ.out]; rfl, by repeat (first | with_reducible exact Grew.refl _ | apply Grew.more | apply Grew.alloc | apply Grew.drew | apply Grew.drewN)⟩



theorem fits_nil : fitsP [] := by unfold fitsP; rfl
theorem nodes_route {w : World} {v : Value} {l : List Gr.Nd} (h : NodesAt w v l) : ∀ n ∈ l, n.route.length = 8 := by
  obtain ⟨lc, -, h2, h3⟩ := h
  intro n hn
  obtain ⟨i, hi, rfl⟩ := List.mem_iff_getElem.1 hn
  rw [(h3 i lc[i] l[i] (List.getElem?_eq_getElem (by omega)) (List.getElem?_eq_getElem hi)).route]
  rfl
theorem great_small {l : List Gr.Nd} (h : greatG l = false) : Small l ∧ l.length ≤ 20 := by
  unfold greatG at h
  simp only [Bool.or_eq_false_iff, decide_eq_false_iff_not, List.any_eq_false] at h
  refine ⟨fun n hn => ?_, by omega⟩
  have := h.2 n hn
  unfold greatN at this
  simp only [Bool.or_eq_true, decide_eq_true_eq, not_or] at this
  omega
theorem right_okB {l : List Gr.Nd} (h : Gr.RightR l) (h8 : ∀ n ∈ l, n.route.length = 8) : ∀ n ∈ l, Gr.OkB fitsP 1 n := h.okB fits_nil (fun p hp => safe_fits hp) h8


theorem pairS_eq {α β : Type} {ra : Gr.Rs → α × Gr.Rs} {rb : Gr.Rs → β × Gr.Rs} {s t u : Gr.Rs} {x : α} {y : β} (h1 : ra s = (x, t)) (h2 : rb t = (y, u)) : Gr.pairS ra rb s = ((x, y), u) := by
  unfold Gr.pairS
  rw [h1]
  simp only
  rw [h2]
theorem valS_eq {s t u : Gr.Rs} {x y : Int} (h1 : Gr.numS (-2147483648) 2147483647 s = (x, t)) (h2 : Gr.numS (-2147483648) 2147483647 t = (y, u)) : Gr.valS s = ((x, y), u) := pairS_eq h1 h2
theorem valS_len (s : Gr.Rs) : (Gr.valS s).2.1.length ≤ s.1.length := by
  have h1 := numS_len (-2147483648) 2147483647 s
  have h2 := numS_len (-2147483648) 2147483647 (Gr.numS (-2147483648) 2147483647 s).2
  exact Nat.le_trans h2 h1
theorem rdVal_any (w0 : World) (A B : Nat) (s : Gr.Rs) (W : World) (h : RdAt w0.heap.size A B W s) (hg : Grew w0 W) (hs : s.1.length ≤ 1000000) :
    Calls Tryz.prog 104 #[.pointer (some ⟨A, 0, none⟩)] W (RdPost w0 W A B (.agg #[.int .i64 (Gr.valS s).1.1, .int .i64 (Gr.valS s).1.2]) (Gr.valS s).2) := by
  have n1 := fun W h g => rdNum_any w0 A B s (-2147483648) 2147483647 W h g hs
  have z1 := numS_len (-2147483648) 2147483647 s
  obtain ⟨x, sa, e1⟩ : ∃ x t, Gr.numS (-2147483648) 2147483647 s = (x, t) := ⟨_, _, rfl⟩
  rw [e1] at n1 z1
  simp only at z1
  have n2 := fun W h g => rdNum_any w0 A B sa (-2147483648) 2147483647 W h g (by omega)
  obtain ⟨y, sb, e2⟩ : ∃ x t, Gr.numS (-2147483648) 2147483647 sa = (x, t) := ⟨_, _, rfl⟩
  rw [e2] at n2
  rw [valS_eq e1 e2]
  simp only at n1 n2 ⊢
  have N1 := Lib.hid n1
  have N2 := Lib.hid n2
  have H := Lib.hid h
  have HG := Lib.hid hg
  have hAl := heap_lt h.2.1
  have hBl := heap_lt h.2.2.2
  have hWl := hg.below.size
  clear n1 n2 e1 e2 h hg
  go_enter Tryz.func104, Tryz.ntmps104
  have H5 := Lib.hid (heap_new_at W (.cells #[.int .i64 0, .int .i64 0] 117) _ rfl)
  go_wp2_with fail
  refine (N1.out _ (H.out.grew (by repeat (first | with_reducible exact Grew.refl _ | apply Grew.more | apply Grew.alloc | apply Grew.drew | apply Grew.drewN))) (HG.out.trans (by repeat (first | with_reducible exact Grew.refl _ | apply Grew.more | apply Grew.alloc | apply Grew.drew | apply Grew.drewN)))).mono ?_
  rintro e W1 ⟨rfl, r1, g1, k1⟩
  have R1 := Lib.hid r1
  have G1 := Lib.hid g1
  have K1 := Lib.hid k1
  clear r1 g1 k1
  go_wp2_with fail
  refine (N2.out _ R1.out G1.out).mono ?_
  rintro e W2 ⟨rfl, r2, g2, k2⟩
  have R2 := Lib.hid r2
  have G2 := Lib.hid g2
  have K2 := Lib.hid (K1.out.trans k2)
  clear r2 g2 k2
  have h5 := K2.out.2 W.heap.size (by rw [World.size_alloc]; omega) (by omega) (by omega)
  rw [H5.out] at h5
  have q0 := cell_of (o := 0) h5
  have f0 := frozen_of (o := 0) h5
  have q1 := cell_of (o := 1) h5
  have f1 := frozen_of (o := 1) h5
  simp at q0 q1
  have p3 := Pre.mk (heap_lt h5)
  go_wp2_with fail
  have hT1 := set_self (o := 0) (v := .int .i64 x) h5
  simp at hT1
  have hT2 := set_self (o := 1) (v := .int .i64 y) hT1
  simp at hT2
  have hA : W.heap.size ≠ A := by omega
  have hB : W.heap.size ≠ B := by omega
  have hR := (R2.out.setOther (C := W.heap.size) (o := 0) (v := .int .i64 x) hA hB).setOther (C := W.heap.size) (o := 1) (v := .int .i64 y) hA hB
  have hG := (G2.out.set hWl (.int .i64 x) (o := 0)).set hWl (.int .i64 y) (o := 1)
  have hK := Keep2.setNew (o := 1) (v := .int .i64 y) (Keep2.setNew (o := 0) (v := .int .i64 x) ((Keep2.ofGrew (by repeat (first | with_reducible exact Grew.refl _ | apply Grew.more | apply Grew.alloc | apply Grew.drew | apply Grew.drewN))).trans K2.out) (Nat.le_refl W.heap.size)) (Nat.le_refl _)
  generalize (W2.setCell ⟨W.heap.size, 0, none⟩ (.int .i64 x)).setCell ⟨W.heap.size, 1, none⟩ (.int .i64 y) = W3 at *
  clear q0 q1 f0 f1
  have c0 := cell_of (o := 0) hT2
  have c1 := cell_of (o := 1) hT2
  simp at c0 c1
  exact bodyPost_ret (v := .agg #[.int .i64 x, .int .i64 y]) (by simp [results, Tryz.results104, go_sem, c0, c1]) rfl ⟨rfl, hR, hG, hK⟩
end Go.Proofs.YtpbohimddmploaaGreat
