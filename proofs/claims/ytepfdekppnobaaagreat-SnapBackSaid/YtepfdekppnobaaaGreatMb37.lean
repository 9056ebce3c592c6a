import Derived.Test.YtepfdekppnobaaaGreatMb33
import Derived.Test.YtepfdekppnobaaaGreatMb18
/-! pack's reader: prog, end. -/
namespace Go.Proofs.YtepfdekppnobaaaGreat
set_option linter.unusedSimpArgs false
set_option linter.unusedVariables false
open Go.RowKit Ga
set_option maxRecDepth 100000

theorem RdAt.setOther {base A B C : Nat} {W : World} {s : Gr.Rs} {o : Nat} {v : Value} (h : RdAt base A B W s) (hA : C ≠ A) (hB : C ≠ B) : RdAt base A B (W.setCell ⟨C, o, none⟩ v) s :=
  ⟨h.1, by rw [set_other hA]; exact h.2.1, h.2.2.1, by rw [set_other hB]; exact h.2.2.2⟩
theorem OwnAt.setOther {α : Type} {base C : Nat} {e t : TypeId} {k : Nat} {enc : α → List Value} {W : World} {v x : Value} {l : List α} {o : Nat} {c : Array Value} {f : Nat × Nat} (h : OwnAt base e k enc W v l) (hC : W.heap[C]? = some (.cells c t f)) (ht : t ≠ e) : OwnAt base e k enc (W.setCell ⟨C, o, none⟩ x) v l :=
  OwnAt.same h fun b hb => set_other fun q => by
    subst q
    exact own_ne h hC ht hb
def RdProg (w0 W : World) (A B : Nat) (l : List Vm.Ins) (s : Gr.Rs) (e : Ending) (W' : World) : Prop := ∃ v, e = .returned v ∧ OwnAt W.heap.size 140 2 encI W' v l ∧ RdAt w0.heap.size A B W' s ∧ Grew w0 W' ∧ Keep2 A B W W'
set_option maxHeartbeats 4000000 in
theorem rdProg_any (w0 : World) (A B : Nat) (s : Gr.Rs) (W : World) (h : RdAt w0.heap.size A B W s) (hg : Grew w0 W) (hs : s.1.length ≤ 1000000) :
    Calls Tryz.prog 142 #[.pointer (some ⟨A, 0, none⟩)] W (RdProg w0 W A B (Gr.progS getL s).1 (Gr.progS getL s).2) := by
  have H := Lib.hid h
  have HG := Lib.hid hg
  have c0 := cell_of (o := 0) h.2.1
  have c1 := cell_of (o := 1) h.2.1
  have hpA := Pre.mk (heap_lt h.2.1)
  simp at c0 c1
  obtain ⟨z, x⟩ := s
  simp only at hs c1
  by_cases he : x = 0
  · subst he
    have hn : Gr.progS getL (z, 0) = ((getL z).1, ((getL z).2.2, (getL z).2.1)) := by unfold Gr.progS; rw [if_neg (by simp)]
    rw [hn]
    have hw := codeGet_keep w0 B z W h.2.2 hg hs
    generalize getL z = r at *
    obtain ⟨y, er, z'⟩ := r
    simp only at hw ⊢
    have HW := Lib.hid hw
    clear h hg hw hn
    go_enter Tryz.func142, Tryz.ntmps142
    go_wp2_with (go_at_call 167; refine HW.out.mono ?_; rintro e w1 ⟨v1, rfl, ho1, hr1, hg1, hk1⟩; simp only at ho1 hr1; obtain ⟨a1, cc1, rfl⟩ := (ho1.rows encI_len).len; obtain ⟨hA1, hR1⟩ := RdAt.put (e := er) H.out hr1 hk1; (have d1 := cell_of (o := 1) hA1); (have g1 := frozen_of (o := 1) hA1); (have pA1 := Pre.mk (heap_lt hA1)); simp at d1; (have HO1 := Lib.hid (OwnAt.setOther (o := 1) (x := .int .i64 er) ho1 hA1 (by decide))); (have HR1 := Lib.hid hR1); (have HG1 := Lib.hid hg1); (have HK1 := Lib.hid hk1); clear ho1 hr1 hg1 hk1 hA1 hR1)
    go_ret
    exact ⟨_, rfl, HO1.out, HR1.out, HG1.out.set H.out.1 _, (Keep2.ofKeep HK1.out).trans Keep2.set⟩
  · have hn : Gr.progS getL (z, x) = ([], (z, x)) := by unfold Gr.progS; rw [if_pos he]
    rw [hn]
    have he2 : (x != 0) = true := by rw [bne_iff_ne]; exact he
    clear h hg he hn
    go_enter Tryz.func142, Tryz.ntmps142
    go_wp2
    go_ret
    exact ⟨_, rfl, OwnAt.nil _, H.out, HG.out, Keep2.refl _ _ _⟩
/-- the error of all that was read -/
def endE (s : Gr.Rs) (fine : Bool) : Int := if s.2 ≠ 0 then s.2 else if decide (0 < s.1.length) || !fine then 4 else 0
set_option maxHeartbeats 4000000 in
theorem rdEnd_any (base A B : Nat) (s : Gr.Rs) (fine : Bool) (W : World) (h : RdAt base A B W s) :
    Calls Tryz.prog 115 #[.pointer (some ⟨A, 0, none⟩), .bool fine] W fun e w' => e = .returned (.int .i64 (endE s fine)) ∧ w' = W := by
  have c0 := cell_of (o := 0) h.2.1
  have c1 := cell_of (o := 1) h.2.1
  have hpA := Pre.mk (heap_lt h.2.1)
  simp at c0 c1
  obtain ⟨z, x⟩ := s
  simp only at c1
  have hL := octLeft_any base B z W h.2.2
  have HL := Lib.hid hL
  clear h hL
  by_cases he : x = 0
  · subst he
    by_cases hz : 0 < z.length
    · have hn : endE (z, 0) fine = 4 := by unfold endE; rw [if_neg (by simp)]; simp [hz]
      rw [hn]
      have hz' : (0 : Int) < (z.length : Int) := by omega
      clear hn
      go_enter Tryz.func115, Tryz.ntmps115
      go_wp2_with (go_at_call 143; refine HL.out.mono ?_; rintro e w1 ⟨rfl, rfl⟩)
      go_ret
      exact ⟨rfl, rfl⟩
    · have hz' : ¬ (0 : Int) < (z.length : Int) := by omega
      cases fine with
      | true =>
        have hn : endE (z, 0) true = 0 := by unfold endE; rw [if_neg (by simp)]; simp [hz]
        rw [hn]
        clear hn
        go_enter Tryz.func115, Tryz.ntmps115
        go_wp2_with (go_at_call 143; refine HL.out.mono ?_; rintro e w1 ⟨rfl, rfl⟩)
        go_ret
        exact ⟨rfl, rfl⟩
      | false =>
        have hn : endE (z, 0) false = 4 := by unfold endE; rw [if_neg (by simp)]; simp
        rw [hn]
        clear hn
        go_enter Tryz.func115, Tryz.ntmps115
        go_wp2_with (go_at_call 143; refine HL.out.mono ?_; rintro e w1 ⟨rfl, rfl⟩)
        go_ret
        exact ⟨rfl, rfl⟩
  · have he2 : (x != 0) = true := by rw [bne_iff_ne]; exact he
    have hn : endE (z, x) fine = x := by unfold endE; rw [if_pos he]
    rw [hn]
    clear hn he
    go_enter Tryz.func115, Tryz.ntmps115
    go_wp2
    go_ret
    exact ⟨rfl, rfl⟩
end Go.Proofs.YtepfdekppnobaaaGreat

/-! pack's reader: node. -/
namespace Go.Proofs.YtepfdekppnobaaaGreat
set_option linter.unusedSimpArgs false
set_option linter.unusedVariables false
open Go.RowKit Ga
set_option maxRecDepth 100000

/-- a node's cells, the routes as a list -/
def nodeArr (id kind : Int) (vf vp : Value) (par : Int) (rs : List Int) : Array Value := #[.int .i64 id, .int .i64 kind, vf, vp, .int .i64 par] ++ (rs.map (Value.int .i64)).toArray
theorem nodeArr_set (id kind : Int) (vf vp : Value) (par : Int) (rs : List Int) (k : Nat) (y : Int) : (nodeArr id kind vf vp par rs).setIfInBounds (5 + k) (.int .i64 y) = nodeArr id kind vf vp par (rs.set k y) := by
  unfold nodeArr
  apply Array.ext'
  simp only [Array.toList_setIfInBounds, Array.toList_append, List.map_set]
  rw [List.set_append_right _ _ (by simp)]
  simp
theorem nodeArr_get (id kind : Int) (vf vp : Value) (par : Int) (rs : List Int) (k : Nat) (h : k < rs.length) : (nodeArr id kind vf vp par rs)[5 + k]? = some (.int .i64 rs[k]) := by
  unfold nodeArr
  rw [Array.getElem?_append_right (by simp)]
  simp [h]
def padR (l : List Int) : List Int := l ++ List.replicate (8 - l.length) 0
theorem padR_len {l : List Int} (h : l.length ≤ 8) : (padR l).length = 8 := by unfold padR; rw [List.length_append, List.length_replicate]; omega
theorem padR_set {l : List Int} {y : Int} (h : l.length < 8) : (padR l).set l.length y = padR (l ++ [y]) := by
  unfold padR
  rw [List.set_append_right _ _ (Nat.le_refl _), Nat.sub_self, List.length_append, List.append_assoc]
  obtain ⟨m, hm⟩ : ∃ m, 8 - l.length = m + 1 := ⟨7 - l.length, by omega⟩
  rw [hm, show 8 - (l.length + [y].length) = m by simp; omega]
  rfl
theorem Keep2.setNew {A B C : Nat} {w W : World} {o : Nat} {v : Value} (h : Keep2 A B w W) (hC : w.heap.size ≤ C) : Keep2 A B w (W.setCell ⟨C, o, none⟩ v) :=
  ⟨by rw [World.size_setCell]; exact h.1, fun q hq h1 h2 => by rw [set_other (show C ≠ q by omega)]; exact h.2 q hq h1 h2⟩
theorem eight (l : List Int) (h : l.length = 8) : ∃ o0 o1 o2 o3 o4 o5 o6 o7, l = [o0, o1, o2, o3, o4, o5, o6, o7] := by
  match l, h with
  | [o0, o1, o2, o3, o4, o5, o6, o7], _ => exact ⟨o0, o1, o2, o3, o4, o5, o6, o7, rfl⟩
/-- a node comes back in memory of the call's own -/
def RdNode (w0 W : World) (A B : Nat) (n : Gr.Nd) (s : Gr.Rs) (e : Ending) (W' : World) : Prop := ∃ c : NdC, e = .returned (.agg #[.int .i64 c.id, .int .i64 c.kind, .slice c.af c.nf c.cf, .slice c.ap c.np c.cp, .int .i64 c.par, .int .i64 c.r0, .int .i64 c.r1, .int .i64 c.r2, .int .i64 c.r3, .int .i64 c.r4, .int .i64 c.r5, .int .i64 c.r6, .int .i64 c.r7]) ∧ NodeIs W' c n ∧ OwnsNd W.heap.size W' c n ∧ RdAt w0.heap.size A B W' s ∧ Grew w0 W' ∧ Keep2 A B W W'
theorem set13 {W : World} {q : Nat} {t : TypeId} {u0 u1 u2 u3 u4 u5 u6 u7 u8 u9 u10 u11 u12 : Value} (h : W.heap[q]? = some (.cells #[u0, u1, u2, u3, u4, u5, u6, u7, u8, u9, u10, u11, u12] t)) (v0 v1 v2 v3 v4 v5 v6 v7 v8 v9 v10 v11 v12 : Value) : (((((((((((((W.setCell ⟨q, 0, none⟩ v0).setCell ⟨q, 1, none⟩ v1).setCell ⟨q, 2, none⟩ v2).setCell ⟨q, 3, none⟩ v3).setCell ⟨q, 4, none⟩ v4).setCell ⟨q, 5, none⟩ v5).setCell ⟨q, 6, none⟩ v6).setCell ⟨q, 7, none⟩ v7).setCell ⟨q, 8, none⟩ v8).setCell ⟨q, 9, none⟩ v9).setCell ⟨q, 10, none⟩ v10).setCell ⟨q, 11, none⟩ v11).setCell ⟨q, 12, none⟩ v12).heap[q]? = some (.cells #[v0, v1, v2, v3, v4, v5, v6, v7, v8, v9, v10, v11, v12] t) := by
  have h0 := set_self (o := 0) (v := v0) h
  simp at h0
  have h1 := set_self (o := 1) (v := v1) h0
  simp at h1
  have h2 := set_self (o := 2) (v := v2) h1
  simp at h2
  have h3 := set_self (o := 3) (v := v3) h2
  simp at h3
  have h4 := set_self (o := 4) (v := v4) h3
  simp at h4
  have h5 := set_self (o := 5) (v := v5) h4
  simp at h5
  have h6 := set_self (o := 6) (v := v6) h5
  simp at h6
  have h7 := set_self (o := 7) (v := v7) h6
  simp at h7
  have h8 := set_self (o := 8) (v := v8) h7
  simp at h8
  have h9 := set_self (o := 9) (v := v9) h8
  simp at h9
  have h10 := set_self (o := 10) (v := v10) h9
  simp at h10
  have h11 := set_self (o := 11) (v := v11) h10
  simp at h11
  have h12 := set_self (o := 12) (v := v12) h11
  simp at h12
  exact h12
theorem res_node {W : World} {tmps : Array Value} {q : Nat} {id kind par o0 o1 o2 o3 o4 o5 o6 o7 : Int} {vf vp : Value} (hs : tmps.size = 32) (ht : tmps[4]? = some (.pointer (some ⟨q, 0, none⟩))) (h : W.heap[q]? = some (.cells #[.int .i64 id, .int .i64 kind, vf, vp, .int .i64 par, .int .i64 o0, .int .i64 o1, .int .i64 o2, .int .i64 o3, .int .i64 o4, .int .i64 o5, .int .i64 o6, .int .i64 o7] 64)) :
    (results Tryz.f114 tmps).run Tryz.prog W = .ok (.agg #[.int .i64 id, .int .i64 kind, vf, vp, .int .i64 par, .int .i64 o0, .int .i64 o1, .int .i64 o2, .int .i64 o3, .int .i64 o4, .int .i64 o5, .int .i64 o6, .int .i64 o7]) W := by
  have c0 := cell_of (o := 0) h
  have c1 := cell_of (o := 1) h
  have c2 := cell_of (o := 2) h
  have c3 := cell_of (o := 3) h
  have c4 := cell_of (o := 4) h
  have c5 := cell_of (o := 5) h
  have c6 := cell_of (o := 6) h
  have c7 := cell_of (o := 7) h
  have c8 := cell_of (o := 8) h
  have c9 := cell_of (o := 9) h
  have c10 := cell_of (o := 10) h
  have c11 := cell_of (o := 11) h
  have c12 := cell_of (o := 12) h
  have ht2 : tmps.getD 4 undef = .pointer (some ⟨q, 0, none⟩) := by rw [Array.getD_eq_getD_getElem?, ht]; rfl
  simp at c0 c1 c2 c3 c4 c5 c6 c7 c8 c9 c10 c11 c12
  simp [results, Tryz.results114, go_sem, ht, c0, c1, c2, c3, c4, c5, c6, c7, c8, c9, c10, c11, c12]
theorem rdNode_made {w0 W W' : World} {A B : Nat} (c : NdC) {n : Gr.Nd} {s : Gr.Rs} (hi : n.id = c.id) (hk : n.kind = c.kind) (hp : n.par = c.par) (hr : n.route = [c.r0, c.r1, c.r2, c.r3, c.r4, c.r5, c.r6, c.r7])
    (o1 : OwnAt W.heap.size 3 1 encN W' c.vf n.frm) (o2 : OwnAt W.heap.size 140 2 encI W' c.vp n.prog) (h1 : RdAt w0.heap.size A B W' s) (h2 : Grew w0 W') (h3 : Keep2 A B W W') : RdNode w0 W A B n s (.returned (.agg #[.int .i64 c.id, .int .i64 c.kind, .slice c.af c.nf c.cf, .slice c.ap c.np c.cp, .int .i64 c.par, .int .i64 c.r0, .int .i64 c.r1, .int .i64 c.r2, .int .i64 c.r3, .int .i64 c.r4, .int .i64 c.r5, .int .i64 c.r6, .int .i64 c.r7])) W' :=
  ⟨c, rfl, ⟨hi, hk, o1.rows encN_len, o2.rows encI_len, hp, hr, OwnAt.cap o1⟩, ⟨o1, o2⟩, h1, h2, h3⟩
set_option maxHeartbeats 8000000 in
theorem rdNode_any (w0 : World) (A B : Nat) (s : Gr.Rs) (lp : Int) (hlp : lp ≤ 0 ∨ lp ≤ 3) (W : World) (h : RdAt w0.heap.size A B W s) (hg : Grew w0 W) (hs : s.1.length ≤ 1000000) :
    Calls Tryz.prog 114 #[.pointer (some ⟨A, 0, none⟩), .int .i64 lp] W (RdNode w0 W A B (Gr.nodeS getL lp s).1 (Gr.nodeS getL lp s).2) := by
  have hAlt := heap_lt h.2.1
  have hBlt := heap_lt h.2.2.2
  have hAB := h.ne
  have HH := Lib.hid h
  have HG := Lib.hid hg
  clear h hg
  -- the numbers that come up
  have n1 := rdNum_any w0 A B s 0 7
  have l1 := numS_len 0 7 s
  obtain ⟨id, s1, e1⟩ : ∃ x t, Gr.numS 0 7 s = (x, t) := ⟨_, _, rfl⟩
  rw [e1] at n1 l1
  have n2 := rdNum_any w0 A B s1 0 2
  have l2 := numS_len 0 2 s1
  obtain ⟨kind, s2, e2⟩ : ∃ x t, Gr.numS 0 2 s1 = (x, t) := ⟨_, _, rfl⟩
  rw [e2] at n2 l2
  have n3 := rdList_any w0 A B s2 3 0 7
  have l3 := (listS_len 0 7 (Gr.numS 0 3 s2).1.toNat (Gr.numS 0 3 s2).2).2
  have l3' := numS_len 0 3 s2
  obtain ⟨fr, s3, e3⟩ : ∃ x t, Gr.listS 0 7 (Gr.numS 0 3 s2).1.toNat (Gr.numS 0 3 s2).2 = (x, t) := ⟨_, _, rfl⟩
  rw [e3] at n3 l3
  have n4 := rdProg_any w0 A B s3
  have l4 := progS_len s3
  obtain ⟨pr, s4, e4⟩ : ∃ x t, Gr.progS getL s3 = (x, t) := ⟨_, _, rfl⟩
  rw [e4] at n4 l4
  have n5 := rdNum_any w0 A B s4 lp 3
  have l5 := numS_len lp 3 s4
  obtain ⟨par, s5, e5⟩ : ∃ x t, Gr.numS lp 3 s4 = (x, t) := ⟨_, _, rfl⟩
  rw [e5] at n5 l5
  have hres : Gr.nodeS getL lp s = (⟨id, kind, fr, pr, par, (Gr.listS 0 2 8 s5).1⟩, (Gr.listS 0 2 8 s5).2) := by
    unfold Gr.nodeS
    simp only [e1, e2, e3, e4, e5]
  rw [hres]
  simp only at n1 n2 n3 n4 n5 l1 l2 l3 l4 l5
  have N1 := Lib.hid n1
  have N2 := Lib.hid n2
  have N3 := Lib.hid n3
  have N4 := Lib.hid n4
  have N5 := Lib.hid n5
  clear hres e1 e2 e3 e4 e5 n1 n2 n3 n4 n5
  have HT4 := Lib.hid (heap_new_at W (.cells #[.int .i64 0, .int .i64 0, .slice none 0 0, .slice none 0 0, .int .i64 0, .int .i64 0, .int .i64 0, .int .i64 0, .int .i64 0, .int .i64 0, .int .i64 0, .int .i64 0, .int .i64 0] 64) _ rfl)
  go_enter Tryz.func114, Tryz.ntmps114
  go_wp2_with fail
  refine (N1.out _ (HH.out.grew (by repeat (first | with_reducible exact Grew.refl _ | apply Grew.more | apply Grew.alloc | apply Grew.drew | apply Grew.drewN))) (HG.out.trans (by repeat (first | with_reducible exact Grew.refl _ | apply Grew.more | apply Grew.alloc | apply Grew.drew | apply Grew.drewN))) hs).mono ?_
  rintro e W1 ⟨rfl, r1, g1, k1⟩
  have R1 := Lib.hid r1
  have G1 := Lib.hid g1
  have K1 := Lib.hid k1
  clear r1 g1 k1
  go_wp2_with fail
  refine (N2.out _ R1.out G1.out (by omega)).mono ?_
  rintro e W2 ⟨rfl, r2, g2, k2⟩
  have R2 := Lib.hid r2
  have G2 := Lib.hid g2
  have K2 := Lib.hid (K1.out.trans k2)
  have z1 := k2.1
  have z2 := K1.out.1
  rw [World.size_alloc] at z2
  clear r2 g2 k2
  have h5 := heap_new_at W2 (.cells #[.int .i64 id, .int .i64 kind, .slice none 0 0, .slice none 0 0, .int .i64 0, .int .i64 0, .int .i64 0, .int .i64 0, .int .i64 0, .int .i64 0, .int .i64 0, .int .i64 0, .int .i64 0] 64) _ rfl
  have H5 := Lib.hid h5
  clear h5
  go_wp2_with fail
  refine (N3.out _ (R2.out.grew (by repeat (first | with_reducible exact Grew.refl _ | apply Grew.more | apply Grew.alloc | apply Grew.drew | apply Grew.drewN))) (G2.out.trans (by repeat (first | with_reducible exact Grew.refl _ | apply Grew.more | apply Grew.alloc | apply Grew.drew | apply Grew.drewN))) (by omega) (by decide) (by decide)).mono ?_
  rintro e W3 ⟨vf, rfl, o3, r3, g3, k3⟩
  have h53 := k3.2 W2.heap.size (by rw [World.size_alloc]; omega) (by omega) (by omega)
  rw [H5.out] at h53
  obtain ⟨af, cf, rfl⟩ := (o3.rows encN_len).len
  have z3 := k3.1
  rw [World.size_alloc] at z3
  have q2 := cell_of (o := 2) h53
  have f2 := frozen_of (o := 2) h53
  have p2 := Pre.mk (heap_lt h53)
  simp at q2
  have R3 := Lib.hid r3
  have G3 := Lib.hid g3
  have K3 := Lib.hid ((K2.out.trans (Keep2.ofGrew (by repeat (first | with_reducible exact Grew.refl _ | apply Grew.more | apply Grew.alloc | apply Grew.drew | apply Grew.drewN)))).trans k3)
  have O3 := Lib.hid o3
  have H53 := Lib.hid h53
  clear o3 r3 g3 k3 h53
  have hTA : W2.heap.size ≠ A := by omega
  have hTB : W2.heap.size ≠ B := by omega
  have hT0 : w0.heap.size ≤ W2.heap.size := G2.out.below.size
  have hTW : (W.alloc (.cells #[.int .i64 0, .int .i64 0, .slice none 0 0, .slice none 0 0, .int .i64 0, .int .i64 0, .int .i64 0, .int .i64 0, .int .i64 0, .int .i64 0, .int .i64 0, .int .i64 0, .int .i64 0] 64)).heap.size ≤ W2.heap.size := by rw [World.size_alloc]; omega
  have R3s := Lib.hid (RdAt.setOther (o := 2) (v := .slice af fr.length cf) R3.out hTA hTB)
  have G3s := Lib.hid (G3.out.set (o := 2) hT0 (.slice af fr.length cf))
  have K3s := Lib.hid (Keep2.setNew (o := 2) (v := .slice af fr.length cf) K3.out hTW)
  have O3s := Lib.hid (OwnAt.setOther (o := 2) (x := .slice af fr.length cf) O3.out H53.out (by decide))
  have h5s : (W3.setCell ⟨W2.heap.size, 2, none⟩ (.slice af fr.length cf)).heap[W2.heap.size]? = some (.cells #[.int .i64 id, .int .i64 kind, .slice af fr.length cf, .slice none 0 0, .int .i64 0, .int .i64 0, .int .i64 0, .int .i64 0, .int .i64 0, .int .i64 0, .int .i64 0, .int .i64 0, .int .i64 0] 64) := by rw [set_self H53.out]; rfl
  have H5s := Lib.hid h5s
  clear h5s
  go_wp2_with fail
  clear q2 f2 p2
  refine (N4.out _ R3s.out G3s.out (by omega)).mono ?_
  rintro e W4 ⟨vp, rfl, o4, r4, g4, k4⟩
  obtain ⟨ap, cp, rfl⟩ := (o4.rows encI_len).len
  have h54 := k4.2 W2.heap.size (heap_lt H5s.out) hTA hTB
  rw [H5s.out] at h54
  have q3 := cell_of (o := 3) h54
  have f3 := frozen_of (o := 3) h54
  have p3 := Pre.mk (heap_lt h54)
  simp at q3
  have R4s := Lib.hid (RdAt.setOther (o := 3) (v := .slice ap pr.length cp) r4 hTA hTB)
  have G4s := Lib.hid (g4.set (o := 3) hT0 (.slice ap pr.length cp))
  have K4s := Lib.hid (Keep2.setNew (o := 3) (v := .slice ap pr.length cp) (K3s.out.trans k4) hTW)
  have O34 := Lib.hid (OwnAt.setOther (o := 3) (x := .slice ap pr.length cp) (OwnAt.keep2 O3s.out k4 R3s.out) h54 (by decide))
  have O4s := Lib.hid (OwnAt.setOther (o := 3) (x := .slice ap pr.length cp) o4 h54 (by decide))
  have h5t : (W4.setCell ⟨W2.heap.size, 3, none⟩ (.slice ap pr.length cp)).heap[W2.heap.size]? = some (.cells #[.int .i64 id, .int .i64 kind, .slice af fr.length cf, .slice ap pr.length cp, .int .i64 0, .int .i64 0, .int .i64 0, .int .i64 0, .int .i64 0, .int .i64 0, .int .i64 0, .int .i64 0, .int .i64 0] 64) := by rw [set_self h54]; rfl
  have H5t := Lib.hid h5t
  have z4 := k4.1
  rw [World.size_setCell] at z4
  clear o4 r4 g4 k4 h54 h5t
  go_wp2_with fail
  clear q3 f3 p3
  refine (N5.out _ R4s.out G4s.out (by omega)).mono ?_
  rintro e W5 ⟨rfl, r5, g5, k5⟩
  have h55 := k5.2 W2.heap.size (heap_lt H5t.out) hTA hTB
  rw [H5t.out] at h55
  have q4 := cell_of (o := 4) h55
  have f4 := frozen_of (o := 4) h55
  have p4 := Pre.mk (heap_lt h55)
  simp at q4
  have R5s := Lib.hid (RdAt.setOther (o := 4) (v := .int .i64 par) r5 hTA hTB)
  have G5s := Lib.hid (g5.set (o := 4) hT0 (.int .i64 par))
  have K5s := Lib.hid (Keep2.setNew (o := 4) (v := .int .i64 par) (K4s.out.trans k5) hTW)
  have O35 := Lib.hid (OwnAt.low (base' := W.heap.size) (OwnAt.setOther (o := 4) (x := .int .i64 par) (OwnAt.keep2 O34.out k5 R4s.out) h55 (by decide)) (by rw [World.size_alloc]; omega))
  have O45 := Lib.hid (OwnAt.low (base' := W.heap.size) (OwnAt.setOther (o := 4) (x := .int .i64 par) (OwnAt.keep2 O4s.out k5 R4s.out) h55 (by decide)) (by rw [World.size_setCell]; omega))
  have h5u : (W5.setCell ⟨W2.heap.size, 4, none⟩ (.int .i64 par)).heap[W2.heap.size]? = some (.cells (nodeArr id kind (.slice af fr.length cf) (.slice ap pr.length cp) par (padR (Gr.listS 0 2 0 s5).1)) 64) := by rw [set_self h55]; rfl
  have H5u := Lib.hid h5u
  clear r5 g5 k5 h55 h5u
  go_wp2
  go_loopg [22] 8 (fun gg s22 wr => ∃ k : Nat, k ≤ 8 ∧ 8 - k ≤ gg ∧ s22 = .int .i64 k ∧ Hid (RdAt w0.heap.size A B wr (Gr.listS 0 2 k s5).2) ∧ Hid (Grew w0 wr) ∧ Hid (Keep2 A B (W.alloc (.cells #[.int .i64 0, .int .i64 0, .slice none 0 0, .slice none 0 0, .int .i64 0, .int .i64 0, .int .i64 0, .int .i64 0, .int .i64 0, .int .i64 0, .int .i64 0, .int .i64 0, .int .i64 0] 64)) wr) ∧ Hid (wr.heap[W2.heap.size]? = some (.cells (nodeArr id kind (.slice af fr.length cf) (.slice ap pr.length cp) par (padR (Gr.listS 0 2 k s5).1)) 64)) ∧ Hid (OwnAt W.heap.size 3 1 encN wr (.slice af fr.length cf) fr) ∧ Hid (OwnAt W.heap.size 140 2 encI wr (.slice ap pr.length cp) pr))
  case atStart => exact ⟨0, by omega, by omega, rfl, R5s, G5s, K5s, H5u, O35, O45⟩
  case round =>
    obtain ⟨k, hk, hgg, rfl, HR, HGr, HK, HT, HF, HP⟩ := hrel
    obtain ⟨hl1, hl2⟩ := listS_len 0 2 k s5
    by_cases hlt : k < 8
    · have hsc := listS_succ 0 2 k s5
      have hnum := rdNum_any w0 A B (Gr.listS 0 2 k s5).2 0 2 wr HR.out HGr.out (by omega)
      have HSC := Lib.hid hsc
      have HNUM := Lib.hid hnum
      have HL1 := Lib.hid hl1
      clear hsc hnum hl1 hl2
      generalize Gr.numS 0 2 (Gr.listS 0 2 k s5).2 = y at *
      obtain ⟨y1, y2⟩ := y
      simp only at HNUM HSC
      generalize hLS : Gr.listS 0 2 k s5 = LS at *
      have HLS := Lib.hid hLS
      clear hLS
      go_wp2_with (go_at_call 113; refine HNUM.out.mono ?_; rintro e W6 ⟨rfl, r6, g6, k6⟩; (have h56 := k6.2 W2.heap.size (heap_lt HT.out) hTA hTB); rw [HT.out] at h56; (have q6 := cell_of (o := 5 + k) h56); rw [nodeArr_get _ _ _ _ _ _ _ (by rw [padR_len (by rw [HL1.out]; omega)]; exact hlt)] at q6; (have f6 := frozen_of (o := 5 + k) h56); (have p6 := Pre.mk (heap_lt h56)); (have R6 := Lib.hid r6); (have G6 := Lib.hid g6); (have K6 := Lib.hid k6); (have H56 := Lib.hid h56); clear r6 g6 k6 h56)
      have hT7 : (W6.setCell ⟨W2.heap.size, 5 + k, none⟩ (.int .i64 y1)).heap[W2.heap.size]? = some (.cells (nodeArr id kind (.slice af fr.length cf) (.slice ap pr.length cp) par (padR (LS.1 ++ [y1]))) 64) := by
        rw [set_self H56.out, nodeArr_set]
        have := padR_set (l := LS.1) (y := y1) (by rw [HL1.out]; exact hlt)
        rw [HL1.out] at this
        rw [this]
      have HT7 := Lib.hid hT7
      clear hT7
      go_roundg (8 - (k + 1))
      case measure => omega
      case rel => exact ⟨k + 1, by omega, by omega, by go_num, Lib.hid (by rw [HSC.out]; exact R6.out.setOther hTA hTB), Lib.hid (G6.out.set hT0 _), Lib.hid (Keep2.setNew (HK.out.trans K6.out) hTW), Lib.hid (by rw [HSC.out]; exact HT7.out), Lib.hid (OwnAt.setOther (OwnAt.keep2 HF.out K6.out HR.out) H56.out (by decide)), Lib.hid (OwnAt.setOther (OwnAt.keep2 HP.out K6.out HR.out) H56.out (by decide))⟩
    · obtain rfl : k = 8 := by omega
      generalize hLS : Gr.listS 0 2 8 s5 = LS at *
      obtain ⟨o, s6⟩ := LS
      simp only at hl1 hl2 HT HR
      obtain ⟨o0, o1, o2, o3, o4, o5, o6, o7, rfl⟩ := eight o hl1
      have hT8 : wr.heap[W2.heap.size]? = some (.cells #[.int .i64 id, .int .i64 kind, .slice af fr.length cf, .slice ap pr.length cp, .int .i64 par, .int .i64 o0, .int .i64 o1, .int .i64 o2, .int .i64 o3, .int .i64 o4, .int .i64 o5, .int .i64 o6, .int .i64 o7] 64) := HT.out
      have hT4 := HK.out.2 W.heap.size (by rw [World.size_alloc]; omega) (by omega) (by omega)
      rw [HT4.out] at hT4
      have c0 := cell_of (o := 0) hT8
      have c1 := cell_of (o := 1) hT8
      have c2 := cell_of (o := 2) hT8
      have c3 := cell_of (o := 3) hT8
      have c4 := cell_of (o := 4) hT8
      have c5 := cell_of (o := 5) hT8
      have c6 := cell_of (o := 6) hT8
      have c7 := cell_of (o := 7) hT8
      have c8 := cell_of (o := 8) hT8
      have c9 := cell_of (o := 9) hT8
      have c10 := cell_of (o := 10) hT8
      have c11 := cell_of (o := 11) hT8
      have c12 := cell_of (o := 12) hT8
      have d0 := cell_of (o := 0) hT4
      have f0 := frozen_of (o := 0) hT4
      have d1 := cell_of (o := 1) hT4
      have f1 := frozen_of (o := 1) hT4
      have d2 := cell_of (o := 2) hT4
      have f2 := frozen_of (o := 2) hT4
      have d3 := cell_of (o := 3) hT4
      have f3 := frozen_of (o := 3) hT4
      have d4 := cell_of (o := 4) hT4
      have f4 := frozen_of (o := 4) hT4
      have d5 := cell_of (o := 5) hT4
      have f5 := frozen_of (o := 5) hT4
      have d6 := cell_of (o := 6) hT4
      have f6 := frozen_of (o := 6) hT4
      have d7 := cell_of (o := 7) hT4
      have f7 := frozen_of (o := 7) hT4
      have d8 := cell_of (o := 8) hT4
      have f8 := frozen_of (o := 8) hT4
      have d9 := cell_of (o := 9) hT4
      have f9 := frozen_of (o := 9) hT4
      have d10 := cell_of (o := 10) hT4
      have f10 := frozen_of (o := 10) hT4
      have d11 := cell_of (o := 11) hT4
      have f11 := frozen_of (o := 11) hT4
      have d12 := cell_of (o := 12) hT4
      have f12 := frozen_of (o := 12) hT4
      have pT4 := Pre.mk (heap_lt hT4)
      have pT8 := Pre.mk (heap_lt hT8)
      have hne : W2.heap.size ≠ W.heap.size := by omega
      have HT4b := Lib.hid hT4
      simp at c0 c1 c2 c3 c4 c5 c6 c7 c8 c9 c10 c11 c12 d0 d1 d2 d3 d4 d5 d6 d7 d8 d9 d10 d11 d12
      clear hT8 hT4 hLS
      go_wp2
      have hA4 : W.heap.size ≠ A := by omega
      have hB4 : W.heap.size ≠ B := by omega
      have hF4 := OwnAt.other HF.out HT4b.out (by decide)
      have hP4 := OwnAt.other HP.out HT4b.out (by decide)
      refine bodyPost_ret (v := .agg #[.int .i64 id, .int .i64 kind, .slice af fr.length cf, .slice ap pr.length cp, .int .i64 par, .int .i64 o0, .int .i64 o1, .int .i64 o2, .int .i64 o3, .int .i64 o4, .int .i64 o5, .int .i64 o6, .int .i64 o7])
        (res_node rfl rfl ?_) rfl
        (rdNode_made ⟨id, kind, af, fr.length, cf, ap, pr.length, cp, par, o0, o1, o2, o3, o4, o5, o6, o7⟩ rfl rfl rfl rfl ?_ ?_ ?_ ?_ ?_)
      · exact set13 HT4b.out _ _ _ _ _ _ _ _ _ _ _ _ _
      · exact OwnAt.same HF.out fun b hb => by
          have : W.heap.size ≠ b := fun e => hF4 (by rw [e]; exact hb)
          iterate 13 rw [set_other this]
      · exact OwnAt.same HP.out fun b hb => by
          have : W.heap.size ≠ b := fun e => hP4 (by rw [e]; exact hb)
          iterate 13 rw [set_other this]
      · iterate 13 refine RdAt.setOther ?_ hA4 hB4
        exact HR.out
      · have hWW : w0.heap.size ≤ W.heap.size := HG.out.below.size
        iterate 13 refine Grew.set ?_ hWW _
        exact HGr.out
      · iterate 13 refine Keep2.setNew ?_ (Nat.le_refl _)
        exact (Keep2.ofGrew (by repeat (first | with_reducible exact Grew.refl _ | apply Grew.more | apply Grew.alloc | apply Grew.drew | apply Grew.drewN))).trans HK.out
end Go.Proofs.YtepfdekppnobaaaGreat

/-! pack's reader: nodes; sorted; GetGraph. -/
namespace Go.Proofs.YtepfdekppnobaaaGreat
set_option linter.unusedSimpArgs false
set_option linter.unusedVariables false
open Go.RowKit Ga
set_option maxRecDepth 100000

theorem OwnsNd.keep2 {base base0 A B : Nat} {w w' : World} {c : NdC} {n : Gr.Nd} {s : Gr.Rs} (o : OwnsNd base w c n) (hk : Keep2 A B w w') (hr : RdAt base0 A B w s) : OwnsNd base w' c n := ⟨OwnAt.keep2 o.1 hk hr, OwnAt.keep2 o.2 hk hr⟩
theorem NodesIn.keep2 {base base0 A B : Nat} {w w' : World} {lc : List NdC} {l : List Gr.Nd} {s : Gr.Rs} (h : NodesIn base w lc l) (hk : Keep2 A B w w') (hr : RdAt base0 A B w s) : NodesIn base w' lc l :=
  Rel.mono (fun c n ⟨h1, h2⟩ => ⟨(h2.keep2 hk hr).is h1, h2.keep2 hk hr⟩) h
theorem nodeS_len (lp : Int) (s : Gr.Rs) : (Gr.nodeS getL lp s).2.1.length ≤ s.1.length := by
  unfold Gr.nodeS
  simp only
  have l1 := numS_len 0 7 s
  have l2 := numS_len 0 2 (Gr.numS 0 7 s).2
  generalize (Gr.numS 0 2 (Gr.numS 0 7 s).2).2 = s2 at *
  have l3 := numS_len 0 3 s2
  have l4 := (listS_len 0 7 (Gr.numS 0 3 s2).1.toNat (Gr.numS 0 3 s2).2).2
  generalize (Gr.listS 0 7 (Gr.numS 0 3 s2).1.toNat (Gr.numS 0 3 s2).2).2 = s3 at *
  have l5 := progS_len s3
  generalize (Gr.progS getL s3).2 = s4 at *
  have l6 := numS_len lp 3 s4
  have l7 := (listS_len 0 2 8 (Gr.numS lp 3 s4).2).2
  omega
end Go.Proofs.YtepfdekppnobaaaGreat
