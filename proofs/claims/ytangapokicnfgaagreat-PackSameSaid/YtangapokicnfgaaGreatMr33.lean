import Derived.Test.YtangapokicnfgaaGreatMr32
import Derived.Test.YtangapokicnfgaaGreatMr12
import Derived.Test.YtangapokicnfgaaGreatMr14
import Derived.Test.YtangapokicnfgaaGreatMr22
import Derived.Deep.LoopGhost
/-! remap.Fits; pack.entries. -/
namespace Go.Proofs.YtangapokicnfgaaGreat
set_option linter.unusedSimpArgs false
set_option linter.unusedVariables false
open Go.RowKit Ga
set_option maxRecDepth 100000

/-- what is kept is no operator's -/
def badE (g : List Gr.Nd) (x : Tab.En) : Bool := match Gr.nodeOf g x.node with
  | none => true
  | some n => n.kind != 1
set_option maxHeartbeats 4000000 in
theorem remFits1_any (B : Nat) (a : Option Addr) (cap : Nat) (g : List Gr.Nd) (W : World) (x : Tab.En) (hg : NodesAt W (.slice a g.length cap) g) (hs : Small g) (hB : W.cell? ⟨B, 0, none⟩ = some (.slice a g.length cap)) : Calls Tryz.prog 125 #[.agg #[.int .i64 x.node, .int .i64 x.key, .int .i64 x.c0.1, .int .i64 x.c0.2, .int .i64 x.c1.1, .int .i64 x.c1.2], .pointer (some ⟨B, 0, none⟩)] W (Gives (.bool (badE g x)) W) := by
  obtain ⟨nd, ky, ⟨p0, q0⟩, ⟨p1, q1⟩⟩ := x
  have HF := Lib.hid fun W' (h : Grew W W') => find_any _ g nd W' (hg.grew h) hs
  have pB := Pre.ofCell hB
  show Calls Tryz.prog _ #[.agg #[.int .i64 nd, .int .i64 ky, .int .i64 p0, .int .i64 q0, .int .i64 p1, .int .i64 q1], .pointer (some ⟨B, 0, none⟩)] W _
  clear hg hs
  cases hn : Gr.nodeOf g nd with
  | none =>
    have hb : badE g ⟨nd, ky, (p0, q0), (p1, q1)⟩ = true := by unfold badE; simp only; rw [hn]
    rw [hb]
    rw [hn] at HF
    clear hb hn
    go_enter Tryz.func125, Tryz.ntmps125
    go_wp2_with (go_at_call 56; refine (HF.out _ (by repeat (first | with_reducible exact Grew.refl _ | apply Grew.more | apply Grew.alloc | apply Grew.drew | apply Grew.drewN))).mono ?_; rintro e w1 ⟨rfl, R1, n1, rfl⟩)
    go_ret
    exact ⟨rfl, by repeat (first | with_reducible exact Grew.refl _ | apply Grew.more | apply Grew.alloc | apply Grew.drew | apply Grew.drewN)⟩
  | some n =>
    have hb : badE g ⟨nd, ky, (p0, q0), (p1, q1)⟩ = (n.kind != 1) := by unfold badE; simp only; rw [hn]
    rw [hb]
    rw [hn] at HF
    clear hb hn
    go_enter Tryz.func125, Tryz.ntmps125
    go_wp2_with (go_at_call 56; refine (HF.out _ (by repeat (first | with_reducible exact Grew.refl _ | apply Grew.more | apply Grew.alloc | apply Grew.drew | apply Grew.drewN))).mono ?_; rintro e w1 ⟨c, rfl, h1, -, R1, n1, rfl⟩; (have hk := h1.kind); obtain ⟨cid, kind, af, cf, ap, cp, par, r0, r1, r2, r3, r4, r5, r6, r7, rfl⟩ := h1.lit; simp only at hk; (have HKD := Lib.hid hk); clear h1 hk)
    go_ret
    exact ⟨by rw [HKD.out]; rfl, by repeat (first | with_reducible exact Grew.refl _ | apply Grew.more | apply Grew.alloc | apply Grew.drew | apply Grew.drewN)⟩
set_option maxHeartbeats 4000000 in
theorem remFits_any (W : World) (t b n : Nat) (m : List Tab.En) (v : Value) (g : List Gr.Nd) (hT : TableAt W t b n m) (hv : NodesAt W v g) (hs : Small g) : Calls Tryz.prog 101 #[.pointer (some ⟨t, 0, none⟩), v] W (Gives (.bool (!(m.any (badE g)))) W) := by
  have HA := Lib.hid fun W' (h : Grew W W') => tabAll_any W' t b n m (hT.grew h)
  have HV := Lib.hid hv
  have HS := Lib.hid hs
  obtain ⟨a, cap, rfl, -, -⟩ := hv.openC
  have HC := Lib.hid fun W' (h : Grew W W') B s u (hB : W'.cell? ⟨B, 0, none⟩ = some (.slice a g.length cap)) (hu : EntsAt W' u s) => containsEn_any B u s (badE g) W' hu fun W2 x _ g2 => remFits1_any B a cap g W2 x (hv.grew (h.trans g2)) hs (below_keeps g2.below _ _ hB)
  clear hT hv hs
  go_enter Tryz.func101, Tryz.ntmps101
  go_wp2_with (first
    | (go_at_call 100; refine (HA.out _ (by repeat (first | with_reducible exact Grew.refl _ | apply Grew.more | apply Grew.alloc | apply Grew.drew | apply Grew.drewN))).mono ?_; rintro e w1 ⟨v1, s, rfl, h1, h2, h3, R1, n1, rfl⟩; (have HE := Lib.hid (OwnAt.rows h1 encEn_len)); obtain ⟨a1, c1, rfl⟩ := HE.out.len; (have hany := h2.any_eq (f := badE g)); (have HANY := Lib.hid hany); clear h1 h2 h3 hany)
    | (go_at_call 124; refine (HC.out _ (by repeat (first | with_reducible exact Grew.refl _ | apply Grew.more | apply Grew.alloc | apply Grew.drew | apply Grew.drewN)) _ s _ (by simp [go_sem]) (HE.out.grew (by repeat (first | with_reducible exact Grew.refl _ | apply Grew.more | apply Grew.alloc | apply Grew.drew | apply Grew.drewN)))).mono ?_; rintro e w1 ⟨rfl, R2, n2, rfl⟩; rw [HANY.out]))
  go_ret
  exact ⟨rfl, by repeat (first | with_reducible exact Grew.refl _ | apply Grew.more | apply Grew.alloc | apply Grew.drew | apply Grew.drewN)⟩
open Classical in
/-- may the entries be? -/
noncomputable def entB (l : List Tab.En) (g : List Gr.Nd) : Bool := newOk l && (decide ((l.Pairwise fun a b => Tab.num a < Tab.num b) ∧ ∀ x ∈ l, Tab.nz x = true) && !(l.any (badE g)))
theorem entB_no {l : List Tab.En} {g : List Gr.Nd} (h : newOk l = false) : entB l g = false := by unfold entB; rw [h]; rfl
open Classical in
set_option maxHeartbeats 8000000 in
theorem entries_any (v u : Value) (l : List Tab.En) (g : List Gr.Nd) (w : World) (hv : EntsAt w v l) (hu : NodesAt w u g) (hs : Small g) (hl : l.length ≤ 100000) : Calls Tryz.prog 62 #[v, u] w (Gives (.bool (entB l g)) w) := by
  have HN := Lib.hid fun W (h : Grew w W) => tabNew_any _ l W (hv.grew h) hl
  have HV := Lib.hid hv
  have HU := Lib.hid hu
  obtain ⟨a, cap, rfl, -, -⟩ := EntsAt.open6 hv
  obtain ⟨a2, cap2, rfl, -, -⟩ := hu.openC
  clear hv hu
  cases hok : newOk l
  case false =>
    rw [entB_no hok]
    have HOK := Lib.hid hok
    clear hok hs
    go_enter Tryz.func62, Tryz.ntmps62
    go_wp2_with fail
    refine (HN.out _ (by repeat (first | with_reducible exact Grew.refl _ | apply Grew.more | apply Grew.alloc | apply Grew.drew | apply Grew.drewN))).mono ?_
    rintro e w1 (⟨h1, -⟩ | ⟨-, rfl, R1, n1, rfl⟩)
    · rw [HOK.out] at h1
      cases h1
    go_wp2
    go_ret
    exact ⟨rfl, by repeat (first | with_reducible exact Grew.refl _ | apply Grew.more | apply Grew.alloc | apply Grew.drew | apply Grew.drewN)⟩
  have HOK := Lib.hid hok
  by_cases hP : (l.Pairwise fun a b => Tab.num a < Tab.num b) ∧ ∀ x ∈ l, Tab.nz x = true
  case neg =>
    have hb : entB l g = false := by unfold entB; rw [hok, decide_eq_false hP]; rfl
    rw [hb]
    have HP := Lib.hid hP
    clear hok hb hP hs
    go_enter Tryz.func62, Tryz.ntmps62
    go_wp2_with fail
    refine (HN.out _ (by repeat (first | with_reducible exact Grew.refl _ | apply Grew.more | apply Grew.alloc | apply Grew.drew | apply Grew.drewN))).mono ?_
    rintro e w1 (⟨-, t, b, rfl, hT, hb1, hb2, R1, n1, rfl⟩ | ⟨h1, -⟩)
    rotate_left
    · rw [HOK.out] at h1
      cases h1
    have HT := Lib.hid hT
    clear hT
    go_wp2_with fail
    refine (tabAll_any _ t b _ _ (HT.out.grew (by repeat (first | with_reducible exact Grew.refl _ | apply Grew.more | apply Grew.alloc | apply Grew.drew | apply Grew.drewN)))).mono ?_
    rintro e w2 ⟨v1, s, rfl, h1, h2, h3, R2, n2, rfl⟩
    have HE := Lib.hid (OwnAt.rows h1 encEn_len)
    obtain ⟨a3, c3, rfl⟩ := HE.out.len
    have HNE := Lib.hid (decide_eq_false (fun e => HP.out ((Tab.all_iff h2 h3).1 e)))
    clear h1 h2 h3
    go_wp2_with (go_at_call 70; refine (eqEns_any _ _ s l _ (HE.out.grew (by repeat (first | with_reducible exact Grew.refl _ | apply Grew.more | apply Grew.alloc | apply Grew.drew | apply Grew.drewN))) (HV.out.grew (by repeat (first | with_reducible exact Grew.refl _ | apply Grew.more | apply Grew.alloc | apply Grew.drew | apply Grew.drewN)))).mono ?_; rintro e w1 ⟨rfl, R3, n3, rfl⟩; rw [HNE.out])
    go_ret
    exact ⟨rfl, by repeat (first | with_reducible exact Grew.refl _ | apply Grew.more | apply Grew.alloc | apply Grew.drew | apply Grew.drewN)⟩
  have hany : (Tab.newT l).any (badE g) = l.any (badE g) := by rw [Tab.newT_rev l hP.1 hP.2, List.any_reverse]
  have hb : entB l g = !(l.any (badE g)) := by unfold entB; rw [hok, decide_eq_true hP]; rfl
  rw [hb]
  have HP := Lib.hid hP
  have HANY := Lib.hid hany
  clear hok hb hP hany
  go_enter Tryz.func62, Tryz.ntmps62
  go_wp2_with fail
  refine (HN.out _ (by repeat (first | with_reducible exact Grew.refl _ | apply Grew.more | apply Grew.alloc | apply Grew.drew | apply Grew.drewN))).mono ?_
  rintro e w1 (⟨-, t, b, rfl, hT, hb1, hb2, R1, n1, rfl⟩ | ⟨h1, -⟩)
  rotate_left
  · rw [HOK.out] at h1
    cases h1
  have HT := Lib.hid hT
  have HS := Lib.hid hs
  clear hT hs
  go_wp2_with fail
  refine (tabAll_any _ t b _ _ (HT.out.grew (by repeat (first | with_reducible exact Grew.refl _ | apply Grew.more | apply Grew.alloc | apply Grew.drew | apply Grew.drewN)))).mono ?_
  rintro e w2 ⟨v1, s, rfl, h1, h2, h3, R2, n2, rfl⟩
  have HE := Lib.hid (OwnAt.rows h1 encEn_len)
  obtain ⟨a3, c3, rfl⟩ := HE.out.len
  have HNE := Lib.hid (decide_eq_true ((Tab.all_iff h2 h3).2 HP.out))
  clear h1 h2 h3
  go_wp2_with (first
    | (go_at_call 70; refine (eqEns_any _ _ s l _ (HE.out.grew (by repeat (first | with_reducible exact Grew.refl _ | apply Grew.more | apply Grew.alloc | apply Grew.drew | apply Grew.drewN))) (HV.out.grew (by repeat (first | with_reducible exact Grew.refl _ | apply Grew.more | apply Grew.alloc | apply Grew.drew | apply Grew.drewN)))).mono ?_; rintro e w1 ⟨rfl, R3, n3, rfl⟩; rw [HNE.out])
    | (go_at_call 101; refine (remFits_any _ t b _ _ _ g (HT.out.grew (by repeat (first | with_reducible exact Grew.refl _ | apply Grew.more | apply Grew.alloc | apply Grew.drew | apply Grew.drewN))) (HU.out.grew (by repeat (first | with_reducible exact Grew.refl _ | apply Grew.more | apply Grew.alloc | apply Grew.drew | apply Grew.drewN))) HS.out).mono ?_; rintro e w1 ⟨rfl, R4, n4, rfl⟩; rw [HANY.out]))
  go_ret
  exact ⟨rfl, by repeat (first | with_reducible exact Grew.refl _ | apply Grew.more | apply Grew.alloc | apply Grew.drew | apply Grew.drewN)⟩
end Go.Proofs.YtangapokicnfgaaGreat

/-! octet.Writer.Num where a number does not fit: nothing is written. -/
namespace Go.Proofs.YtangapokicnfgaaGreat
set_option linter.unusedSimpArgs false
set_option linter.unusedVariables false
open Go.RowKit Ga
set_option maxRecDepth 100000

set_option maxHeartbeats 4000000 in
theorem writerNum_bad (base : Nat) (W : World) (B : Nat) (vb : Value) (bs : List UInt8) (v : Value) (l : List Int) (_hw : WriterAt base B W vb bs) (hv : RowsAt 1 encN W v l) (hok : l.all Oc.fitsN = false) :
    Calls Tryz.prog 53 #[.pointer (some ⟨B, 0, none⟩), v] W fun e W' => e = .returned (.int .i64 2) ∧ W' = W := by
  obtain ⟨a, cap, rfl, hm, hl⟩ := hv.open1
  have HL := Lib.hid hl
  have HOK := Lib.hid hok
  clear hv hok hl _hw
  go_enter Tryz.func53, Tryz.ntmps53
  go_wp2
  go_loopg [14] l.length (fun gg i wr => ∃ (k : Nat), k ≤ l.length ∧ l.length - k ≤ gg ∧ i = .int .i64 k ∧ wr = W ∧ Hid (∀ x ∈ l.take k, Oc.fitsN x = true))
  case atStart => exact ⟨0, Nat.zero_le _, by omega, rfl, rfl, Lib.hid fun x hx => by simp at hx⟩
  case round =>
    obtain ⟨k, hk, hgg, rfl, rfl, HNO⟩ := hrel
    by_cases hlt : k < l.length
    · obtain ⟨b, off, rfl, hb, hx⟩ := HL.out k hlt
      have HTK := Lib.hid (List.take_succ_eq_append_getElem hlt)
      generalize l[k] = x at *
      cases hf : Oc.fitsN x
      · have HF := Lib.hid hf
        clear hf
        go_wp2_with (go_at_call 93; refine (octFits_any _ _).mono ?_; rintro e w1 ⟨rfl, rfl⟩; rw [HF.out])
        go_ret
        exact ⟨rfl, rfl⟩
      · have HF := Lib.hid hf
        clear hf
        go_wp2_with (go_at_call 93; refine (octFits_any _ _).mono ?_; rintro e w1 ⟨rfl, rfl⟩; rw [HF.out])
        go_roundg (l.length - (k + 1))
        case measure => omega
        case rel => exact ⟨k + 1, by omega, by omega, by go_num, rfl, Lib.hid fun y hy => by
          rw [HTK.out, List.mem_append, List.mem_singleton] at hy
          rcases hy with hy | rfl
          · exact HNO.out y hy
          · exact HF.out⟩
    · obtain rfl : k = l.length := by omega
      have h1 := HNO.out
      rw [List.take_length] at h1
      have h2 := HOK.out
      rw [List.all_eq_true.2 h1] at h2
      cases h2
set_option maxHeartbeats 4000000 in
theorem codePut_bad (W : World) (B : Nat) (v : Value) (l : List Val) (hv : ValsAt W v l) (hf : Co.fitsI l = false) : Calls Tryz.prog 116 #[.pointer (some ⟨B, 0, none⟩), v] W (Gives (.int .i64 1) W) := by
  obtain ⟨a, cap, rfl, hm, -⟩ := hv.open2
  have HV := Lib.hid hv
  have HF := Lib.hid hf
  clear hv hf
  go_enter Tryz.func116, Tryz.ntmps116
  go_wp2_with (go_at_call 132; refine (codeFits_any _ l _ (HV.out.grew (by repeat (first | with_reducible exact Grew.refl _ | apply Grew.more | apply Grew.alloc | apply Grew.drew | apply Grew.drewN)))).mono ?_; rintro e w1 ⟨rfl, R3, n3, rfl⟩; rw [HF.out])
  go_ret
  refine ⟨rfl, ?_⟩
  repeat (first | with_reducible exact Grew.refl _ | apply Grew.more | apply Grew.alloc | apply Grew.drew | apply Grew.drewN)
/-- whatever the numbers: some bytes, or none -/
def PutSome (w0 W : World) (B : Nat) (bs : List UInt8) (n : Nat) (e : Ending) (W' : World) : Prop := ∃ x, e = .returned (.int .i64 x) ∧ Grew w0 W' ∧ KeptW w0.heap.size B W W' ∧ ∃ vb' zs, zs.length ≤ n ∧ WriterAt w0.heap.size B W' vb' (bs ++ zs)
theorem writerNum_some (w0 W : World) (B : Nat) (vb : Value) (bs : List UInt8) (v : Value) (l : List Int) (hw : WriterAt w0.heap.size B W vb bs) (hg : Grew w0 W) (hv : RowsAt 1 encN W v l)
    (hs : ∀ b off, (∃ n c, v = .slice (some ⟨b, off, none⟩) n c) → Safe w0.heap.size b W ∧ b ≠ B) (hlen : bs.length + l.length * 4 ≤ 100000) :
    Calls Tryz.prog 53 #[.pointer (some ⟨B, 0, none⟩), v] W (PutSome w0 W B bs (l.length * 4)) := by
  cases hok : l.all Oc.fitsN
  · refine (writerNum_bad _ W B vb bs v l hw hv hok).mono ?_
    rintro e W' ⟨rfl, rfl⟩
    exact ⟨2, rfl, hg, KeptW.refl _ _ _, vb, [], Nat.zero_le _, by rw [List.append_nil]; exact hw⟩
  · refine (writerNum_keep w0 W B vb bs v l hw hg hv hs hok hlen).mono ?_
    rintro e W' ⟨rfl, h1, h2, vb', h3⟩
    exact ⟨0, rfl, h1, h2, vb', Oc.bes l, by rw [Oc.bes_len]; omega, h3⟩
theorem codePut_some (w0 W : World) (B : Nat) (vb : Value) (bs : List UInt8) (v : Value) (l : List Val) (hw : WriterAt w0.heap.size B W vb bs) (hg : Grew w0 W) (hv : ValsAt W v l) (hs : ∀ b off, (∃ n c, v = .slice (some ⟨b, off, none⟩) n c) → Safe w0.heap.size b W ∧ b ≠ B) (hlen : bs.length ≤ 10000) :
    Calls Tryz.prog 116 #[.pointer (some ⟨B, 0, none⟩), v] W (PutSome w0 W B bs 300) := by
  cases hf : Co.fitsI l
  · refine (codePut_bad W B v l hv hf).mono ?_
    rintro e W' ⟨rfl, g⟩
    exact ⟨1, rfl, hg.trans g, KeptW.ofGrew g, vb, [], Nat.zero_le _, by rw [List.append_nil]; exact hw.grew g⟩
  · refine (codePut_keep w0 W B vb bs v l hw hg hv hs hf hlen).mono ?_
    rintro e W' ⟨rfl, h1, h2, vb', h3⟩
    exact ⟨0, rfl, h1, h2, vb', putI l, by have := putI_len l hf; omega, h3⟩
end Go.Proofs.YtangapokicnfgaaGreat

/-! pack.putNode, whatever the node. -/
namespace Go.Proofs.YtangapokicnfgaaGreat
set_option linter.unusedSimpArgs false
set_option linter.unusedVariables false
open Go.RowKit Ga
set_option maxRecDepth 100000

def PutSomeN (w0 W : World) (B : Nat) (ys : List UInt8) (n : Nat) (e : Ending) (W' : World) : Prop := e = .returned (.tuple #[]) ∧ Grew w0 W' ∧ KeptW w0.heap.size B W W' ∧ ∃ vb' zs, zs.length ≤ n ∧ WriterAt w0.heap.size B W' vb' (ys ++ zs)
theorem writerNum_freshS (w0 W : World) (B : Nat) (vb : Value) (bs : List UInt8) (l : List Int) (c : List Value) (b n cap : Nat) (hw : WriterAt w0.heap.size B W vb bs) (hg : Grew w0 W) (hc : c = l.map (Value.int .i64)) (hb : b = W.heap.size) (hn : n = l.length) (hlen : bs.length + l.length * 4 ≤ 100000) :
    Calls Tryz.prog 53 #[.pointer (some ⟨B, 0, none⟩), .slice (some ⟨b, 0, none⟩) n cap] (W.alloc (.cells c.toArray 3)) (PutSome w0 W B bs (l.length * 4)) := by
  have hB := (Array.getElem?_eq_some_iff.1 hw.2.1).1
  refine (writerNum_some w0 _ B vb bs _ l (hw.grew ((Grew.refl W).alloc _)) (hg.alloc _) ?_ ?_ hlen).mono fun e W' ⟨x, h1, h2, h3, h4⟩ => ⟨x, h1, h2, (KeptW.ofGrew ((Grew.refl W).alloc _)).trans h3, h4⟩
  · refine RowsAt.fresh hn (by unfold maxLen; omega) encN_len hb ?_
    rw [hc]
    clear hc hlen hn
    induction l with
    | nil => rfl
    | cons x l ih => rw [List.map_cons, List.flatMap_cons, ih]; rfl
  · rintro b2 off ⟨n2, c2, e⟩
    cases e
    subst hb
    exact ⟨.inr ⟨_, _, _, heap_new_at W _ _ rfl, by decide⟩, by omega⟩
set_option maxHeartbeats 8000000 in
theorem putNode_some (w0 W : World) (B : Nat) (vb : Value) (ys : List UInt8) (c : NdC) (n : Gr.Nd) (hw : WriterAt w0.heap.size B W vb ys) (hg : Grew w0 W) (hn : NodeIs W c n) (hsf : Apart w0.heap.size B W c.vf) (hsp : Apart w0.heap.size B W c.vp) (hok : n.frm.length ≤ 100) (hlen : ys.length ≤ 8000) :
    Calls Tryz.prog 78 #[.pointer (some ⟨B, 0, none⟩), .agg #[.int .i64 c.id, .int .i64 c.kind, .slice c.af c.nf c.cf, .slice c.ap c.np c.cp, .int .i64 c.par, .int .i64 c.r0, .int .i64 c.r1, .int .i64 c.r2, .int .i64 c.r3, .int .i64 c.r4, .int .i64 c.r5, .int .i64 c.r6, .int .i64 c.r7]] W (PutSomeN w0 W B ys 1000) := by
  obtain ⟨id, kind, af, cf, ap, cp, par, r0, r1, r2, r3, r4, r5, r6, r7, rfl⟩ := hn.lit
  have hr8 := hn.route
  simp only at hr8
  have HW := Lib.hid hw
  have HG := Lib.hid hg
  have HN := Lib.hid hn
  have HSF := Lib.hid hsf
  have HSP := Lib.hid hsp
  have HOK := Lib.hid hok
  have HR8 := Lib.hid hr8
  have hBlt := (Array.getElem?_eq_some_iff.1 hw.2.1).1
  have hneB : W.heap.size ≠ B := by omega
  clear hw hg hn hsf hsp hok hr8
  have hbx0 : (W.alloc (.cells #[.int .i64 id, .int .i64 kind, .slice af n.frm.length cf, .slice ap n.prog.length cp, .int .i64 par, .int .i64 r0, .int .i64 r1, .int .i64 r2, .int .i64 r3, .int .i64 r4, .int .i64 r5, .int .i64 r6, .int .i64 r7] 45)).heap[W.heap.size]? = some (.cells #[.int .i64 id, .int .i64 kind, .slice af n.frm.length cf, .slice ap n.prog.length cp, .int .i64 par, .int .i64 r0, .int .i64 r1, .int .i64 r2, .int .i64 r3, .int .i64 r4, .int .i64 r5, .int .i64 r6, .int .i64 r7] 45) := heap_new_at W _ _ rfl
  have HBX0 := Lib.hid hbx0
  clear hbx0
  show Calls Tryz.prog 78 #[.pointer (some ⟨B, 0, none⟩), .agg #[.int .i64 id, .int .i64 kind, .slice af n.frm.length cf, .slice ap n.prog.length cp, .int .i64 par, .int .i64 r0, .int .i64 r1, .int .i64 r2, .int .i64 r3, .int .i64 r4, .int .i64 r5, .int .i64 r6, .int .i64 r7]] W _
  go_enter Tryz.func78, Tryz.ntmps78
  go_wp2_with fail
  refine (writerNum_freshS w0 (W.alloc (.cells #[.int .i64 id, .int .i64 kind, .slice af n.frm.length cf, .slice ap n.prog.length cp, .int .i64 par, .int .i64 r0, .int .i64 r1, .int .i64 r2, .int .i64 r3, .int .i64 r4, .int .i64 r5, .int .i64 r6, .int .i64 r7] 45)) B vb ys [id, kind, n.frm.length] [.int .i64 id, .int .i64 kind, .int .i64 n.frm.length] _ _ _ (HW.out.grew (by repeat (first | with_reducible exact Grew.refl _ | apply Grew.more | apply Grew.alloc | apply Grew.drew | apply Grew.drewN))) (HG.out.alloc _) rfl (by simp [go_sem]) rfl (by simp only [List.length_append, List.length_cons, List.length_nil] at *; omega)).mono ?_
  rintro e W1 ⟨xx1, rfl, hg1, hk1, vb1, zs1, hz1, hw1⟩
  have HW1 := Lib.hid hw1
  have HG1 := Lib.hid hg1
  have HK1 := Lib.hid ((KeptW.ofGrew ((Grew.refl W).alloc _)).trans hk1)
  have hbx1 := hk1.cells HBX0.out hneB (by decide)
  have HBX1 := Lib.hid hbx1
  clear hw1 hg1 hk1
  have x2 := cell_of (o := 2) HBX1.out
  simp at x2
  have px2 := Pre.mk (heap_lt HBX1.out)
  have hfl := HOK.out
  go_wp2_with fail
  refine (writerNum_some w0 W1 B vb1 _ _ n.frm HW1.out HG1.out (HSF.out.kept HK1.out HN.out.f (ints_lt HN.out.f)) (HSF.out.to HK1.out) (by simp only [List.length_append, List.length_cons, List.length_nil] at *; omega)).mono ?_
  rintro e W2 ⟨xx2, rfl, hg2, hk2, vb2, zs2, hz2, hw2⟩
  have HW2 := Lib.hid hw2
  have HG2 := Lib.hid hg2
  have HK2 := Lib.hid (HK1.out.trans hk2)
  have hbx2 := hk2.cells HBX1.out hneB (by decide)
  have HBX2 := Lib.hid hbx2
  clear hw2 hg2 hk2 hbx2 x2 px2
  have x3 := cell_of (o := 3) HBX2.out
  simp at x3
  have px3 := Pre.mk (heap_lt HBX2.out)
  go_wp2_with fail
  refine (codePut_some w0 W2 B vb2 _ _ n.prog HW2.out HG2.out (HSP.out.kept HK2.out HN.out.p (vals_lt HN.out.p)) (HSP.out.to HK2.out) (by simp only [List.length_append, List.length_cons, List.length_nil] at *; omega)).mono ?_
  rintro e W3 ⟨xx3, rfl, hg3, hk3, vb3, zs3, hz3, hw3⟩
  have HW3 := Lib.hid hw3
  have HG3 := Lib.hid hg3
  have HK3 := Lib.hid (HK2.out.trans hk3)
  have hbx3 := hk3.cells HBX2.out hneB (by decide)
  have HBX3 := Lib.hid hbx3
  clear hw3 hg3 hk3 hbx3 x3 px3
  have x4 := cell_of (o := 4) HBX3.out
  simp at x4
  have px4 := Pre.mk (heap_lt HBX3.out)
  go_wp2_with fail
  refine (writerNum_freshS w0 W3 B vb3 _ [par] [.int .i64 par] _ _ _ HW3.out HG3.out rfl (by simp [go_sem]) rfl (by simp only [List.length_append, List.length_cons, List.length_nil] at *; omega)).mono ?_
  rintro e W4 ⟨xx4, rfl, hg4, hk4, vb4, zs4, hz4, hw4⟩
  have HW4 := Lib.hid hw4
  have HG4 := Lib.hid hg4
  have HK4 := Lib.hid (HK3.out.trans hk4)
  have hbx4 := hk4.cells HBX3.out hneB (by decide)
  have HBX4 := Lib.hid hbx4
  clear hw4 hg4 hk4 hbx4 x4 px4
  have px5 := Pre.mk (heap_lt HBX4.out)
  go_wp2_with fail
  refine (writerNum_some w0 W4 B vb4 _ _ [r0, r1, r2, r3, r4, r5, r6, r7] HW4.out HG4.out (route_box HBX4.out) ?_ (by simp only [List.length_append, List.length_cons, List.length_nil] at *; omega)).mono ?_
  · rintro b off ⟨m, k, e⟩
    cases e
    exact ⟨.inr ⟨_, _, _, HBX4.out, by decide⟩, hneB⟩
  rintro e W5 ⟨xx5, rfl, hg5, hk5, vb5, zs5, hz5, hw5⟩
  have HW5 := Lib.hid hw5
  have HG5 := Lib.hid hg5
  have HK5 := Lib.hid (HK4.out.trans hk5)
  clear hw5 hg5 hk5
  go_wp2
  go_end0
  refine ⟨rfl, HG5.out, HK5.out, vb5, zs1 ++ (zs2 ++ (zs3 ++ (zs4 ++ zs5))), ?_, ?_⟩
  · simp only [List.length_append, List.length_cons, List.length_nil] at *
    omega
  · have := HW5.out
    simp only [List.append_assoc] at this
    exact this
end Go.Proofs.YtangapokicnfgaaGreat
