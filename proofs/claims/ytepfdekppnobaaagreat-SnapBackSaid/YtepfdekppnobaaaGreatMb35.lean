import Derived.Test.YtepfdekppnobaaaGreatMb31
import Derived.Test.YtepfdekppnobaaaGreatMb21
import Derived.Test.YtepfdekppnobaaaGreatMb17
import Derived.Test.YtepfdekppnobaaaGreatMb29
import Derived.Test.YtepfdekppnobaaaGreatMb10
/-! remap.Fits; pack.entries. -/
namespace Go.Proofs.YtepfdekppnobaaaGreat
set_option linter.unusedSimpArgs false
set_option linter.unusedVariables false
open Go.RowKit Ga
set_option maxRecDepth 100000

/-- what is kept is no operator's -/
def badE (g : List Gr.Nd) (x : Tab.En) : Bool := match Gr.nodeOf g x.node with
  | none => true
  | some n => n.kind != 1
set_option maxHeartbeats 4000000 in
theorem remFits1_any (B : Nat) (a : Option Addr) (cap : Nat) (g : List Gr.Nd) (W : World) (x : Tab.En) (hg : NodesAt W (.slice a g.length cap) g) (hs : Small g) (hB : W.cell? ⟨B, 0, none⟩ = some (.slice a g.length cap)) : Calls Tryz.prog 118 #[.agg #[.int .i64 x.node, .int .i64 x.key, .int .i64 x.c0.1, .int .i64 x.c0.2, .int .i64 x.c1.1, .int .i64 x.c1.2], .pointer (some ⟨B, 0, none⟩)] W (Gives (.bool (badE g x)) W) := by
  obtain ⟨nd, ky, ⟨p0, q0⟩, ⟨p1, q1⟩⟩ := x
  have HF := Lib.hid fun W' (h : Grew W W') => find_any _ g nd W' (hg.grew h) hs
  have pB := Pre.ofCell hB
  show Calls Tryz.prog _ #[.agg #[.int .i64 nd, .int .i64 ky, .int .i64 p0, .int .i64 q0, .int .i64 p1, .int .i64 q1], .pointer (some ⟨B, 0, none⟩)] W _
  clear hg hs
  cases hn : Gr.nodeOf g nd with
  | none =>
    have hb : badE g ⟨nd, ky, (p0, q0), (p1, q1)⟩ = true := by unfold badE; simp only; rw [hn]
    rw [hb]
    rw [hn] at HF
    clear hb hn
    go_enter Tryz.func118, Tryz.ntmps118
    go_wp2_with (go_at_call 31; refine (HF.out _ (by repeat (first | with_reducible exact Grew.refl _ | apply Grew.more | apply Grew.alloc | apply Grew.drew | apply Grew.drewN))).mono ?_; rintro e w1 ⟨rfl, R1, n1, rfl⟩)
    go_ret
    exact ⟨rfl, by repeat (first | with_reducible exact Grew.refl _ | apply Grew.more | apply Grew.alloc | apply Grew.drew | apply Grew.drewN)⟩
  | some n =>
    have hb : badE g ⟨nd, ky, (p0, q0), (p1, q1)⟩ = (n.kind != 1) := by unfold badE; simp only; rw [hn]
    rw [hb]
    rw [hn] at HF
    clear hb hn
    go_enter Tryz.func118, Tryz.ntmps118
    go_wp2_with (go_at_call 31; refine (HF.out _ (by repeat (first | with_reducible exact Grew.refl _ | apply Grew.more | apply Grew.alloc | apply Grew.drew | apply Grew.drewN))).mono ?_; rintro e w1 ⟨c, rfl, h1, -, R1, n1, rfl⟩; (have hk := h1.kind); obtain ⟨cid, kind, af, cf, ap, cp, par, r0, r1, r2, r3, r4, r5, r6, r7, rfl⟩ := h1.lit; simp only at hk; (have HKD := Lib.hid hk); clear h1 hk)
    go_ret
    exact ⟨by rw [HKD.out]; rfl, by repeat (first | with_reducible exact Grew.refl _ | apply Grew.more | apply Grew.alloc | apply Grew.drew | apply Grew.drewN)⟩
set_option maxHeartbeats 4000000 in
theorem remFits_any (W : World) (t b n : Nat) (m : List Tab.En) (v : Value) (g : List Gr.Nd) (hT : TableAt W t b n m) (hv : NodesAt W v g) (hs : Small g) : Calls Tryz.prog 82 #[.pointer (some ⟨t, 0, none⟩), v] W (Gives (.bool (!(m.any (badE g)))) W) := by
  have HA := Lib.hid fun W' (h : Grew W W') => tabAll_any W' t b n m (hT.grew h)
  have HV := Lib.hid hv
  have HS := Lib.hid hs
  obtain ⟨a, cap, rfl, -, -⟩ := hv.openC
  have HC := Lib.hid fun W' (h : Grew W W') B s u (hB : W'.cell? ⟨B, 0, none⟩ = some (.slice a g.length cap)) (hu : EntsAt W' u s) => containsEn_any B u s (badE g) W' hu fun W2 x _ g2 => remFits1_any B a cap g W2 x (hv.grew (h.trans g2)) hs (below_keeps g2.below _ _ hB)
  clear hT hv hs
  go_enter Tryz.func82, Tryz.ntmps82
  go_wp2_with (first
    | (go_at_call 44; refine (HA.out _ (by repeat (first | with_reducible exact Grew.refl _ | apply Grew.more | apply Grew.alloc | apply Grew.drew | apply Grew.drewN))).mono ?_; rintro e w1 ⟨v1, s, rfl, h1, h2, h3, R1, n1, rfl⟩; (have HE := Lib.hid (OwnAt.rows h1 encEn_len)); obtain ⟨a1, c1, rfl⟩ := HE.out.len; (have hany := h2.any_eq (f := badE g)); (have HANY := Lib.hid hany); clear h1 h2 h3 hany)
    | (go_at_call 117; refine (HC.out _ (by repeat (first | with_reducible exact Grew.refl _ | apply Grew.more | apply Grew.alloc | apply Grew.drew | apply Grew.drewN)) _ s _ (by simp [go_sem]) (HE.out.grew (by repeat (first | with_reducible exact Grew.refl _ | apply Grew.more | apply Grew.alloc | apply Grew.drew | apply Grew.drewN)))).mono ?_; rintro e w1 ⟨rfl, R2, n2, rfl⟩; rw [HANY.out]))
  go_ret
  exact ⟨rfl, by repeat (first | with_reducible exact Grew.refl _ | apply Grew.more | apply Grew.alloc | apply Grew.drew | apply Grew.drewN)⟩
open Classical in
/-- may the entries be? -/
noncomputable def entB (l : List Tab.En) (g : List Gr.Nd) : Bool := newOk l && (decide ((l.Pairwise fun a b => Tab.num a < Tab.num b) ∧ ∀ x ∈ l, Tab.nz x = true) && !(l.any (badE g)))
theorem entB_no {l : List Tab.En} {g : List Gr.Nd} (h : newOk l = false) : entB l g = false := by unfold entB; rw [h]; rfl
open Classical in
set_option maxHeartbeats 8000000 in
theorem entries_any (v u : Value) (l : List Tab.En) (g : List Gr.Nd) (w : World) (hv : EntsAt w v l) (hu : NodesAt w u g) (hs : Small g) (hl : l.length ≤ 100000) : Calls Tryz.prog 39 #[v, u] w (Gives (.bool (entB l g)) w) := by
  have HN := Lib.hid fun W (h : Grew w W) => tabNew_any _ l W (hv.grew h) hl
  have HV := Lib.hid hv
  have HU := Lib.hid hu
  obtain ⟨a, cap, rfl, -, -⟩ := EntsAt.open6 hv
  obtain ⟨a2, cap2, rfl, -, -⟩ := hu.openC
  clear hv hu
  cases hok : newOk l
  case false =>
    rw [entB_no hok]
    have HOK := Lib.hid hok
    clear hok hs
    go_enter Tryz.func39, Tryz.ntmps39
    go_wp2_with fail
    refine (HN.out _ (by repeat (first | with_reducible exact Grew.refl _ | apply Grew.more | apply Grew.alloc | apply Grew.drew | apply Grew.drewN))).mono ?_
    rintro e w1 (⟨h1, -⟩ | ⟨-, rfl, R1, n1, rfl⟩)
    · rw [HOK.out] at h1
      cases h1
    go_wp2
    go_ret
    exact ⟨rfl, by repeat (first | with_reducible exact Grew.refl _ | apply Grew.more | apply Grew.alloc | apply Grew.drew | apply Grew.drewN)⟩
  have HOK := Lib.hid hok
  by_cases hP : (l.Pairwise fun a b => Tab.num a < Tab.num b) ∧ ∀ x ∈ l, Tab.nz x = true
  case neg =>
    have hb : entB l g = false := by unfold entB; rw [hok, decide_eq_false hP]; rfl
    rw [hb]
    have HP := Lib.hid hP
    clear hok hb hP hs
    go_enter Tryz.func39, Tryz.ntmps39
    go_wp2_with fail
    refine (HN.out _ (by repeat (first | with_reducible exact Grew.refl _ | apply Grew.more | apply Grew.alloc | apply Grew.drew | apply Grew.drewN))).mono ?_
    rintro e w1 (⟨-, t, b, rfl, hT, hb1, hb2, R1, n1, rfl⟩ | ⟨h1, -⟩)
    rotate_left
    · rw [HOK.out] at h1
      cases h1
    have HT := Lib.hid hT
    clear hT
    go_wp2_with fail
    refine (tabAll_any _ t b _ _ (HT.out.grew (by repeat (first | with_reducible exact Grew.refl _ | apply Grew.more | apply Grew.alloc | apply Grew.drew | apply Grew.drewN)))).mono ?_
    rintro e w2 ⟨v1, s, rfl, h1, h2, h3, R2, n2, rfl⟩
    have HE := Lib.hid (OwnAt.rows h1 encEn_len)
    obtain ⟨a3, c3, rfl⟩ := HE.out.len
    have HNE := Lib.hid (decide_eq_false (fun e => HP.out ((Tab.all_iff h2 h3).1 e)))
    clear h1 h2 h3
    go_wp2_with (go_at_call 58; refine (eqEns_any _ _ s l _ (HE.out.grew (by repeat (first | with_reducible exact Grew.refl _ | apply Grew.more | apply Grew.alloc | apply Grew.drew | apply Grew.drewN))) (HV.out.grew (by repeat (first | with_reducible exact Grew.refl _ | apply Grew.more | apply Grew.alloc | apply Grew.drew | apply Grew.drewN)))).mono ?_; rintro e w1 ⟨rfl, R3, n3, rfl⟩; rw [HNE.out])
    go_ret
    exact ⟨rfl, by repeat (first | with_reducible exact Grew.refl _ | apply Grew.more | apply Grew.alloc | apply Grew.drew | apply Grew.drewN)⟩
  have hany : (Tab.newT l).any (badE g) = l.any (badE g) := by rw [Tab.newT_rev l hP.1 hP.2, List.any_reverse]
  have hb : entB l g = !(l.any (badE g)) := by unfold entB; rw [hok, decide_eq_true hP]; rfl
  rw [hb]
  have HP := Lib.hid hP
  have HANY := Lib.hid hany
  clear hok hb hP hany
  go_enter Tryz.func39, Tryz.ntmps39
  go_wp2_with fail
  refine (HN.out _ (by repeat (first | with_reducible exact Grew.refl _ | apply Grew.more | apply Grew.alloc | apply Grew.drew | apply Grew.drewN))).mono ?_
  rintro e w1 (⟨-, t, b, rfl, hT, hb1, hb2, R1, n1, rfl⟩ | ⟨h1, -⟩)
  rotate_left
  · rw [HOK.out] at h1
    cases h1
  have HT := Lib.hid hT
  have HS := Lib.hid hs
  clear hT hs
  go_wp2_with fail
  refine (tabAll_any _ t b _ _ (HT.out.grew (by repeat (first | with_reducible exact Grew.refl _ | apply Grew.more | apply Grew.alloc | apply Grew.drew | apply Grew.drewN)))).mono ?_
  rintro e w2 ⟨v1, s, rfl, h1, h2, h3, R2, n2, rfl⟩
  have HE := Lib.hid (OwnAt.rows h1 encEn_len)
  obtain ⟨a3, c3, rfl⟩ := HE.out.len
  have HNE := Lib.hid (decide_eq_true ((Tab.all_iff h2 h3).2 HP.out))
  clear h1 h2 h3
  go_wp2_with (first
    | (go_at_call 58; refine (eqEns_any _ _ s l _ (HE.out.grew (by repeat (first | with_reducible exact Grew.refl _ | apply Grew.more | apply Grew.alloc | apply Grew.drew | apply Grew.drewN))) (HV.out.grew (by repeat (first | with_reducible exact Grew.refl _ | apply Grew.more | apply Grew.alloc | apply Grew.drew | apply Grew.drewN)))).mono ?_; rintro e w1 ⟨rfl, R3, n3, rfl⟩; rw [HNE.out])
    | (go_at_call 82; refine (remFits_any _ t b _ _ _ g (HT.out.grew (by repeat (first | with_reducible exact Grew.refl _ | apply Grew.more | apply Grew.alloc | apply Grew.drew | apply Grew.drewN))) (HU.out.grew (by repeat (first | with_reducible exact Grew.refl _ | apply Grew.more | apply Grew.alloc | apply Grew.drew | apply Grew.drewN))) HS.out).mono ?_; rintro e w1 ⟨rfl, R4, n4, rfl⟩; rw [HANY.out]))
  go_ret
  exact ⟨rfl, by repeat (first | with_reducible exact Grew.refl _ | apply Grew.more | apply Grew.alloc | apply Grew.drew | apply Grew.drewN)⟩
end Go.Proofs.YtepfdekppnobaaaGreat

/-! forebayref13.Plan, cut: the frame; kind; what is told of a step. -/
namespace Go.Proofs.YtepfdekppnobaaaGreat
set_option linter.unusedSimpArgs false
set_option linter.unusedVariables false
open Go.RowKit Ga
set_option maxRecDepth 100000

def OkP (z : Gr.Stp) : Prop := 0 ≤ z.nd.id ∧ z.nd.id ≤ 7 ∧ 0 ≤ z.nd.kind ∧ z.nd.kind ≤ 2 ∧ z.nd.frm.length ≤ 3 ∧ 0 ≤ z.nd.par ∧ z.nd.par ≤ 3 ∧ Co.fitsI z.nd.prog = true
end Go.Proofs.YtepfdekppnobaaaGreat

/-! forebayref13.Plan, cut: From and routes. -/
namespace Go.Proofs.YtepfdekppnobaaaGreat
set_option linter.unusedSimpArgs false
set_option linter.unusedVariables false
open Go.RowKit Ga
set_option maxRecDepth 100000

end Go.Proofs.YtepfdekppnobaaaGreat

/-! forebayref13.Plan. -/
namespace Go.Proofs.YtepfdekppnobaaaGreat
set_option linter.unusedSimpArgs false
set_option linter.unusedVariables false
open Go.RowKit Ga
set_option maxRecDepth 100000

end Go.Proofs.YtepfdekppnobaaaGreat

/-! forebayref13.Plan. -/
namespace Go.Proofs.YtepfdekppnobaaaGreat
set_option linter.unusedSimpArgs false
set_option linter.unusedVariables false
open Go.RowKit Ga
set_option maxRecDepth 100000

end Go.Proofs.YtepfdekppnobaaaGreat
