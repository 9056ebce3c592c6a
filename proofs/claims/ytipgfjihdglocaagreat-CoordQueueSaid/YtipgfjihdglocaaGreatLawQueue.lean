import Derived.Test.YtipgfjihdglocaaGreatCq47
import Derived.Test.YtipgfjihdglocaaGreatCq45
import Derived.Test.YtipgfjihdglocaaGreatCq48
/-! CoordQueue: the inputs that are too great. (The walk of the rest is not written yet.) -/
namespace Go.Proofs.YtipgfjihdglocaaGreat
set_option linter.unusedSimpArgs false
set_option linter.unusedVariables false
open Go.RowKit Ga
set_option maxRecDepth 100000

/-- truths as an argument -/
def encFl (b : Bool) : List Value := [.bool b]
abbrev FlagsAt (w : World) (v : Value) (l : List Bool) : Prop := RowsAt 1 encFl w v l
theorem flags_open {w : World} {v : Value} {l : List Bool} (h : FlagsAt w v l) : ∃ a cap, v = .slice a l.length cap ∧ l.length ≤ 9223372036854775807 ∧ ∀ i (hi : i < l.length), ∃ b off, a = some ⟨b, off, none⟩ ∧ Pre b w ∧ w.cell? ⟨b, off + i, none⟩ = some (.bool l[i]) := by
  obtain ⟨a, cap, rfl, hm, hl⟩ := h
  refine ⟨a, cap, rfl, by unfold maxLen at hm; omega, fun i hi => ?_⟩
  obtain ⟨b, off, rfl, hx⟩ := hl (by intro e; subst e; simp at hi)
  have h0 := hx i l[i] (List.getElem?_eq_getElem hi) 0 _ rfl
  rw [Nat.mul_one, Nat.add_zero] at h0
  exact ⟨b, off, rfl, Pre.mk (World.block_lt_of_cell? w _ h0), h0⟩
theorem planOk_get {s : List UInt8} {q : List Gr.Stp} (h : Gr.getPl getL s = (q, 0)) : PlanOk q ∧ q ≠ [] := by
  obtain ⟨h1, -, h2⟩ := Gr.getPl_can codecI h
  refine ⟨.inr ⟨h1, h2⟩, fun e => ?_⟩
  have h3 := h1.1
  rw [e] at h3
  cases h3
/-- what Submit answers, against what is ahead -/
theorem sub_math {g0 A : List Gr.Nd} {ps : List (List Gr.Stp)} {p : List Gr.Stp} (hA : (Gr.aheadG checkR g0 ps).Perm A) (hp : (planR p).2 = 0) :
    subE g0 ps (planR p).1 = (if 4 ≤ ps.length then 7 else (Gr.applyE checkR A p).1) ∧ (Gr.getPl getL (planR p).1).1 = clP p ∧ (PlanOk (clP p) ∧ clP p ≠ []) ∧ ((Gr.applyE checkR A p).1 = 0 → Gr.goes checkR (Gr.aheadG checkR g0 ps) (clP p) = true ∧ (Gr.aheadG checkR g0 (ps ++ [clP p])).Perm (Gr.applyE checkR A p).2.2) := by
  have ho : Gr.OkPl fitsP p := by
    by_cases h : Gr.OkPl fitsP p
    · exact h
    · rw [planR_no h] at hp; cases hp
  rw [planR_ok ho]
  have hg : Gr.getPl getL (Gr.putPl putI p) = (clP p, 0) := Gr.getPl_put codecI ho
  obtain ⟨e1, -, e3⟩ := Gr.applyE_perm chkR p hA
  have hc : Gr.applyE checkR (Gr.aheadG checkR g0 ps) (clP p) = Gr.applyE checkR (Gr.aheadG checkR g0 ps) p := Gr.applyE_clean p _
  refine ⟨?_, by rw [hg], planOk_get hg, fun h0 => ?_⟩
  · unfold subE
    rw [hg]
    simp only
    rw [if_neg (by simp), hc, e1]
  · have hgo : Gr.goes checkR (Gr.aheadG checkR g0 ps) (clP p) = true := by
      unfold Gr.goes
      rw [hc, e1]
      exact decide_eq_true h0
    refine ⟨hgo, ?_⟩
    rw [Gr.aheadG_snoc]
    unfold Gr.nextG
    rw [if_pos hgo, hc]
    exact e3
/-- what a commit makes of what waits -/
theorem turn_math {m : Gr.Mf} {ps : List (List Gr.Stp)} {ep : Int} (hm : OkH m) (hw : Gr.Waits checkR m.graph ps) (hok : ∀ p ∈ ps, PlanOk p ∧ p ≠ []) (he : 0 ≤ ep ∧ ep ≤ 2000000000) (hp : m.plans ≤ 2000000000) {p : List Gr.Stp} (hpe : planOf (decide (0 < ps.length)) ps = p) {M : Gr.Mf} (hM : nextM m ep p (planE m.graph p).2.2 = M) {ps' : List (List Gr.Stp)} (hps : (if decide (0 < ps.length) = true then ps.tail else ps) = ps') :
    PlanOk p ∧ (planE m.graph p).1 = 0 ∧ OkH M ∧ (Gr.putM putI M).length ≤ 20000 ∧ Gr.Waits checkR M.graph ps' ∧ (Gr.aheadG checkR M.graph ps').Perm (Gr.aheadG checkR m.graph ps) ∧ (∀ p ∈ ps', PlanOk p ∧ p ≠ []) ∧ M.plans ≤ m.plans + 1 ∧ M.epoch = ep ∧ ps'.length = (if decide (0 < ps.length) = true then ps.length - 1 else ps.length) := by
  subst hM hps
  have hpl : ∀ q : List Gr.Stp, (nextM m ep q (planE m.graph q).2.2).plans ≤ m.plans + 1 := fun q => by
    show m.plans + (if q = [] then 0 else 1) ≤ m.plans + 1
    split <;> omega
  cases ps with
  | nil =>
    have e0 : p = [] := hpe.symm
    subst e0
    obtain ⟨h1, h2, h3⟩ := plan_none m hm.r
    obtain ⟨h4, h5⟩ := next_okH (ep := ep) (p := []) hm he hp (.inl rfl) h1 (by rw [h2]; exact hm.r.gr) (by rw [h2]; exact src_of hm.r)
    have hg : (nextM m ep [] (planE m.graph []).2.2).graph = m.graph := h3
    exact ⟨.inl rfl, h1, h4, h5, (by rw [hg]; exact hw), (by rw [hg]; exact List.Perm.refl _), hok, hpl _, rfl, rfl⟩
  | cons a q =>
    have e0 : p = a := hpe.symm
    subst e0
    obtain ⟨k1, k2⟩ := hok p (List.mem_cons_self ..)
    obtain ⟨h1, h2, h3, h4, h5⟩ := plan_next hm.r hw k2
    obtain ⟨h6, h7⟩ := next_okH (ep := ep) hm he hp k1 h1 h2 h5
    exact ⟨k1, h1, h6, h7, h3, h4, fun x hx => hok x (List.mem_cons_of_mem _ hx), hpl _, rfl, rfl⟩
/-- what lives from turn to turn: behind k turns, with the epoch ep and q plans that wait -/
structure Turn (w wr : World) (z bk lg xd mp k : Nat) (A : List Gr.Nd) (ep q : Int) : Prop where
  st : ∃ (ms : List Gr.Mf) (m : Gr.Mf) (ps : List (List Gr.Stp)) (ref e0 : Int) (nb kk ll : Nat), CoAt w wr z bk lg ms m ps (.pointer none) false ep ref ∧ Und w wr bk lg xd mp nb 1048576 kk ll e0 ∧ ((m.epoch ≤ ep ∧ e0 ≤ m.epoch ∧ 0 ≤ ep ∧ ep ≤ k) ∧ m.plans ≤ k ∧ ms.length ≤ k ∧ nb ≤ k ∧ ll ≤ k + 1 ∧ kk ≤ 5000 + 20010 * k) ∧ Gr.Waits checkR m.graph ps ∧ (∀ p ∈ ps, PlanOk p ∧ p ≠ []) ∧ (Gr.aheadG checkR m.graph ps).Perm A ∧ q = ps.length
theorem Turn.grew {w wr wx : World} {z bk lg xd mp k : Nat} {A : List Gr.Nd} {ep q : Int} (h : Turn w wr z bk lg xd mp k A ep q) (g : Grew wr wx) : Turn w wx z bk lg xd mp k A ep q := by
  obtain ⟨ms, m, ps, ref, e0, nb, kk, ll, h1, h2, h3⟩ := h.st
  exact ⟨ms, m, ps, ref, e0, nb, kk, ll, h1.grew g, h2.grew g, h3⟩
/-- one turn more: what a commit leaves -/
theorem Turn.next {w wr : World} {z bk lg xd mp k : Nat} {A : List Gr.Nd} {ms : List Gr.Mf} {m M : Gr.Mf} {ps ps' : List (List Gr.Stp)} {ref e0 : Int} {nb kk ll : Nat} {ep : Int} {s : Nat} (hk : 0 ≤ ep ∧ ep + 1 ≤ k + 1) (hn : m.plans ≤ k ∧ ms.length ≤ k ∧ nb ≤ k ∧ ll ≤ k + 1 ∧ kk ≤ 5000 + 20010 * k) (hs : s ≤ 20000) (hp : M.plans ≤ m.plans + 1) (he : M.epoch = ep + 1) (hA : (Gr.aheadG checkR m.graph ps).Perm A)
    (hw : Gr.Waits checkR M.graph ps') (ho : ∀ p ∈ ps', PlanOk p ∧ p ≠ []) (hP : (Gr.aheadG checkR M.graph ps').Perm (Gr.aheadG checkR m.graph ps)) (hc : CoAt w wr z bk lg (ms ++ [m]) M ps' (.pointer none) false (ep + 1) ref) (hu : Und w wr bk lg xd mp (nb + 1) 1048576 (kk + s + 8) (ll + 1) M.epoch) : Turn w wr z bk lg xd mp (k + 1) A (ep + 1) ps'.length :=
  ⟨ms ++ [m], M, ps', ref, M.epoch, nb + 1, kk + s + 8, ll + 1, hc, hu, ⟨by omega, by omega, by rw [List.length_append]; simp; omega, by omega, by omega, by omega⟩, hw, ho, hP.trans hA, rfl⟩
set_option maxHeartbeats 16000000 in
theorem coordQueue_great (v vp : Value) (g : List Gr.Nd) (l : List (List Gr.Stp)) (at' : Option Addr) (nt ct : Nat) (w : World) (hv : NodesAt w v g) (hp : PlansAt w vp l) (hnt : nt ≤ 9223372036854775807) (hb : greatG g = true ∨ 20 < l.length ∨ 20 < nt ∨ ¬ Gr.RightR g) : Calls Tryz.prog 3 #[v, vp, .slice at' nt ct] w (Gives (.bool true) w) := by
  have hgp : greatP [] = false := rfl
  have HGT := Lib.hid fun W (q : Grew w W) => great10_any v (.slice none 0 0) g [] W (hv.grew q) (StepsAt.nil W)
  rw [hgp, Bool.or_false] at HGT
  have HV := Lib.hid hv
  obtain ⟨av, cv, rfl, hnv, -⟩ := hv.openC
  obtain ⟨ap, cp, rfl, hnp, -⟩ := hp.at
  have HB := Lib.hid hb
  clear hp hv hb hgp
  cases hg : greatG g
  case true =>
    rw [hg] at HGT
    clear hg HV HB
    go_enter Tryz.func3, Tryz.ntmps3
    go_wp2_with (first
      | (go_at_call 5; refine (awake23_any _).mono ?_; rintro e w1 ⟨rfl, R1, n1, rfl⟩)
      | (go_at_call 6; refine (HGT.out _ (by repeat (first | with_reducible exact Grew.refl _ | apply Grew.more | apply Grew.alloc | apply Grew.drew | apply Grew.drewN))).mono ?_; rintro e w1 ⟨rfl, R2, n2, rfl⟩))
    go_ret
    exact ⟨rfl, by repeat (first | with_reducible exact Grew.refl _ | apply Grew.more | apply Grew.alloc | apply Grew.drew | apply Grew.drewN)⟩
  case false =>
    have HSM := Lib.hid (great_small hg).1
    rw [hg] at HGT
    by_cases h20 : 20 < l.length
    · have h20' : (20 : Int) < l.length := by omega
      clear hg HV HB HSM
      go_enter Tryz.func3, Tryz.ntmps3
      go_wp2_with (first
        | (go_at_call 5; refine (awake23_any _).mono ?_; rintro e w1 ⟨rfl, R1, n1, rfl⟩)
        | (go_at_call 6; refine (HGT.out _ (by repeat (first | with_reducible exact Grew.refl _ | apply Grew.more | apply Grew.alloc | apply Grew.drew | apply Grew.drewN))).mono ?_; rintro e w1 ⟨rfl, R2, n2, rfl⟩))
      go_ret
      exact ⟨rfl, by repeat (first | with_reducible exact Grew.refl _ | apply Grew.more | apply Grew.alloc | apply Grew.drew | apply Grew.drewN)⟩
    · have h20' : ¬ (20 : Int) < l.length := by omega
      by_cases ht : 20 < nt
      · have ht' : (20 : Int) < nt := by omega
        clear hg HV HB HSM h20
        go_enter Tryz.func3, Tryz.ntmps3
        go_wp2_with (first
          | (go_at_call 5; refine (awake23_any _).mono ?_; rintro e w1 ⟨rfl, R1, n1, rfl⟩)
          | (go_at_call 6; refine (HGT.out _ (by repeat (first | with_reducible exact Grew.refl _ | apply Grew.more | apply Grew.alloc | apply Grew.drew | apply Grew.drewN))).mono ?_; rintro e w1 ⟨rfl, R2, n2, rfl⟩))
        go_ret
        exact ⟨rfl, by repeat (first | with_reducible exact Grew.refl _ | apply Grew.more | apply Grew.alloc | apply Grew.drew | apply Grew.drewN)⟩
      · have ht' : ¬ (20 : Int) < nt := by omega
        have hr : ¬ Gr.RightR g := by
          rcases HB.out with h | h | h | h
          · rw [hg] at h; cases h
          · exact absurd h h20
          · exact absurd h ht
          · exact h
        have hne := checkR_pos hr
        have HCK := Lib.hid fun W (q : Grew w W) => check_graph _ g W (HV.out.grew q) HSM.out
        clear hg HV HB HSM h20 hr ht
        generalize checkR g = er at *
        go_enter Tryz.func3, Tryz.ntmps3
        go_wp2_with (first
          | (go_at_call 5; refine (awake23_any _).mono ?_; rintro e w1 ⟨rfl, R1, n1, rfl⟩)
          | (go_at_call 6; refine (HGT.out _ (by repeat (first | with_reducible exact Grew.refl _ | apply Grew.more | apply Grew.alloc | apply Grew.drew | apply Grew.drewN))).mono ?_; rintro e w1 ⟨rfl, R2, n2, rfl⟩)
          | (go_at_call 7; refine (HCK.out _ (by repeat (first | with_reducible exact Grew.refl _ | apply Grew.more | apply Grew.alloc | apply Grew.drew | apply Grew.drewN))).mono ?_; rintro e w1 ⟨rfl, R3, n3, rfl⟩))
        go_ret
        exact ⟨rfl, by repeat (first | with_reducible exact Grew.refl _ | apply Grew.more | apply Grew.alloc | apply Grew.drew | apply Grew.drewN)⟩
/-- the graph ahead: the argument, or one of the call's own -/
def AheadAt (w W : World) (v : Value) (A : List Gr.Nd) : Prop := NodesAt w v A ∨ ∃ lc, NodesOwn w.heap.size W v lc ∧ NodesIn w.heap.size W lc A
theorem AheadAt.at {w W : World} {v : Value} {A : List Gr.Nd} (h : AheadAt w W v A) (g : Grew w W) : NodesAt W v A := by
  rcases h with h | ⟨lc, h1, h2⟩
  · exact h.grew g
  · exact h2.at h1
theorem AheadAt.cl {T : List TypeId} {w W W' : World} {v : Value} {A : List Gr.Nd} (h : AheadAt w W v A) (q : CL T W W') (hT : NoData T) : AheadAt w W' v A := by
  rcases h with h | ⟨lc, h1, h2⟩
  · exact .inl h
  · exact .inr ⟨lc, q.own h1 hT.2.2.1, q.nodes h2 hT.1 hT.2.1⟩
theorem AheadAt.grew {w W W' : World} {v : Value} {A : List Gr.Nd} (h : AheadAt w W v A) (q : Grew W W') : AheadAt w W' v A := h.cl (T := []) (CL.grew q) (by simp [NoData])
theorem AheadAt.own {w W W' : World} {v : Value} {lc : List NdC} {A : List Gr.Nd} (hg : Grew w W) (h1 : NodesOwn W.heap.size W' v lc) (h2 : NodesIn W.heap.size W' lc A) : AheadAt w W' v A :=
  .inr ⟨lc, OwnAt.low h1 hg.below.size, Rel.mono (fun _ _ h => ⟨h.1, ⟨OwnAt.low h.2.1 hg.below.size, OwnAt.low h.2.2 hg.below.size⟩⟩) h2⟩
/-- what Apply answers, in one form -/
theorem ApplyPost.one {r : Int × Nat × List Gr.Nd} {w w' : World} {e : Ending} (h : ApplyPost r w e w') : Grew w w' ∧ ∃ (v : Value) (i : Nat), e = .returned (.tuple #[v, .int .i64 i, .int .i64 r.1]) ∧ (r.1 = 0 → ∃ lc l', NodesOwn w.heap.size w' v lc ∧ NodesIn w.heap.size w' lc l' ∧ l'.Perm r.2.2 ∧ (l'.Pairwise fun a b => a.id ≤ b.id) ∧ Small l') := by
  obtain ⟨g, ⟨h1, rfl⟩ | ⟨h1, v, lc, l', rfl, h2⟩⟩ := h
  · exact ⟨g, _, r.2.1, rfl, fun e => absurd e h1⟩
  · exact ⟨g, v, 0, by rw [h1]; rfl, fun _ => ⟨lc, l', h2⟩⟩
theorem ApplyPost.fine {r : Int × Nat × List Gr.Nd} {w w' : World} {e : Ending} (h : ApplyPost r w e w') (h0 : r.1 = 0) : Grew w w' ∧ ∃ (v : Value) (lc : List NdC) (l' : List Gr.Nd), e = .returned (.tuple #[v, .int .i64 0, .int .i64 0]) ∧ NodesOwn w.heap.size w' v lc ∧ NodesIn w.heap.size w' lc l' ∧ l'.Perm r.2.2 ∧ (l'.Pairwise fun a b => a.id ≤ b.id) ∧ Small l' := by
  obtain ⟨g, ⟨h1, -⟩ | ⟨-, h2⟩⟩ := h
  · exact absurd h0 h1
  · exact ⟨g, h2⟩
/-- what lives from plan to plan -/
structure Sub (w wr : World) (z bk lg xd mp kk : Nat) (g : List Gr.Nd) (v : Value) (ps : List (List Gr.Stp)) (A : List Gr.Nd) : Prop where
  co : CoAt w wr z bk lg [] (firstM g) ps (.pointer none) false 0 0
  un : Und w wr bk lg xd mp 0 1048576 kk 1 0
  wt : Gr.Waits checkR (firstM g).graph ps
  ok : ∀ p ∈ ps, PlanOk p ∧ p ≠ []
  pm : (Gr.aheadG checkR (firstM g).graph ps).Perm A
  nd : AheadAt w wr v A
  sm : Small A
theorem Sub.grew {w wr wx : World} {z bk lg xd mp kk : Nat} {g : List Gr.Nd} {v : Value} {ps : List (List Gr.Stp)} {A : List Gr.Nd} (h : Sub w wr z bk lg xd mp kk g v ps A) (q : Grew wr wx) : Sub w wx z bk lg xd mp kk g v ps A := ⟨h.co.grew q, h.un.grew q, h.wt, h.ok, h.pm, h.nd.grew q, h.sm⟩
/-- plans wait: what Submit leaves -/
theorem Sub.step {w wr w1 W' : World} {z bk lg xd mp kk : Nat} {g : List Gr.Nd} {v v' : Value} {ps ps' : List (List Gr.Stp)} {A A' : List Gr.Nd} (h : Sub w wr z bk lg xd mp kk g v ps A) (q : Grew wr w1) (hl : Leaves [83, 34] w1 W') (hc : CoAt w W' z bk lg [] (firstM g) ps' (.pointer none) false 0 0) (hw : Gr.Waits checkR (firstM g).graph ps') (ho : ∀ p ∈ ps', PlanOk p ∧ p ≠ []) (hp : (Gr.aheadG checkR (firstM g).graph ps').Perm A') (hn : AheadAt w W' v' A') (hs : Small A') : Sub w W' z bk lg xd mp kk g v' ps' A' :=
  ⟨hc, (h.un.grew q).leaves hl (by decide) (by decide) (by decide) (by decide), hw, ho, hp, hn, hs⟩
/-- .. and with them the epochs begin -/
theorem Sub.turn {w wr : World} {z bk lg xd mp kk : Nat} {g : List Gr.Nd} {v : Value} {ps : List (List Gr.Stp)} {A : List Gr.Nd} (h : Sub w wr z bk lg xd mp kk g v ps A) (hk : kk ≤ 4008) : Turn w wr z bk lg xd mp 0 A 0 ps.length :=
  ⟨[], firstM g, ps, 0, 0, 0, kk, 1, h.co, h.un, ⟨⟨Int.le_refl _, Int.le_refl _, Int.le_refl _, Int.le_refl _⟩, Int.le_refl _, Nat.le_refl _, Nat.le_refl _, Nat.le_refl _, by omega⟩, h.wt, h.ok, h.pm, rfl⟩
/-- an epoch that was aborted -/
theorem Turn.abort {w W' : World} {z bk lg xd mp k : Nat} {A : List Gr.Nd} {ms : List Gr.Mf} {m : Gr.Mf} {ps : List (List Gr.Stp)} {ref e0 q : Int} {nb kk ll : Nat} {ep : Int} (hu : Und w W' bk lg xd mp nb 1048576 kk ll e0) (hn : (m.epoch ≤ ep ∧ e0 ≤ m.epoch ∧ 0 ≤ ep ∧ ep ≤ k) ∧ m.plans ≤ k ∧ ms.length ≤ k ∧ nb ≤ k ∧ ll ≤ k + 1 ∧ kk ≤ 5000 + 20010 * k) (hw : Gr.Waits checkR m.graph ps) (ho : ∀ p ∈ ps, PlanOk p ∧ p ≠ []) (hA : (Gr.aheadG checkR m.graph ps).Perm A) (hq : q = ps.length) (hc : CoAt w W' z bk lg ms m ps (.pointer none) false (ep + 1) ref) : Turn w W' z bk lg xd mp (k + 1) A (ep + 1) q := by
  obtain ⟨⟨n1, n2, n3, n4⟩, n5, n6, n7, n8, n9⟩ := hn
  exact ⟨ms, m, ps, ref, e0, nb, kk, ll, hc, hu, ⟨⟨by omega, n2, by omega, by omega⟩, by omega, by omega, by omega, by omega, by omega⟩, hw, ho, hA, hq⟩
theorem coMan_any {w0 W : World} {z bk lg : Nat} {ms : List Gr.Mf} {m : Gr.Mf} {ps : List (List Gr.Stp)} {uv : Value} {pl : Bool} {last ref : Int} (h : CoAt w0 W z bk lg ms m ps uv pl last ref) : Calls Tryz.prog 16 #[.pointer (some ⟨z, 0, none⟩)] W fun e w' => ∃ c' : MfC, e = .returned (.agg #[.int .i64 c'.epoch, .int .i64 c'.plans, .slice c'.ao c'.no c'.co, .slice c'.ag c'.ng c'.cg, .slice c'.ae c'.ne c'.ce, .slice c'.ax c'.nx c'.cx, .slice c'.ap c'.np c'.cp]) ∧ MfOwn 0 w' c' m ∧ Grew W w' := by
  obtain ⟨hv, qv, h1, h2, -⟩ := h.blk
  exact coManifest_any h1 rfl h2 h.ok
/-- nodes that are one's own -/
def OwnNds (W : World) (v : Value) (g : List Gr.Nd) : Prop := ∃ lc, NodesOwn 0 W v lc ∧ NodesIn 0 W lc g
theorem OwnNds.at {W : World} {v : Value} {g : List Gr.Nd} (h : OwnNds W v g) : NodesAt W v g := by
  obtain ⟨lc, h1, h2⟩ := h
  exact h2.at h1
theorem OwnNds.cl {T : List TypeId} {W W' : World} {v : Value} {g : List Gr.Nd} (h : OwnNds W v g) (q : CL T W W') (hT : NoData T) : OwnNds W' v g := by
  obtain ⟨lc, h1, h2⟩ := h
  exact ⟨lc, q.own h1 hT.2.2.1, q.nodes h2 hT.1 hT.2.1⟩
theorem OwnNds.grew {W W' : World} {v : Value} {g : List Gr.Nd} (h : OwnNds W v g) (q : Grew W W') : OwnNds W' v g := h.cl (T := []) (CL.grew q) (by simp [NoData])
theorem tasksTo_len {g : List Gr.Nd} (hr : Gr.RightR g) {k i : Nat} (hi : i ≤ 3) : (tasksTo g k i).length ≤ 1000 := by
  have h1 := tasksOf_len (g.take k) fun n hn => (right_par hr n (List.mem_of_mem_take hn)).1.2
  have h2 := hr.len
  have h3 : (g.take k).length ≤ g.length := by rw [List.length_take]; omega
  unfold tasksTo
  rw [List.length_append]
  split
  · rw [List.length_map, List.length_range]; omega
  · simp; omega
/-- an epoch under way -/
structure Acks (w wr : World) (z bk lg xd mp x b nb kk ll : Nat) (ms : List Gr.Mf) (m : Gr.Mf) (ps : List (List Gr.Stp)) (pl : Bool) (ep ref e0 : Int) (v : Value) (A : List Gr.Nd) (vm : Value) (ts : List Who) : Prop where
  co : CoAt w wr z bk lg ms m ps (.pointer (some ⟨x, 0, none⟩)) pl ep ref
  un : Und w wr bk lg xd mp nb 1048576 kk ll e0
  ga : GatherAt wr x b ts.length m.graph ep (cameZ ep ts)
  ah : AheadAt w wr v A
  ne : mp ≠ b
  b0 : w.heap.size ≤ b
  mf : OwnNds wr vm m.graph
theorem Acks.grew {w wr W' : World} {z bk lg xd mp x b nb kk ll : Nat} {ms : List Gr.Mf} {m : Gr.Mf} {ps : List (List Gr.Stp)} {pl : Bool} {ep ref e0 : Int} {v : Value} {A : List Gr.Nd} {vm : Value} {ts : List Who} (h : Acks w wr z bk lg xd mp x b nb kk ll ms m ps pl ep ref e0 v A vm ts) (q : Grew wr W') : Acks w W' z bk lg xd mp x b nb kk ll ms m ps pl ep ref e0 v A vm ts := ⟨h.co.grew q, h.un.grew q, h.ga.grew q, h.ah.grew q, h.ne, h.b0, h.mf.grew q⟩
theorem Acks.step {w wr w1 W' : World} {z bk lg xd mp x b nb kk ll : Nat} {ms : List Gr.Mf} {m : Gr.Mf} {ps : List (List Gr.Stp)} {pl : Bool} {ep ref e0 : Int} {v : Value} {A : List Gr.Nd} {vm : Value} {ts : List Who} {t : Who} (h : Acks w wr z bk lg xd mp x b nb kk ll ms m ps pl ep ref e0 v A vm ts) (q : Grew wr w1) (hc : CoAt w W' z bk lg ms m ps (.pointer (some ⟨x, 0, none⟩)) pl ep ref) (hg : GatherAt W' x b (ts.length + 1) m.graph ep ((t, ackZ ep t) :: cameZ ep ts)) (hk : Keep b w1 W') : Acks w W' z bk lg xd mp x b nb kk ll ms m ps pl ep ref e0 v A vm (ts ++ [t]) ∧ CL [] w1 W' := by
  have h1 := h.grew q
  have hl : CL [] w1 W' := hk.cl h1.ga.map.nocells
  obtain ⟨av, ls, e1, e2⟩ := h1.un.log
  obtain ⟨ld, e3, e4⟩ := h1.un.disk
  obtain ⟨mm, k1, k2⟩ := h1.un.book.map
  refine ⟨⟨hc, ⟨⟨hl _ _ _ _ h1.un.book.blk (by simp), ⟨mm, k1.same (hk.2 _ k1.lt h.ne), k2⟩, h.un.book.b0, h.un.book.m0⟩, ⟨av, ls, ⟨hl _ _ _ _ e1.blk (by simp), hl.own e1.own (by simp)⟩, e2⟩, ⟨ld, ⟨hl _ _ _ _ e3.blk (by simp), OwnAt.nil _, e3.n1, e3.len⟩, e4⟩, h.un.x0, h.un.l0⟩, ?_, h1.ah.cl hl (by simp [NoData]), h.ne, h.b0, h1.mf.cl hl (by simp [NoData])⟩, hl⟩
  rw [cameZ_snoc, List.length_append]
  exact hg
theorem normPm_any (v : Value) (l m : List Gr.Nd) (w : World) (hv : NodesAt w v m) (hs : Small m) (hl : m.length ≤ 19) (hp : m.Perm l) (ho : l.Pairwise fun a b => a.id < b.id) : Calls Tryz.prog 55 #[v] w (fun e w' => ∃ v', e = .returned v' ∧ NodesAt w' v' l ∧ Grew w w') := by
  refine (norm_any v m w hv hs hl).mono ?_
  rintro e w' ⟨v', lc, l', rfl, h1, h2, h3, h4, g⟩
  obtain rfl := perm_strict (h3.trans hp) ho h4
  exact ⟨v', rfl, h2.at h1, g⟩
set_option maxHeartbeats 8000000 in
theorem same_perm (v u : Value) (l m : List Gr.Nd) (w : World) (hv : NodesAt w v l) (hu : NodesAt w u m) (hs : Small l) (hl : l.length ≤ 19) (ho : l.Pairwise fun a b => a.id < b.id) (ht : Small m) (hp : m.Perm l) : Calls Tryz.prog 19 #[v, u] w (Gives (.bool true) w) := by
  have HV := Lib.hid fun W (g : Grew w W) => norm_strict v l W (hv.grew g) hs hl ho
  have HU := Lib.hid fun W (g : Grew w W) => normPm_any u l m W (hu.grew g) ht (by rw [hp.length_eq]; exact hl) hp ho
  have he : eqNds l l = true := eqNds_true rfl
  clear hv hu hs ho ht hp hl
  go_enter Tryz.func19, Tryz.ntmps19
  go_wp2_with fail
  refine (HV.out _ (by repeat (first | with_reducible exact Grew.refl _ | apply Grew.more | apply Grew.alloc | apply Grew.drew | apply Grew.drewN))).mono ?_
  rintro e w1 ⟨v1, rfl, hv1, R1, n1, rfl⟩
  have HV1 := Lib.hid hv1
  clear hv1
  go_wp2_with fail
  refine (HU.out _ (by repeat (first | with_reducible exact Grew.refl _ | apply Grew.more | apply Grew.alloc | apply Grew.drew | apply Grew.drewN))).mono ?_
  rintro e w1 ⟨v2, rfl, hv2, R2, n2, rfl⟩
  have HV2 := Lib.hid hv2
  clear hv2
  go_wp2_with fail
  refine (eqFnNodes_any _ _ l l _ (HV1.out.grew (by repeat (first | with_reducible exact Grew.refl _ | apply Grew.more | apply Grew.alloc | apply Grew.drew | apply Grew.drewN))) (HV2.out.grew (by repeat (first | with_reducible exact Grew.refl _ | apply Grew.more | apply Grew.alloc | apply Grew.drew | apply Grew.drewN)))).mono ?_
  rintro e w1 ⟨rfl, R3, n3, rfl⟩
  rw [he]
  clear he
  go_wp2
  go_ret
  exact ⟨rfl, by repeat (first | with_reducible exact Grew.refl _ | apply Grew.more | apply Grew.alloc | apply Grew.drew | apply Grew.drewN)⟩
end Go.Proofs.YtipgfjihdglocaaGreat
