import Derived.Test.YtpbohimddmploaaGreatCd41
import Derived.Test.YtpbohimddmploaaGreatCd24
import Derived.Test.YtpbohimddmploaaGreatCd44
import Derived.Deep.QuietTactic
import Derived.BigQuiet
import Derived.Deep.LoopGhost
set_option linter.unusedSimpArgs false
set_option linter.unusedVariables false
set_option maxRecDepth 100000
set_option maxHeartbeats 64000000
namespace Go.Proofs.YtpbohimddmploaaGreat
open Go.RowKit Ga

theorem manyS_succ {α : Type} (rd : Gr.Rs → α × Gr.Rs) : ∀ (k : Nat) (s : Gr.Rs), Gr.manyS rd (k + 1) s = ((Gr.manyS rd k s).1 ++ [(rd (Gr.manyS rd k s).2).1], (rd (Gr.manyS rd k s).2).2)
  | 0, s => rfl
  | k + 1, s => by
    have ih := manyS_succ rd k (rd s).2
    rw [Gr.manyS, ih]
    rfl
theorem manyS_len {α : Type} {rd : Gr.Rs → α × Gr.Rs} (h : ∀ s, (rd s).2.1.length ≤ s.1.length) : ∀ (k : Nat) (s : Gr.Rs), (Gr.manyS rd k s).1.length = k ∧ (Gr.manyS rd k s).2.1.length ≤ s.1.length
  | 0, s => ⟨rfl, Nat.le_refl _⟩
  | k + 1, s => by
    obtain ⟨h1, h2⟩ := manyS_len h k (rd s).2
    refine ⟨?_, ?_⟩
    · rw [Gr.manyS, List.length_cons, h1]
    · rw [Gr.manyS]
      exact Nat.le_trans h2 (h s)
theorem manyS_list (a b : Int) : ∀ (k : Nat) (s : Gr.Rs), Gr.manyS (Gr.numS a b) k s = Gr.listS a b k s
  | 0, s => rfl
  | k + 1, s => by rw [Gr.manyS, Gr.listS, manyS_list a b k]
theorem manyS_nodes (lp : Int) : ∀ (k : Nat) (s : Gr.Rs), Gr.manyS (Gr.nodeS getL lp) k s = Gr.nodesS getL lp k s
  | 0, s => rfl
  | k + 1, s => by rw [Gr.manyS, Gr.nodesS, manyS_nodes lp k]
theorem enS_eq {s s1 s2 s3 s4 : Gr.Rs} {a b : Int} {c d : Int × Int} (h1 : Gr.numS 0 7 s = (a, s1)) (h2 : Gr.numS 0 63 s1 = (b, s2)) (h3 : Gr.valS s2 = (c, s3)) (h4 : Gr.valS s3 = (d, s4)) : Gr.enS s = (⟨a, b, c, d⟩, s4) := by
  unfold Gr.enS Gr.mapS
  rw [pairS_eq (pairS_eq (pairS_eq h1 h2) h3) h4]
theorem lnS_eq {s s1 s2 s3 s4 : Gr.Rs} {a b c : Int} {d : Int × Int} (h1 : Gr.numS 0 7 s = (a, s1)) (h2 : Gr.numS 0 7 s1 = (b, s2)) (h3 : Gr.numS 0 63 s2 = (c, s3)) (h4 : Gr.valS s3 = (d, s4)) : Gr.lnS s = (⟨a, b, c, d⟩, s4) := by
  unfold Gr.lnS Gr.mapS
  rw [pairS_eq (pairS_eq (pairS_eq h1 h2) h3) h4]
theorem enS_len (s : Gr.Rs) : (Gr.enS s).2.1.length ≤ s.1.length := by
  rw [enS_eq rfl rfl rfl rfl]
  exact Nat.le_trans (valS_len _) (Nat.le_trans (valS_len _) (Nat.le_trans (numS_len _ _ _) (numS_len _ _ _)))
theorem lnS_len (s : Gr.Rs) : (Gr.lnS s).2.1.length ≤ s.1.length := by
  rw [lnS_eq rfl rfl rfl rfl]
  exact Nat.le_trans (valS_len _) (Nat.le_trans (numS_len _ _ _) (Nat.le_trans (numS_len _ _ _) (numS_len _ _ _)))
theorem manS_eq {s s1 s2 s3 s4 s5 s6 s7 s8 s9 s10 s11 : Gr.Rs} {ep pl n3 n5 n7 n9 : Int} {os : List Int} {gr : List Gr.Nd} {es : List Tab.En} {ls : List Gr.Ln} {p : List Gr.Stp}
    (h1 : Gr.numS 0 2147483647 s = (ep, s1)) (h2 : Gr.numS 0 2147483647 s1 = (pl, s2)) (h3 : Gr.numS 0 3 s2 = (n3, s3)) (h4 : Gr.listS 0 400 n3.toNat s3 = (os, s4)) (h5 : Gr.numS 0 8 s4 = (n5, s5)) (h6 : Gr.nodesS getL 1 n5.toNat s5 = (gr, s6))
    (h7 : Gr.numS 0 512 s6 = (n7, s7)) (h8 : Gr.manyS Gr.enS n7.toNat s7 = (es, s8)) (h9 : Gr.numS 0 4000 s8 = (n9, s9)) (h10 : Gr.manyS Gr.lnS n9.toNat s9 = (ls, s10)) (h11 : Gr.plS getL s10 = (p, s11)) :
    Gr.manS getL s = (⟨ep, pl, os, gr, es, ls, p⟩, s11) := by
  have c4 : Gr.cntS (Gr.numS 0 400) 3 s2 = (os, s4) := by unfold Gr.cntS; rw [h3, manyS_list]; exact h4
  have c6 : Gr.cntS (Gr.nodeS getL 1) 8 s4 = (gr, s6) := by unfold Gr.cntS; rw [h5, manyS_nodes]; exact h6
  have c8 : Gr.cntS Gr.enS 512 s6 = (es, s8) := by unfold Gr.cntS; rw [h7]; exact h8
  have c10 : Gr.cntS Gr.lnS 4000 s8 = (ls, s10) := by unfold Gr.cntS; rw [h9]; exact h10
  unfold Gr.manS Gr.mapS
  rw [pairS_eq h1 (pairS_eq h2 (pairS_eq c4 (pairS_eq c6 (pairS_eq c8 (pairS_eq c10 h11)))))]
theorem getPl_small3 (s : List UInt8) : ∀ x ∈ (Gr.getPl getL s).1, x.nd.frm.length ≤ 3 ∧ x.nd.prog.length ≤ 24 := by
  obtain ⟨l, ⟨z, x⟩, hg⟩ : ∃ l t, Gr.planS getL s = (l, t) := ⟨_, _, rfl⟩
  rw [getPl_end hg]
  have h := stepsS_small (Gr.numS 1 6 (s, 0)).1.toNat (Gr.numS 1 6 (s, 0)).2
  unfold Gr.planS at hg
  rw [hg] at h
  split
  · exact h
  · intro y hy
    cases hy
theorem plS_small (s : Gr.Rs) : ∀ x ∈ (Gr.plS getL s).1, x.nd.frm.length ≤ 3 ∧ x.nd.prog.length ≤ 24 := by
  unfold Gr.plS
  split
  · intro y hy
    cases hy
  · exact getPl_small3 _
def Same (t : TypeId) (w w' : World) : Prop := ∀ (q : Nat) (c : Array Value), w.heap[q]? = some (.cells c t) → w'.heap[q]? = w.heap[q]?
def zeroM : Array Value := #[.int .i64 0, .int .i64 0, .slice none 0 0, .slice none 0 0, .slice none 0 0, .slice none 0 0, .slice none 0 0]
structure ManSt (w0 : World) (Z T A B : Nat) (W : World) (cs : Array Value) (vo vg ve vl : Value) (os : List Int) (lc : List NdC) (gr : List Gr.Nd) (es : List Tab.En) (ls : List Gr.Ln) (s : Gr.Rs) : Prop where
  t : W.heap[T]? = some (.cells cs 51)
  b : w0.heap.size ≤ T
  o : OwnAt w0.heap.size 3 1 encN W vo os
  g : NodesOwn w0.heap.size W vg lc
  gi : NodesIn w0.heap.size W lc gr
  e : OwnAt w0.heap.size 120 6 encEn W ve es
  l : OwnAt w0.heap.size 127 5 encLn W vl ls
  r : RdAt w0.heap.size A B W s
  w : Grew w0 W
  z : W.heap[Z]? = some (.cells zeroM 51)
  zt : T ≠ Z
section
variable {w0 : World} {Z T A B : Nat} {W W' : World} {cs : Array Value} {vo vg ve vl : Value} {os : List Int} {lc : List NdC} {gr : List Gr.Nd} {es : List Tab.En} {ls : List Gr.Ln} {s s' : Gr.Rs}
theorem NodesIn.sameT {base : Nat} {w w' : World} {lc : List NdC} {l : List Gr.Nd} (h : NodesIn base w lc l) (h1 : Same 3 w w') (h2 : Same 190 w w') : NodesIn base w' lc l :=
  Rel.mono (fun c n ⟨a, o⟩ => by
    have o' : OwnsNd base w' c n := ⟨OwnAt.same o.1 fun b hb => by obtain ⟨-, x, hx⟩ := OwnAt.block o.1 hb; exact h1 b x hx, OwnAt.same o.2 fun b hb => by obtain ⟨-, x, hx⟩ := OwnAt.block o.2 hb; exact h2 b x hx⟩
    exact ⟨o'.is a, o'⟩) h
theorem OwnAt.sameT {α : Type} {base : Nat} {e : TypeId} {k : Nat} {enc : α → List Value} {w w' : World} {v : Value} {l : List α} (h : OwnAt base e k enc w v l) (hs : Same e w w') : OwnAt base e k enc w' v l :=
  OwnAt.same h fun b hb => by obtain ⟨-, x, hx⟩ := OwnAt.block h hb; exact hs b x hx
theorem Same.keep2 {t : TypeId} (k : Keep2 A B W W') (h : RdAt w0.heap.size A B W s) (h1 : t ≠ 165 := by decide) (h2 : t ≠ 217 := by decide) : Same t W W' := fun q c hq =>
  k.2 q (heap_lt hq) (fun e => by subst e; have := h.2.1; rw [hq] at this; cases this; exact h1 rfl) fun e => by subst e; have := h.2.2.2; rw [hq] at this; cases this; exact h2 rfl
theorem ManSt.keep2 (M : ManSt w0 Z T A B W cs vo vg ve vl os lc gr es ls s) (k : Keep2 A B W W') (r : RdAt w0.heap.size A B W' s') (g : Grew w0 W') : ManSt w0 Z T A B W' cs vo vg ve vl os lc gr es ls s' :=
  ⟨by rw [(Same.keep2 k M.r : Same _ W W') T cs M.t]; exact M.t, M.b, OwnAt.sameT M.o (Same.keep2 k M.r), OwnAt.sameT M.g (Same.keep2 k M.r), M.gi.sameT (Same.keep2 k M.r) (Same.keep2 k M.r), OwnAt.sameT M.e (Same.keep2 k M.r), OwnAt.sameT M.l (Same.keep2 k M.r), r, g, by rw [(Same.keep2 k M.r : Same _ W W') Z _ M.z]; exact M.z, M.zt⟩
theorem ManSt.grew (M : ManSt w0 Z T A B W cs vo vg ve vl os lc gr es ls s) (g : Grew W W') : ManSt w0 Z T A B W' cs vo vg ve vl os lc gr es ls s :=
  ⟨grew_heap g M.t, M.b, OwnAt.grew M.o g, OwnAt.grew M.g g, M.gi.grew g, OwnAt.grew M.e g, OwnAt.grew M.l g, M.r.grew g, M.w.trans g, grew_heap g M.z, M.zt⟩
theorem Same.but {N : Nat} {t t2 : TypeId} {c : Array Value} (k : But N W W') (h : W.heap[N]? = some (.cells c t2)) (h1 : t2 ≠ t := by decide) : Same t W W' := fun q x hq =>
  k q fun e => by subst e; rw [hq] at h; cases h; exact h1 rfl
theorem ManSt.new {N : Nat} {t : TypeId} {c : Array Value} (M : ManSt w0 Z T A B W cs vo vg ve vl os lc gr es ls s) (k : But N W W') (h : W.heap[N]? = some (.cells c t)) (ht : t = 120 ∨ t = 127) (he : ve.ownBlock ≠ some N) (hl : vl.ownBlock ≠ some N) (g : Grew w0 W') : ManSt w0 Z T A B W' cs vo vg ve vl os lc gr es ls s := by
  have hne : ∀ u : TypeId, u ≠ 120 → u ≠ 127 → t ≠ u := fun u h1 h2 e => by subst e; exact ht.elim h1 h2
  have hk : ∀ u : TypeId, u ≠ 120 → u ≠ 127 → Same u W W' := fun u h1 h2 => Same.but k h (hne u h1 h2)
  refine ⟨by rw [hk _ (by decide) (by decide) T cs M.t]; exact M.t, M.b, OwnAt.sameT M.o (hk _ (by decide) (by decide)), OwnAt.sameT M.g (hk _ (by decide) (by decide)), M.gi.sameT (hk _ (by decide) (by decide)) (hk _ (by decide) (by decide)), OwnAt.butNe M.e k he, OwnAt.butNe M.l k hl, ?_, g, by rw [hk _ (by decide) (by decide) Z _ M.z]; exact M.z, M.zt⟩
  exact ⟨M.r.1, by rw [hk _ (by decide) (by decide) A _ M.r.2.1]; exact M.r.2.1, M.r.2.2.1, by rw [hk _ (by decide) (by decide) B _ M.r.2.2.2]; exact M.r.2.2.2⟩
theorem ManSt.put {i : Nat} {v : Value} (M : ManSt w0 Z T A B W cs vo vg ve vl os lc gr es ls s) : ManSt w0 Z T A B (W.setCell ⟨T, i, none⟩ v) (cs.setIfInBounds i v) vo vg ve vl os lc gr es ls s := by
  have hb : But T W (W.setCell ⟨T, i, none⟩ v) := fun q hq => set_other fun e => hq e.symm
  have hk : ∀ u : TypeId, 51 ≠ u → Same u W (W.setCell ⟨T, i, none⟩ v) := fun u hu => Same.but hb M.t hu
  refine ⟨set_self M.t, M.b, OwnAt.sameT M.o (hk _ (by decide)), OwnAt.sameT M.g (hk _ (by decide)), M.gi.sameT (hk _ (by decide)) (hk _ (by decide)), OwnAt.sameT M.e (hk _ (by decide)), OwnAt.sameT M.l (hk _ (by decide)), ?_, M.w.set M.b _, by rw [set_other M.zt]; exact M.z, M.zt⟩
  exact ⟨M.r.1, by rw [hk _ (by decide) A _ M.r.2.1]; exact M.r.2.1, M.r.2.2.1, by rw [hk _ (by decide) B _ M.r.2.2.2]; exact M.r.2.2.2⟩
theorem Same.app {α : Type} {t e : TypeId} {k : Nat} {enc : α → List Value} {v v' : Value} {l l2 : List α} {base : Nat} (ho : OwnAt base e k enc W v l) (hA : Appended w0 e k enc W v l2 v' W') (h1 : t ≠ e := by decide) : Same t W W' := fun q _ hq => hA.2.2.2.1 q (heap_lt hq) (OwnAt.other ho hq h1)
theorem ManSt.appE {v' : Value} {es' : List Tab.En} (M : ManSt w0 Z T A B W cs vo vg ve vl os lc gr es ls s) (hA : Appended w0 120 6 encEn W ve es' v' W') : ManSt w0 Z T A B W' cs vo vg v' vl os lc gr es' ls s :=
  ⟨by rw [Same.app M.e hA (by decide) T cs M.t]; exact M.t, M.b, OwnAt.sameT M.o (Same.app M.e hA), OwnAt.sameT M.g (Same.app M.e hA), M.gi.sameT (Same.app M.e hA) (Same.app M.e hA), hA.2.1, OwnAt.sameT M.l (Same.app M.e hA), RdAt.app M.r M.e hA, hA.1, by rw [Same.app M.e hA (by decide) Z _ M.z]; exact M.z, M.zt⟩
theorem ManSt.appL {v' : Value} {ls' : List Gr.Ln} (M : ManSt w0 Z T A B W cs vo vg ve vl os lc gr es ls s) (hA : Appended w0 127 5 encLn W vl ls' v' W') : ManSt w0 Z T A B W' cs vo vg ve v' os lc gr es ls' s :=
  ⟨by rw [Same.app M.l hA (by decide) T cs M.t]; exact M.t, M.b, OwnAt.sameT M.o (Same.app M.l hA), OwnAt.sameT M.g (Same.app M.l hA), M.gi.sameT (Same.app M.l hA) (Same.app M.l hA), OwnAt.sameT M.e (Same.app M.l hA), hA.2.1, RdAt.app M.r M.l hA, hA.1, by rw [Same.app M.l hA (by decide) Z _ M.z]; exact M.z, M.zt⟩
theorem ManSt.setO {vo' : Value} {os' : List Int} (M : ManSt w0 Z T A B W cs vo vg ve vl os lc gr es ls s) (h : OwnAt w0.heap.size 3 1 encN W vo' os') : ManSt w0 Z T A B W cs vo' vg ve vl os' lc gr es ls s := ⟨M.t, M.b, h, M.g, M.gi, M.e, M.l, M.r, M.w, M.z, M.zt⟩
theorem ManSt.setG {vg' : Value} {lc' : List NdC} {gr' : List Gr.Nd} (M : ManSt w0 Z T A B W cs vo vg ve vl os lc gr es ls s) (h : NodesOwn w0.heap.size W vg' lc') (hi : NodesIn w0.heap.size W lc' gr') : ManSt w0 Z T A B W cs vo vg' ve vl os lc' gr' es ls s := ⟨M.t, M.b, M.o, h, hi, M.e, M.l, M.r, M.w, M.z, M.zt⟩
theorem NodesIn.lower {base base' : Nat} {w : World} {lc : List NdC} {l : List Gr.Nd} (h : NodesIn base w lc l) (hb : base' ≤ base) : NodesIn base' w lc l := Rel.mono (fun c s ⟨h1, h2⟩ => ⟨h1, h2.low hb⟩) h
theorem ManSt.neE (M : ManSt w0 Z T A B W cs vo vg ve vl os lc gr es ls s) {N : Nat} (h : W.heap.size ≤ N) : ve.ownBlock ≠ some N ∧ vl.ownBlock ≠ some N := by
  refine ⟨fun e => ?_, fun e => ?_⟩
  · obtain ⟨-, x, hx⟩ := OwnAt.block M.e e
    have := heap_lt hx
    omega
  · obtain ⟨-, x, hx⟩ := OwnAt.block M.l e
    have := heap_lt hx
    omega
end

theorem infoLn : (Tryz.prog.info? 127).map (fun i => (i.zero, i.size, i.bytes)) = some (some (.agg #[.int .i64 0, .int .i64 0, .int .i64 0, .int .i64 0, .int .i64 0]), 5, 40) := by kernel_rfl
theorem ln_at (W : World) (x : Gr.Ln) (t : TypeId) (b : Nat) {c : Array Value} (hc : c = (encLn x).toArray) (hb : b = W.heap.size) : ∀ j u, (([x] : List Gr.Ln).flatMap encLn)[j]? = some u → (W.alloc (.cells c t)).cell? ⟨b, j, none⟩ = some u := by
  subst hc
  intro j u hu
  rw [new_cells W _ t b hb j]
  simpa using hu
theorem rd_new2 (w : World) (ob : Obj) (s : List UInt8) : RdAt w.heap.size (w.heap.size + 1 + 1) (w.heap.size + 1) (((w.alloc ob).alloc (.cells #[.string ⟨s.toArray⟩] 217)).alloc (.cells #[.pointer (some ⟨w.heap.size + 1, 0, none⟩), .int .i64 0] 165)) (s, 0) := by
  have h := rd_new (w.alloc ob) s
  rw [World.size_alloc] at h
  exact ⟨by omega, h.2.1, by omega, h.2.2.2⟩
theorem butTwo {N i j : Nat} {W : World} {a b : Value} : But N W ((W.setCell ⟨N, i, none⟩ a).setCell ⟨N, j, none⟩ b) := fun q hq => by rw [set_other (fun e => hq e.symm), set_other (fun e => hq e.symm)]
def zeroMg : Gr.Mf := ⟨0, 0, [], [], [], [], []⟩
noncomputable def getMB (s : List UInt8) : Gr.Mf × Int :=
  if endE (Gr.manS getL (s, 0)).2 true ≠ 0 then (zeroMg, endE (Gr.manS getL (s, 0)).2 true) else if rightB (Gr.manS getL (s, 0)).1 = true then ((Gr.manS getL (s, 0)).1, 0) else (zeroMg, 1)
theorem endE_same {s s' : Gr.Rs} (h : s'.2 = s.2) (h2 : s'.2 = 0 → s' = s) : endE s' true = endE s true := by
  by_cases h0 : s'.2 = 0
  · rw [h2 h0]
  · unfold endE
    rw [if_pos h0, if_pos (by rw [← h]; exact h0), h]
structure MfOwn (base : Nat) (w : World) (c : MfC) (m : Gr.Mf) : Prop where
  epoch : m.epoch = c.epoch
  plans : m.plans = c.plans
  o : OwnAt base 3 1 encN w (.slice c.ao c.no c.co) m.offs
  g : ∃ lc, NodesOwn base w (.slice c.ag c.ng c.cg) lc ∧ NodesIn base w lc m.graph
  e : OwnAt base 120 6 encEn w (.slice c.ae c.ne c.ce) m.ents
  x : OwnAt base 127 5 encLn w (.slice c.ax c.nx c.cx) m.out
  p : ∃ lp, StepsOwn base w (.slice c.ap c.np c.cp) lp ∧ StepsIn base w lp m.plan
theorem MfOwn.is {base : Nat} {w : World} {c : MfC} {m : Gr.Mf} (h : MfOwn base w c m) : MfIs w c m := by
  obtain ⟨lc, h1, h2⟩ := h.g
  obtain ⟨lp, h3, h4⟩ := h.p
  exact ⟨h.epoch, h.plans, OwnAt.rows h.o encN_len, h2.at h1, OwnAt.rows h.e encEn_len, OwnAt.rows h.x encLn_len, h4.at h3⟩
theorem mf_zero (base : Nat) (w : World) : MfOwn base w ⟨0, 0, none, 0, 0, none, 0, 0, none, 0, 0, none, 0, 0, none, 0, 0⟩ zeroMg := ⟨rfl, rfl, OwnAt.nil w, ⟨[], OwnAt.nil w, trivial⟩, OwnAt.nil w, OwnAt.nil w, ⟨[], OwnAt.nil w, trivial⟩⟩
theorem StepsIn.sameT {base : Nat} {w w' : World} {lc : List StC} {l : List Gr.Stp} (h : StepsIn base w lc l) (h1 : Same 3 w w') (h2 : Same 190 w w') : StepsIn base w' lc l :=
  Rel.mono (fun c n ⟨a, o⟩ => by
    have o' : OwnsNd base w' c.c n.nd := ⟨OwnAt.sameT o.1 h1, OwnAt.sameT o.2 h2⟩
    exact ⟨⟨a.kind, o'.is a.nd, a.reset⟩, o'⟩) h
theorem mf_done {w0 : World} {Z T A B : Nat} {W W' : World} {cs : Array Value} {ep pl : Int} {a3 a5 a8 a10 a11 : Option Addr} {n3 n5 n8 n10 n11 b3 b5 b8 b10 b11 : Nat} {os : List Int} {lc : List NdC} {gr : List Gr.Nd} {es : List Tab.En} {ls : List Gr.Ln} {s : Gr.Rs} {lp : List StC} {p : List Gr.Stp}
    (M : ManSt w0 Z T A B W cs (.slice a3 n3 b3) (.slice a5 n5 b5) (.slice a8 n8 b8) (.slice a10 n10 b10) os lc gr es ls s) (ho : StepsOwn w0.heap.size W (.slice a11 n11 b11) lp) (hi : StepsIn w0.heap.size W lp p) (hS : ∀ u, 51 ≠ u → Same u W W') :
    MfOwn w0.heap.size W' ⟨ep, pl, a3, n3, b3, a5, n5, b5, a8, n8, b8, a10, n10, b10, a11, n11, b11⟩ ⟨ep, pl, os, gr, es, ls, p⟩ :=
  ⟨rfl, rfl, OwnAt.sameT M.o (hS _ (by decide)), ⟨_, OwnAt.sameT M.g (hS _ (by decide)), M.gi.sameT (hS _ (by decide)) (hS _ (by decide))⟩, OwnAt.sameT M.e (hS _ (by decide)), OwnAt.sameT M.l (hS _ (by decide)), ⟨_, OwnAt.sameT ho (hS _ (by decide)), hi.sameT (hS _ (by decide)) (hS _ (by decide))⟩⟩
theorem Same.refl (t : TypeId) (W : World) : Same t W W := fun _ _ _ => rfl
theorem Same.trans {t : TypeId} {a b c : World} (h : Same t a b) (k : Same t b c) : Same t a c := fun q x hq => by
  have e := h q x hq
  rw [← e]
  exact k q x (by rw [e]; exact hq)
theorem Same.grew {t : TypeId} {W W' : World} (g : Grew W W') : Same t W W' := fun _ _ h => (grew_heap g h).trans h.symm
theorem man_set7 {W : World} {q : Nat} {t : TypeId} {u0 u1 u2 u3 u4 u5 u6 : Value} (h : W.heap[q]? = some (.cells #[u0, u1, u2, u3, u4, u5, u6] t)) (v0 v1 v2 v3 v4 v5 v6 : Value) : (((((((W.setCell ⟨q, 0, none⟩ v0).setCell ⟨q, 1, none⟩ v1).setCell ⟨q, 2, none⟩ v2).setCell ⟨q, 3, none⟩ v3).setCell ⟨q, 4, none⟩ v4).setCell ⟨q, 5, none⟩ v5).setCell ⟨q, 6, none⟩ v6).heap[q]? = some (.cells #[v0, v1, v2, v3, v4, v5, v6] t) := by
  have h0 := set_self (o := 0) (v := v0) h
  simp at h0
  have h1 := set_self (o := 1) (v := v1) h0
  simp at h1
  have h2 := set_self (o := 2) (v := v2) h1
  simp at h2
  have h3 := set_self (o := 3) (v := v3) h2
  simp at h3
  have h4 := set_self (o := 4) (v := v4) h3
  simp at h4
  have h5 := set_self (o := 5) (v := v5) h4
  simp at h5
  have h6 := set_self (o := 6) (v := v6) h5
  simp at h6
  exact h6
theorem but7 {N : Nat} {W : World} {a b c d e f g : Value} : But N W (((((((W.setCell ⟨N, 0, none⟩ a).setCell ⟨N, 1, none⟩ b).setCell ⟨N, 2, none⟩ c).setCell ⟨N, 3, none⟩ d).setCell ⟨N, 4, none⟩ e).setCell ⟨N, 5, none⟩ f).setCell ⟨N, 6, none⟩ g) := fun q hq => by iterate 7 rw [set_other (fun e => hq e.symm)]
theorem Grew.set7 {w0 W : World} {N : Nat} (g0 : Grew w0 W) (hb : w0.heap.size ≤ N) {a b c d e f g : Value} : Grew w0 (((((((W.setCell ⟨N, 0, none⟩ a).setCell ⟨N, 1, none⟩ b).setCell ⟨N, 2, none⟩ c).setCell ⟨N, 3, none⟩ d).setCell ⟨N, 4, none⟩ e).setCell ⟨N, 5, none⟩ f).setCell ⟨N, 6, none⟩ g) := by
  iterate 7 refine Grew.set ?_ hb _
  exact g0
def GetMOPost (r : Gr.Mf × Int) (w : World) (e : Ending) (w' : World) : Prop := ∃ c : MfC, e = .returned (.tuple #[.agg #[.int .i64 c.epoch, .int .i64 c.plans, .slice c.ao c.no c.co, .slice c.ag c.ng c.cg, .slice c.ae c.ne c.ce, .slice c.ax c.nx c.cx, .slice c.ap c.np c.cp], .int .i64 r.2]) ∧ MfOwn w.heap.size w' c r.1 ∧ Grew w w'
theorem getManO_any (s : List UInt8) (w : World) (hs : s.length ≤ 100000) : Calls Tryz.prog 42 #[.string ⟨s.toArray⟩] w (GetMOPost (getMB s) w) := by
  have n1 := fun W h g => rdNum_any w (w.heap.size + 1 + 1) (w.heap.size + 1) (s, 0) 0 2147483647 W h g (by simp only; omega)
  have z1 := numS_len 0 2147483647 (s, 0)
  obtain ⟨ep, s1, e1⟩ : ∃ x t, Gr.numS 0 2147483647 (s, 0) = (x, t) := ⟨_, _, rfl⟩
  rw [e1] at n1 z1
  simp only at z1
  have n2 := fun W h g => rdNum_any w (w.heap.size + 1 + 1) (w.heap.size + 1) s1 0 2147483647 W h g (by omega)
  have z2 := numS_len 0 2147483647 s1
  obtain ⟨pl, s2, e2⟩ : ∃ x t, Gr.numS 0 2147483647 s1 = (x, t) := ⟨_, _, rfl⟩
  rw [e2] at n2 z2
  simp only at z2
  have n3 := fun W h g => rdList_any w (w.heap.size + 1 + 1) (w.heap.size + 1) s2 3 0 400 W h g (by omega) (by decide) (by decide)
  have z3 := numS_len 0 3 s2
  obtain ⟨c3, s3, e3⟩ : ∃ x t, Gr.numS 0 3 s2 = (x, t) := ⟨_, _, rfl⟩
  rw [e3] at n3 z3
  simp only at z3 n3
  have z4 := (listS_len 0 400 c3.toNat s3).2
  obtain ⟨os, s4, e4⟩ : ∃ x t, Gr.listS 0 400 c3.toNat s3 = (x, t) := ⟨_, _, rfl⟩
  rw [e4] at n3 z4
  simp only at z4 n3
  have n5 := fun W h g => rdNodes_any w (w.heap.size + 1 + 1) (w.heap.size + 1) s4 W h g (by omega)
  have z5 := numS_len 0 8 s4
  obtain ⟨c5, s5, e5⟩ : ∃ x t, Gr.numS 0 8 s4 = (x, t) := ⟨_, _, rfl⟩
  rw [e5] at n5 z5
  simp only at z5 n5
  have z6 := (nodesS_len 1 c5.toNat s5).2
  have q6 := nodesS_small 1 c5.toNat s5
  obtain ⟨gr, s6, e6⟩ : ∃ x t, Gr.nodesS getL 1 c5.toNat s5 = (x, t) := ⟨_, _, rfl⟩
  rw [e6] at n5 z6 q6
  simp only at z6 n5 q6
  have n7 := fun W h g => rdNum_any w (w.heap.size + 1 + 1) (w.heap.size + 1) s6 0 512 W h g (by omega)
  have z7 := numS_len 0 512 s6
  have r7 := numS_range (a := 0) (b := 512) s6 (by decide) (by decide)
  obtain ⟨c7, s7, e7⟩ : ∃ x t, Gr.numS 0 512 s6 = (x, t) := ⟨_, _, rfl⟩
  rw [e7] at n7 z7 r7
  simp only at z7 r7
  obtain ⟨N, rfl⟩ : ∃ N : Nat, c7 = N := ⟨c7.toNat, by omega⟩
  have l8 := (manyS_len enS_len N s7).1
  have z8 := (manyS_len enS_len N s7).2
  obtain ⟨es, s8, e8⟩ : ∃ x t, Gr.manyS Gr.enS N s7 = (x, t) := ⟨_, _, rfl⟩
  rw [e8] at z8 l8
  simp only at z8 l8
  have n9 := fun W h g => rdNum_any w (w.heap.size + 1 + 1) (w.heap.size + 1) s8 0 4000 W h g (by omega)
  have z9 := numS_len 0 4000 s8
  have r9 := numS_range (a := 0) (b := 4000) s8 (by decide) (by decide)
  obtain ⟨c9, s9, e9⟩ : ∃ x t, Gr.numS 0 4000 s8 = (x, t) := ⟨_, _, rfl⟩
  rw [e9] at n9 z9 r9
  simp only at z9 r9
  obtain ⟨N2, rfl⟩ : ∃ N2 : Nat, c9 = N2 := ⟨c9.toNat, by omega⟩
  have z10 := (manyS_len lnS_len N2 s9).2
  have l10 := (manyS_len lnS_len N2 s9).1
  obtain ⟨ls, s10, e10⟩ : ∃ x t, Gr.manyS Gr.lnS N2 s9 = (x, t) := ⟨_, _, rfl⟩
  rw [e10] at z10 l10
  simp only at z10 l10
  have n11 := fun W h g => rdPlan_any w (w.heap.size + 1 + 1) (w.heap.size + 1) s10 W h g (by omega)
  have q11 := plS_small s10
  obtain ⟨p, s11, e11⟩ : ∃ x t, Gr.plS getL s10 = (x, t) := ⟨_, _, rfl⟩
  rw [e11] at n11 q11
  simp only at q11
  have hm := manS_eq e1 e2 e3 e4 e5 e6 e7 (by rw [Int.toNat_natCast]; exact e8) e9 (by rw [Int.toNat_natCast]; exact e10) e11
  have HG0 : Hid (getMB s = if endE s11 true ≠ 0 then (zeroMg, endE s11 true) else if rightB ⟨ep, pl, os, gr, es, ls, p⟩ = true then (⟨ep, pl, os, gr, es, ls, p⟩, 0) else (zeroMg, 1)) := Lib.hid (by unfold getMB; rw [hm])
  have HRT := Lib.hid fun c W (h : MfIs W c ⟨ep, pl, os, gr, es, ls, p⟩) => manRight_any c ⟨ep, pl, os, gr, es, ls, p⟩ W h (fun x hx => by have := q6 x hx; omega) (fun x hx => by have := q11 x hx; omega) (by simp only; omega)
  have HN1 := Lib.hid n1
  have HN2 := Lib.hid n2
  have HN3 := Lib.hid n3
  have HN5 := Lib.hid n5
  have HN7 := Lib.hid n7
  have HN9 := Lib.hid n9
  have HN11 := Lib.hid n11
  have HE8 := Lib.hid e8
  have HE10 := Lib.hid e10
  have HL8 := Lib.hid l8
  have HL10 := Lib.hid l10
  have ls7 : s7.1.length ≤ 1000000 := by omega
  have ls9 : s9.1.length ≤ 1000000 := by omega
  clear n1 n2 n3 n5 n7 n9 n11 e1 e2 e3 e4 e5 e6 e7 e8 e9 e10 e11 hm q6 q11 z1 z2 z3 z4 z5 z6 z7 z8 z9 z10 l8 l10
  have HRD := Lib.hid (rd_new2 w (.cells zeroM 51) s)
  have HZ0 := Lib.hid (heap_new_at w (.cells zeroM 51) _ rfl)
  unfold zeroM at HRD HZ0
  go_enter Tryz.func42, Tryz.ntmps42
  go_wp2_with fail
  refine (octNew_any s _).mono ?_
  rintro e w1 ⟨rfl, rfl⟩
  go_wp2_with fail
  refine (HN1.out _ HRD.out (by repeat (first | with_reducible exact Grew.refl _ | apply Grew.more | apply Grew.alloc | apply Grew.drew | apply Grew.drewN))).mono ?_
  rintro e W1 ⟨rfl, r1, g1, k1⟩
  have R1 := Lib.hid r1
  have G1 := Lib.hid g1
  have Z1 := Lib.hid ((k1.2 w.heap.size (by simp [go_sem]) (by omega) (by omega)).trans (grew_heap (by repeat (first | with_reducible exact Grew.refl _ | apply Grew.more | apply Grew.alloc | apply Grew.drew | apply Grew.drewN)) HZ0.out))
  clear r1 g1 k1
  go_wp2_with fail
  refine (HN2.out _ R1.out G1.out).mono ?_
  rintro e W2 ⟨rfl, r2, g2, k2⟩
  have M2 : ManSt w w.heap.size W2.heap.size (w.heap.size + 1 + 1) (w.heap.size + 1) (W2.alloc (.cells #[.int .i64 ep, .int .i64 pl, .slice none 0 0, .slice none 0 0, .slice none 0 0, .slice none 0 0, .slice none 0 0] 51)) #[.int .i64 ep, .int .i64 pl, .slice none 0 0, .slice none 0 0, .slice none 0 0, .slice none 0 0, .slice none 0 0] (.slice none 0 0) (.slice none 0 0) (.slice none 0 0) (.slice none 0 0) [] [] [] [] [] s2 := by
    have hwl := heap_lt Z1.out
    exact ⟨heap_new_at _ _ _ rfl, g2.below.size, OwnAt.nil _, OwnAt.nil _, trivial, OwnAt.nil _, OwnAt.nil _, r2.grew (by repeat (first | with_reducible exact Grew.refl _ | apply Grew.more | apply Grew.alloc | apply Grew.drew | apply Grew.drewN)), g2.trans (by repeat (first | with_reducible exact Grew.refl _ | apply Grew.more | apply Grew.alloc | apply Grew.drew | apply Grew.drewN)), grew_heap (by repeat (first | with_reducible exact Grew.refl _ | apply Grew.more | apply Grew.alloc | apply Grew.drew | apply Grew.drewN)) ((k2.2 w.heap.size hwl (by omega) (by omega)).trans Z1.out), by have := k2.1; omega⟩
  have HM2 := Lib.hid M2
  have T := W2.heap.size
  clear r2 g2 k2 M2
  go_wp2_with fail
  refine (HN3.out _ HM2.out.r HM2.out.w).mono ?_
  rintro e W3 ⟨v3, rfl, o3, r3, g3, k3⟩
  obtain ⟨a3, b3, rfl⟩ := (OwnAt.rows o3 encN_len).len
  have M3 := (HM2.out.keep2 k3 r3 g3).setO (OwnAt.low o3 (by rw [World.size_alloc]; have := HM2.out.w.below.size; rw [World.size_alloc] at this; exact this))
  have hwl : w.heap.size ≤ W2.heap.size := HM2.out.b
  clear o3 r3 g3 k3 HM2
  have x0 := cell_of (o := 0) M3.t
  have xf0 := frozen_of (o := 0) M3.t
  have x1 := cell_of (o := 1) M3.t
  have xf1 := frozen_of (o := 1) M3.t
  have x2 := cell_of (o := 2) M3.t
  have xf2 := frozen_of (o := 2) M3.t
  have x3 := cell_of (o := 3) M3.t
  have xf3 := frozen_of (o := 3) M3.t
  have x4 := cell_of (o := 4) M3.t
  have xf4 := frozen_of (o := 4) M3.t
  have x5 := cell_of (o := 5) M3.t
  have xf5 := frozen_of (o := 5) M3.t
  have x6 := cell_of (o := 6) M3.t
  have xf6 := frozen_of (o := 6) M3.t
  simp [zeroM] at x0 x1 x2 x3 x4 x5 x6
  have xp := Pre.mk (heap_lt M3.t)
  have P3 := Lib.hid (M3.put (i := 2) (v := .slice a3 os.length b3))
  clear M3
  go_wp2_with fail
  obtain ⟨W4, hW4⟩ : ∃ W4, W3.setCell ⟨W2.heap.size, 2, none⟩ (.slice a3 os.length b3) = W4 := ⟨_, rfl⟩
  rw [hW4] at P3 ⊢
  clear hW4
  clear x0 xf0 x1 xf1 x2 xf2 x3 xf3 x4 xf4 x5 xf5 x6 xf6 xp
  refine (HN5.out _ P3.out.r P3.out.w).mono ?_
  rintro e W5 ⟨v5, lc, rfl, o5, i5, r5, g5, k5⟩
  obtain ⟨a5, b5, rfl⟩ := (OwnAt.rows o5 encNd_len).len
  have M5 := (P3.out.keep2 k5 r5 g5).setG (OwnAt.low o5 P3.out.w.below.size) (i5.lower P3.out.w.below.size)
  simp at M5
  clear o5 r5 g5 k5 i5 P3
  have x0 := cell_of (o := 0) M5.t
  have xf0 := frozen_of (o := 0) M5.t
  have x1 := cell_of (o := 1) M5.t
  have xf1 := frozen_of (o := 1) M5.t
  have x2 := cell_of (o := 2) M5.t
  have xf2 := frozen_of (o := 2) M5.t
  have x3 := cell_of (o := 3) M5.t
  have xf3 := frozen_of (o := 3) M5.t
  have x4 := cell_of (o := 4) M5.t
  have xf4 := frozen_of (o := 4) M5.t
  have x5 := cell_of (o := 5) M5.t
  have xf5 := frozen_of (o := 5) M5.t
  have x6 := cell_of (o := 6) M5.t
  have xf6 := frozen_of (o := 6) M5.t
  simp [zeroM] at x0 x1 x2 x3 x4 x5 x6
  have xp := Pre.mk (heap_lt M5.t)
  have P5 := Lib.hid (M5.put (i := 3) (v := .slice a5 lc.length b5))
  clear M5
  go_wp2_with fail
  obtain ⟨W6, hW6⟩ : ∃ W6, W5.setCell ⟨W2.heap.size, 3, none⟩ (.slice a5 lc.length b5) = W6 := ⟨_, rfl⟩
  rw [hW6] at P5 ⊢
  clear hW6
  clear x0 xf0 x1 xf1 x2 xf2 x3 xf3 x4 xf4 x5 xf5 x6 xf6 xp
  refine (HN7.out _ P5.out.r P5.out.w).mono ?_
  rintro e W7 ⟨rfl, r7, g7, k7⟩
  have M7 := P5.out.keep2 k7 r7 g7
  simp at M7
  have HM7 := Lib.hid M7
  clear r7 g7 k7 P5 M7
  go_wp2
  clear hwl
  go_loopg [26] N (fun gg s26 wr => ∃ (k : Nat) (ve : Value), k ≤ N ∧ N - k ≤ gg ∧ s26 = .int .i64 k ∧ Hid (ManSt w w.heap.size W2.heap.size (w.heap.size + 1 + 1) (w.heap.size + 1) wr #[.int .i64 ep, .int .i64 pl, .slice a3 os.length b3, .slice a5 lc.length b5, ve, .slice none 0 0, .slice none 0 0] (.slice a3 os.length b3) (.slice a5 lc.length b5) ve (.slice none 0 0) os lc gr (Gr.manyS Gr.enS k s7).1 [] (Gr.manyS Gr.enS k s7).2))
  case atStart => exact ⟨0, _, by omega, by omega, rfl, HM7⟩
  case round =>
    obtain ⟨k, ve, hk, hgg, rfl, HM⟩ := hrel
    by_cases hlt : k < N
    · skip
      obtain ⟨lk1, lk2⟩ := manyS_len enS_len k s7
      have hsc := manyS_succ Gr.enS k s7
      generalize Gr.manyS Gr.enS k s7 = LS at *
      obtain ⟨xs, t0⟩ := LS
      simp only at lk1 lk2 hsc HM
      obtain ⟨ak, ck, rfl⟩ := (OwnAt.rows HM.out.e encEn_len).len
      have m1 := fun W h g => rdNum_any w (w.heap.size + 1 + 1) (w.heap.size + 1) t0 0 7 W h g (by omega)
      have y1 := numS_len 0 7 t0
      obtain ⟨nd, t1, f1⟩ : ∃ x t, Gr.numS 0 7 t0 = (x, t) := ⟨_, _, rfl⟩
      rw [f1] at m1 y1
      simp only at y1
      have m2 := fun W h g => rdNum_any w (w.heap.size + 1 + 1) (w.heap.size + 1) t1 0 63 W h g (by omega)
      have y2 := numS_len 0 63 t1
      obtain ⟨ky, t2, f2⟩ : ∃ x t, Gr.numS 0 63 t1 = (x, t) := ⟨_, _, rfl⟩
      rw [f2] at m2 y2
      simp only at y2
      have m4 := fun W h g => rdVal_any w (w.heap.size + 1 + 1) (w.heap.size + 1) t2 W h g (by omega)
      have y4 := valS_len t2
      obtain ⟨⟨p0, q0⟩, t3, f4⟩ : ∃ x t, Gr.valS t2 = (x, t) := ⟨_, _, rfl⟩
      rw [f4] at m4 y4
      simp only at y4 m4
      have m5 := fun W h g => rdVal_any w (w.heap.size + 1 + 1) (w.heap.size + 1) t3 W h g (by omega)
      have y5 := valS_len t3
      obtain ⟨⟨p1, q1⟩, t4, f5⟩ : ∃ x t, Gr.valS t3 = (x, t) := ⟨_, _, rfl⟩
      rw [f5] at m5 y5
      simp only at y5 m5
      rw [enS_eq f1 f2 f4 f5] at hsc
      simp only at hsc
      have HM1 := Lib.hid m1
      have HM2 := Lib.hid m2
      have HM4 := Lib.hid m4
      have HM5 := Lib.hid m5
      have HSC := Lib.hid hsc
      have HLK := Lib.hid lk1
      clear m1 f1 y1 m2 f2 y2 m4 f4 y4 m5 f5 y5 hsc lk1 lk2
      go_wp2_with fail
      refine (HM1.out _ HM.out.r HM.out.w).mono ?_
      rintro e V1 ⟨rfl, r1, g1, k1⟩
      have Q1 := Lib.hid (HM.out.keep2 k1 r1 g1)
      clear r1 g1 k1
      go_wp2_with fail
      refine (HM2.out _ Q1.out.r Q1.out.w).mono ?_
      rintro e V2 ⟨rfl, r2, g2, k2⟩
      have Q2 := Lib.hid (Q1.out.keep2 k2 r2 g2)
      clear r2 g2 k2
      have hTA : V2.heap.size ≠ (w.heap.size + 1 + 1) := by have := heap_lt Q2.out.r.2.1; omega
      have hTB : V2.heap.size ≠ (w.heap.size + 1) := by have := heap_lt Q2.out.r.2.2.2; omega
      have hTw : w.heap.size ≤ V2.heap.size := Q2.out.w.below.size
      obtain ⟨hve, hvl⟩ := Q2.out.neE (Nat.le_refl _)
      have HVE := Lib.hid hve
      have HVL := Lib.hid hvl
      clear hve hvl
      have H5 := Lib.hid (heap_new_at V2 (.cells #[.int .i64 nd, .int .i64 ky, .int .i64 0, .int .i64 0, .int .i64 0, .int .i64 0] 120) _ rfl)
      go_wp2_with fail
      have Q9 := Lib.hid (Q2.out.grew (by repeat (first | with_reducible exact Grew.refl _ | apply Grew.more | apply Grew.alloc | apply Grew.drew | apply Grew.drewN) : Grew V2 (V2.alloc (.cells #[.int .i64 nd, .int .i64 ky, .int .i64 0, .int .i64 0, .int .i64 0, .int .i64 0] 120))))
      refine (HM4.out _ Q9.out.r Q9.out.w).mono ?_
      rintro e U0 ⟨rfl, r, g, kk⟩
      have QA0 := Lib.hid (Q9.out.keep2 kk r g)
      have h5 := (kk.2 V2.heap.size (heap_lt H5.out) hTA hTB).trans H5.out
      clear r g kk
      have c0 := cell_of (o := 0) h5
      have cf0 := frozen_of (o := 0) h5
      have c1 := cell_of (o := 1) h5
      have cf1 := frozen_of (o := 1) h5
      have c2 := cell_of (o := 2) h5
      have cf2 := frozen_of (o := 2) h5
      have c3 := cell_of (o := 3) h5
      have cf3 := frozen_of (o := 3) h5
      have c4 := cell_of (o := 4) h5
      have cf4 := frozen_of (o := 4) h5
      have c5 := cell_of (o := 5) h5
      have cf5 := frozen_of (o := 5) h5
      simp [zeroM] at c0 c1 c2 c3 c4 c5
      have cp := Pre.mk (heap_lt h5)
      go_wp2_with fail
      obtain ⟨S0, hS0⟩ : ∃ S, (U0.setCell ⟨V2.heap.size, 2, none⟩ (.int .i64 p0)).setCell ⟨V2.heap.size, 3, none⟩ (.int .i64 q0) = S := ⟨_, rfl⟩
      have h6 := set_self (o := 3) (v := .int .i64 q0) (set_self (o := 2) (v := .int .i64 p0) h5)
      simp at h6
      have hg6 := (QA0.out.w.set hTw (.int .i64 p0) (o := 2)).set hTw (.int .i64 q0) (o := 3)
      have QB0 := Lib.hid (QA0.out.new butTwo h5 (.inl rfl) HVE.out HVL.out hg6)
      rw [hS0] at h6 QB0
      first | rw [hS0] | skip
      have HC0 := Lib.hid h6
      clear hg6 h6 h5 hS0
      clear c0 cf0 c1 cf1 c2 cf2 c3 cf3 c4 cf4 c5 cf5 cp
      refine (HM5.out _ QB0.out.r QB0.out.w).mono ?_
      rintro e U1 ⟨rfl, r, g, kk⟩
      have QA1 := Lib.hid (QB0.out.keep2 kk r g)
      have h5 := (kk.2 V2.heap.size (heap_lt HC0.out) hTA hTB).trans HC0.out
      clear r g kk
      have c0 := cell_of (o := 0) h5
      have cf0 := frozen_of (o := 0) h5
      have c1 := cell_of (o := 1) h5
      have cf1 := frozen_of (o := 1) h5
      have c2 := cell_of (o := 2) h5
      have cf2 := frozen_of (o := 2) h5
      have c3 := cell_of (o := 3) h5
      have cf3 := frozen_of (o := 3) h5
      have c4 := cell_of (o := 4) h5
      have cf4 := frozen_of (o := 4) h5
      have c5 := cell_of (o := 5) h5
      have cf5 := frozen_of (o := 5) h5
      simp [zeroM] at c0 c1 c2 c3 c4 c5
      have cp := Pre.mk (heap_lt h5)
      go_upto_region 10 with fail
      obtain ⟨S1, hS1⟩ : ∃ S, (U1.setCell ⟨V2.heap.size, 4, none⟩ (.int .i64 p1)).setCell ⟨V2.heap.size, 5, none⟩ (.int .i64 q1) = S := ⟨_, rfl⟩
      have h6 := set_self (o := 5) (v := .int .i64 q1) (set_self (o := 4) (v := .int .i64 p1) h5)
      simp at h6
      have hg6 := (QA1.out.w.set hTw (.int .i64 p1) (o := 4)).set hTw (.int .i64 q1) (o := 5)
      have QB1 := Lib.hid (QA1.out.new butTwo h5 (.inl rfl) HVE.out HVL.out hg6)
      rw [hS1] at h6 QB1
      first | rw [hS1] | skip
      have HC1 := Lib.hid h6
      clear hg6 h6 h5 hS1
      clear c0 cf0 c1 cf1 c2 cf2 c3 cf3 c4 cf4 c5 cf5 cp
      have c0 := cell_of (o := 0) HC1.out
      have cf0 := frozen_of (o := 0) HC1.out
      have c1 := cell_of (o := 1) HC1.out
      have cf1 := frozen_of (o := 1) HC1.out
      have c2 := cell_of (o := 2) HC1.out
      have cf2 := frozen_of (o := 2) HC1.out
      have c3 := cell_of (o := 3) HC1.out
      have cf3 := frozen_of (o := 3) HC1.out
      have c4 := cell_of (o := 4) HC1.out
      have cf4 := frozen_of (o := 4) HC1.out
      have c5 := cell_of (o := 5) HC1.out
      have cf5 := frozen_of (o := 5) HC1.out
      simp [zeroM] at c0 c1 c2 c3 c4 c5
      have cp := Pre.mk (heap_lt HC1.out)
      have x0 := cell_of (o := 0) QB1.out.t
      have xf0 := frozen_of (o := 0) QB1.out.t
      have x1 := cell_of (o := 1) QB1.out.t
      have xf1 := frozen_of (o := 1) QB1.out.t
      have x2 := cell_of (o := 2) QB1.out.t
      have xf2 := frozen_of (o := 2) QB1.out.t
      have x3 := cell_of (o := 3) QB1.out.t
      have xf3 := frozen_of (o := 3) QB1.out.t
      have x4 := cell_of (o := 4) QB1.out.t
      have xf4 := frozen_of (o := 4) QB1.out.t
      have x5 := cell_of (o := 5) QB1.out.t
      have xf5 := frozen_of (o := 5) QB1.out.t
      have x6 := cell_of (o := 6) QB1.out.t
      have xf6 := frozen_of (o := 6) QB1.out.t
      simp [zeroM] at x0 x1 x2 x3 x4 x5 x6
      have xp := Pre.mk (heap_lt QB1.out.t)
      skip
      go_wp2_with (at_builtin; go_loud (refine wpList_ownK (w0 := w) rfl (.tmp 42) (.tmp 44) 48 _ _ _ _ [⟨nd, ky, (p0, q0), (p1, q1)⟩] rfl Tryz.underlying48 infoEn rfl (by decide) encEn_len encEn_one rfl (OwnAt.grew QB1.out.e (by repeat (first | with_reducible exact Grew.refl _ | apply Grew.more | apply Grew.alloc | apply Grew.drew | apply Grew.drewN))) (QB1.out.w.trans (by repeat (first | with_reducible exact Grew.refl _ | apply Grew.more | apply Grew.alloc | apply Grew.drew | apply Grew.drewN))) rfl (en_at _ _ _ _ rfl (by simp [go_sem])) (by simp [HLK.out]; omega) (by decide) (by simp) ?_; intro v5 W5 hA; obtain ⟨a9, b9, rfl⟩ := (OwnAt.rows hA.2.1 encEn_len).len; (have QC := Lib.hid ((QB1.out.grew (by repeat (first | with_reducible exact Grew.refl _ | apply Grew.more | apply Grew.alloc | apply Grew.drew | apply Grew.drewN))).appE hA)); (have d4 := cell_of (o := 4) QC.out.t); (have e4 := frozen_of (o := 4) QC.out.t); (have pe4 := Pre.mk (heap_lt QC.out.t)); simp at d4; clear hA))
      have QD := Lib.hid (QC.out.put (i := 4) (v := .slice a9 (xs ++ [(⟨nd, ky, (p0, q0), (p1, q1)⟩ : Tab.En)]).length b9))
      simp at QD
      go_roundg (N - (k + 1))
      case measure => omega
      case rel => exact ⟨k + 1, .slice a9 (xs.length + 1) b9, by omega, by omega, by go_num, Lib.hid (by rw [HSC.out]; have := QD.out; simpa using this)⟩
    · obtain rfl : k = N := by omega
      rw [HE8.out] at HM
      simp only at HM
      obtain ⟨a8, b8, rfl⟩ := (OwnAt.rows HM.out.e encEn_len).len
      go_wp2_with fail
      refine (HN9.out _ HM.out.r HM.out.w).mono ?_
      rintro e W9 ⟨rfl, r9, g9, k9⟩
      have HM9 := Lib.hid (HM.out.keep2 k9 r9 g9)
      clear r9 g9 k9 HM
      go_wp2
      go_loopg [50] N2 (fun gg s50 wq => ∃ (k : Nat) (vl : Value), k ≤ N2 ∧ N2 - k ≤ gg ∧ s50 = .int .i64 k ∧ Hid (ManSt w w.heap.size W2.heap.size (w.heap.size + 1 + 1) (w.heap.size + 1) wq #[.int .i64 ep, .int .i64 pl, .slice a3 os.length b3, .slice a5 lc.length b5, .slice a8 es.length b8, vl, .slice none 0 0] (.slice a3 os.length b3) (.slice a5 lc.length b5) (.slice a8 es.length b8) vl os lc gr es (Gr.manyS Gr.lnS k s9).1 (Gr.manyS Gr.lnS k s9).2))
      case atStart => exact ⟨0, _, by omega, by omega, rfl, HM9⟩
      case round =>
        obtain ⟨k, vl, hk, hgg, rfl, HM⟩ := hrel
        by_cases hlt : k < N2
        · skip
          obtain ⟨lk1, lk2⟩ := manyS_len lnS_len k s9
          have hsc := manyS_succ Gr.lnS k s9
          generalize Gr.manyS Gr.lnS k s9 = LS at *
          obtain ⟨xs, t0⟩ := LS
          simp only at lk1 lk2 hsc HM
          obtain ⟨ak, ck, rfl⟩ := (OwnAt.rows HM.out.l encLn_len).len
          have m1 := fun W h g => rdNum_any w (w.heap.size + 1 + 1) (w.heap.size + 1) t0 0 7 W h g (by omega)
          have y1 := numS_len 0 7 t0
          obtain ⟨si, t1, f1⟩ : ∃ x t, Gr.numS 0 7 t0 = (x, t) := ⟨_, _, rfl⟩
          rw [f1] at m1 y1
          simp only at y1
          have m2 := fun W h g => rdNum_any w (w.heap.size + 1 + 1) (w.heap.size + 1) t1 0 7 W h g (by omega)
          have y2 := numS_len 0 7 t1
          obtain ⟨fr, t2, f2⟩ : ∃ x t, Gr.numS 0 7 t1 = (x, t) := ⟨_, _, rfl⟩
          rw [f2] at m2 y2
          simp only at y2
          have m3 := fun W h g => rdNum_any w (w.heap.size + 1 + 1) (w.heap.size + 1) t2 0 63 W h g (by omega)
          have y3 := numS_len 0 63 t2
          obtain ⟨ky, t3, f3⟩ : ∃ x t, Gr.numS 0 63 t2 = (x, t) := ⟨_, _, rfl⟩
          rw [f3] at m3 y3
          simp only at y3
          have m4 := fun W h g => rdVal_any w (w.heap.size + 1 + 1) (w.heap.size + 1) t3 W h g (by omega)
          have y4 := valS_len t3
          obtain ⟨⟨p0, q0⟩, t4, f4⟩ : ∃ x t, Gr.valS t3 = (x, t) := ⟨_, _, rfl⟩
          rw [f4] at m4 y4
          simp only at y4 m4
          rw [lnS_eq f1 f2 f3 f4] at hsc
          simp only at hsc
          have HM1 := Lib.hid m1
          have HM2 := Lib.hid m2
          have HM3 := Lib.hid m3
          have HM4 := Lib.hid m4
          have HSC := Lib.hid hsc
          have HLK := Lib.hid lk1
          clear m1 f1 y1 m2 f2 y2 m3 f3 y3 m4 f4 y4 hsc lk1 lk2
          go_wp2_with fail
          refine (HM1.out _ HM.out.r HM.out.w).mono ?_
          rintro e V1 ⟨rfl, r1, g1, k1⟩
          have Q1 := Lib.hid (HM.out.keep2 k1 r1 g1)
          clear r1 g1 k1
          go_wp2_with fail
          refine (HM2.out _ Q1.out.r Q1.out.w).mono ?_
          rintro e V2 ⟨rfl, r2, g2, k2⟩
          have Q2 := Lib.hid (Q1.out.keep2 k2 r2 g2)
          clear r2 g2 k2
          go_wp2_with fail
          refine (HM3.out _ Q2.out.r Q2.out.w).mono ?_
          rintro e V3 ⟨rfl, r3, g3, k3⟩
          have Q3 := Lib.hid (Q2.out.keep2 k3 r3 g3)
          clear r3 g3 k3
          have hTA : V3.heap.size ≠ (w.heap.size + 1 + 1) := by have := heap_lt Q3.out.r.2.1; omega
          have hTB : V3.heap.size ≠ (w.heap.size + 1) := by have := heap_lt Q3.out.r.2.2.2; omega
          have hTw : w.heap.size ≤ V3.heap.size := Q3.out.w.below.size
          obtain ⟨hve, hvl⟩ := Q3.out.neE (Nat.le_refl _)
          have HVE := Lib.hid hve
          have HVL := Lib.hid hvl
          clear hve hvl
          have H5 := Lib.hid (heap_new_at V3 (.cells #[.int .i64 si, .int .i64 fr, .int .i64 ky, .int .i64 0, .int .i64 0] 127) _ rfl)
          go_wp2_with fail
          have Q9 := Lib.hid (Q3.out.grew (by repeat (first | with_reducible exact Grew.refl _ | apply Grew.more | apply Grew.alloc | apply Grew.drew | apply Grew.drewN) : Grew V3 (V3.alloc (.cells #[.int .i64 si, .int .i64 fr, .int .i64 ky, .int .i64 0, .int .i64 0] 127))))
          refine (HM4.out _ Q9.out.r Q9.out.w).mono ?_
          rintro e U0 ⟨rfl, r, g, kk⟩
          have QA0 := Lib.hid (Q9.out.keep2 kk r g)
          have h5 := (kk.2 V3.heap.size (heap_lt H5.out) hTA hTB).trans H5.out
          clear r g kk
          have c0 := cell_of (o := 0) h5
          have cf0 := frozen_of (o := 0) h5
          have c1 := cell_of (o := 1) h5
          have cf1 := frozen_of (o := 1) h5
          have c2 := cell_of (o := 2) h5
          have cf2 := frozen_of (o := 2) h5
          have c3 := cell_of (o := 3) h5
          have cf3 := frozen_of (o := 3) h5
          have c4 := cell_of (o := 4) h5
          have cf4 := frozen_of (o := 4) h5
          simp [zeroM] at c0 c1 c2 c3 c4
          have cp := Pre.mk (heap_lt h5)
          go_upto_region 16 with fail
          obtain ⟨S0, hS0⟩ : ∃ S, (U0.setCell ⟨V3.heap.size, 3, none⟩ (.int .i64 p0)).setCell ⟨V3.heap.size, 4, none⟩ (.int .i64 q0) = S := ⟨_, rfl⟩
          have h6 := set_self (o := 4) (v := .int .i64 q0) (set_self (o := 3) (v := .int .i64 p0) h5)
          simp at h6
          have hg6 := (QA0.out.w.set hTw (.int .i64 p0) (o := 3)).set hTw (.int .i64 q0) (o := 4)
          have QB0 := Lib.hid (QA0.out.new butTwo h5 (.inr rfl) HVE.out HVL.out hg6)
          rw [hS0] at h6 QB0
          first | rw [hS0] | skip
          have HC0 := Lib.hid h6
          clear hg6 h6 h5 hS0
          clear c0 cf0 c1 cf1 c2 cf2 c3 cf3 c4 cf4 cp
          have c0 := cell_of (o := 0) HC0.out
          have cf0 := frozen_of (o := 0) HC0.out
          have c1 := cell_of (o := 1) HC0.out
          have cf1 := frozen_of (o := 1) HC0.out
          have c2 := cell_of (o := 2) HC0.out
          have cf2 := frozen_of (o := 2) HC0.out
          have c3 := cell_of (o := 3) HC0.out
          have cf3 := frozen_of (o := 3) HC0.out
          have c4 := cell_of (o := 4) HC0.out
          have cf4 := frozen_of (o := 4) HC0.out
          simp [zeroM] at c0 c1 c2 c3 c4
          have cp := Pre.mk (heap_lt HC0.out)
          have x0 := cell_of (o := 0) QB0.out.t
          have xf0 := frozen_of (o := 0) QB0.out.t
          have x1 := cell_of (o := 1) QB0.out.t
          have xf1 := frozen_of (o := 1) QB0.out.t
          have x2 := cell_of (o := 2) QB0.out.t
          have xf2 := frozen_of (o := 2) QB0.out.t
          have x3 := cell_of (o := 3) QB0.out.t
          have xf3 := frozen_of (o := 3) QB0.out.t
          have x4 := cell_of (o := 4) QB0.out.t
          have xf4 := frozen_of (o := 4) QB0.out.t
          have x5 := cell_of (o := 5) QB0.out.t
          have xf5 := frozen_of (o := 5) QB0.out.t
          have x6 := cell_of (o := 6) QB0.out.t
          have xf6 := frozen_of (o := 6) QB0.out.t
          simp [zeroM] at x0 x1 x2 x3 x4 x5 x6
          have xp := Pre.mk (heap_lt QB0.out.t)
          skip
          go_wp2_with (at_builtin; go_loud (refine wpList_ownK (w0 := w) rfl (.tmp 63) (.tmp 65) 49 _ _ _ _ [⟨si, fr, ky, (p0, q0)⟩] rfl Tryz.underlying49 infoLn rfl (by decide) encLn_len encLn_one rfl (OwnAt.grew QB0.out.l (by repeat (first | with_reducible exact Grew.refl _ | apply Grew.more | apply Grew.alloc | apply Grew.drew | apply Grew.drewN))) (QB0.out.w.trans (by repeat (first | with_reducible exact Grew.refl _ | apply Grew.more | apply Grew.alloc | apply Grew.drew | apply Grew.drewN))) rfl (ln_at _ _ _ _ rfl (by simp [go_sem])) (by simp [HLK.out]; omega) (by decide) (by simp) ?_; intro v5 W5 hA; obtain ⟨a9, b9, rfl⟩ := (OwnAt.rows hA.2.1 encLn_len).len; (have QC := Lib.hid ((QB0.out.grew (by repeat (first | with_reducible exact Grew.refl _ | apply Grew.more | apply Grew.alloc | apply Grew.drew | apply Grew.drewN))).appL hA)); (have d4 := cell_of (o := 5) QC.out.t); (have e4 := frozen_of (o := 5) QC.out.t); (have pe4 := Pre.mk (heap_lt QC.out.t)); simp at d4; clear hA))
          have QD := Lib.hid (QC.out.put (i := 5) (v := .slice a9 (xs ++ [(⟨si, fr, ky, (p0, q0)⟩ : Gr.Ln)]).length b9))
          simp at QD
          go_roundg (N2 - (k + 1))
          case measure => omega
          case rel => exact ⟨k + 1, .slice a9 (xs.length + 1) b9, by omega, by omega, by go_num, Lib.hid (by rw [HSC.out]; have := QD.out; simpa using this)⟩
        · obtain rfl : k = N2 := by omega
          rw [HE10.out] at HM
          simp only at HM
          obtain ⟨a10, b10, rfl⟩ := (OwnAt.rows HM.out.l encLn_len).len
          go_wp2_with fail
          refine (HN11.out _ HM.out.r HM.out.w).mono ?_
          rintro e W11 ⟨v11, lp, s12, rfl, o11, i11, r11, es1, es2, g11, k11⟩
          have HWW := HM.out.w.below.size
          have HO11 := Lib.hid (OwnAt.low o11 HWW)
          have HI11 := Lib.hid (i11.lower HWW)
          have HM11 := Lib.hid (HM.out.keep2 k11 r11 g11)
          obtain ⟨a11, b11, rfl⟩ := (OwnAt.rows o11 encSt_len).len
          have HLP := Lib.hid (Rel.len i11)
          have HES := Lib.hid (endE_same es1 es2)
          clear o11 i11 r11 g11 k11 HM HWW es1 es2
          have x0 := cell_of (o := 0) HM11.out.t
          have xf0 := frozen_of (o := 0) HM11.out.t
          have x1 := cell_of (o := 1) HM11.out.t
          have xf1 := frozen_of (o := 1) HM11.out.t
          have x2 := cell_of (o := 2) HM11.out.t
          have xf2 := frozen_of (o := 2) HM11.out.t
          have x3 := cell_of (o := 3) HM11.out.t
          have xf3 := frozen_of (o := 3) HM11.out.t
          have x4 := cell_of (o := 4) HM11.out.t
          have xf4 := frozen_of (o := 4) HM11.out.t
          have x5 := cell_of (o := 5) HM11.out.t
          have xf5 := frozen_of (o := 5) HM11.out.t
          have x6 := cell_of (o := 6) HM11.out.t
          have xf6 := frozen_of (o := 6) HM11.out.t
          simp [zeroM] at x0 x1 x2 x3 x4 x5 x6
          have xp := Pre.mk (heap_lt HM11.out.t)
          go_wp2_with fail
          have P11 := Lib.hid (HM11.out.put (i := 6) (v := .slice a11 lp.length b11))
          have hbut : But W2.heap.size W11 (W11.setCell ⟨W2.heap.size, 6, none⟩ (.slice a11 lp.length b11)) := fun q hq => set_other fun e => hq e.symm
          have HS12 := Lib.hid fun u (hu : 51 ≠ u) => Same.but hbut HM11.out.t hu
          obtain ⟨W12, hW12⟩ : ∃ W12, W11.setCell ⟨W2.heap.size, 6, none⟩ (.slice a11 lp.length b11) = W12 := ⟨_, rfl⟩
          rw [hW12] at P11 HS12 ⊢
          have HO12 : Hid (StepsOwn w.heap.size W12 (.slice a11 lp.length b11) lp) := Lib.hid (OwnAt.sameT HO11.out (HS12.out _ (by decide)))
          have HI12 := Lib.hid (HI11.out.sameT (HS12.out _ (by decide)) (HS12.out _ (by decide)))
          simp at P11
          clear x0 xf0 x1 xf1 x2 xf2 x3 xf3 x4 xf4 x5 xf5 x6 xf6 xp
          clear hbut hW12 HS12 HO11 HI11 HM11
          have HEND := Lib.hid (rdEnd_any w.heap.size (w.heap.size + 1 + 1) (w.heap.size + 1) s12 true W12 P11.out.r)
          by_cases he : endE s11 true = 0
          case neg =>
            have hne : (endE s11 true != 0) = true := by rw [bne_iff_ne]; exact he
            have HGE := Lib.hid (HG0.out.trans (if_pos he))
            generalize endE s11 true = en at *
            clear he HG0
            have x0 := cell_of (o := 0) P11.out.z
            have xf0 := frozen_of (o := 0) P11.out.z
            have x1 := cell_of (o := 1) P11.out.z
            have xf1 := frozen_of (o := 1) P11.out.z
            have x2 := cell_of (o := 2) P11.out.z
            have xf2 := frozen_of (o := 2) P11.out.z
            have x3 := cell_of (o := 3) P11.out.z
            have xf3 := frozen_of (o := 3) P11.out.z
            have x4 := cell_of (o := 4) P11.out.z
            have xf4 := frozen_of (o := 4) P11.out.z
            have x5 := cell_of (o := 5) P11.out.z
            have xf5 := frozen_of (o := 5) P11.out.z
            have x6 := cell_of (o := 6) P11.out.z
            have xf6 := frozen_of (o := 6) P11.out.z
            simp [zeroM] at x0 x1 x2 x3 x4 x5 x6
            have xp := Pre.mk (heap_lt P11.out.z)
            refine HEND.out.mono ?_
            rintro e w4 ⟨rfl, hw4⟩
            obtain rfl := hw4.symm
            rw [HES.out]
            go_wp2
            clear x0 xf0 x1 xf1 x2 xf2 x3 xf3 x4 xf4 x5 xf5 x6 xf6 xp
            have PZ := Lib.hid (P11.out.z)
            have GZ := Lib.hid (P11.out.w)
            have h7 := man_set7 PZ.out (.int .i64 0) (.int .i64 0) (.slice none 0 0) (.slice none 0 0) (.slice none 0 0) (.slice none 0 0) (.slice none 0 0)
            have g7 := Grew.set7 GZ.out (Nat.le_refl w.heap.size) (a := .int .i64 0) (b := .int .i64 0) (c := .slice none 0 0) (d := .slice none 0 0) (e := .slice none 0 0) (f := .slice none 0 0) (g := .slice none 0 0)
            generalize ((((((W12.setCell ⟨w.heap.size, 0, none⟩ (.int .i64 0)).setCell ⟨w.heap.size, 1, none⟩ (.int .i64 0)).setCell ⟨w.heap.size, 2, none⟩ (.slice none 0 0)).setCell ⟨w.heap.size, 3, none⟩ (.slice none 0 0)).setCell ⟨w.heap.size, 4, none⟩ (.slice none 0 0)).setCell ⟨w.heap.size, 5, none⟩ (.slice none 0 0)).setCell ⟨w.heap.size, 6, none⟩ (.slice none 0 0) = W14 at *
            have x0 := cell_of (o := 0) h7
            have xf0 := frozen_of (o := 0) h7
            have x1 := cell_of (o := 1) h7
            have xf1 := frozen_of (o := 1) h7
            have x2 := cell_of (o := 2) h7
            have xf2 := frozen_of (o := 2) h7
            have x3 := cell_of (o := 3) h7
            have xf3 := frozen_of (o := 3) h7
            have x4 := cell_of (o := 4) h7
            have xf4 := frozen_of (o := 4) h7
            have x5 := cell_of (o := 5) h7
            have xf5 := frozen_of (o := 5) h7
            have x6 := cell_of (o := 6) h7
            have xf6 := frozen_of (o := 6) h7
            simp [zeroM] at x0 x1 x2 x3 x4 x5 x6
            have xp := Pre.mk (heap_lt h7)
            refine bodyPost_ret (v := .tuple #[.agg #[.int .i64 0, .int .i64 0, .slice none 0 0, .slice none 0 0, .slice none 0 0, .slice none 0 0, .slice none 0 0], .int .i64 en]) (by simp [results, Tryz.results42, go_sem, x0, x1, x2, x3, x4, x5, x6]) rfl ?_
            rw [HGE.out]
            exact ⟨⟨0, 0, none, 0, 0, none, 0, 0, none, 0, 0, none, 0, 0, none, 0, 0⟩, rfl, mf_zero _ _, g7⟩
          have HGE0 := Lib.hid (HG0.out.trans (if_neg (by simpa using he)))
          rw [he] at HES
          clear he HG0
          refine HEND.out.mono ?_
          rintro e w4 ⟨rfl, hw4⟩
          obtain rfl := hw4.symm
          rw [HES.out]
          have x0 := cell_of (o := 0) P11.out.t
          have xf0 := frozen_of (o := 0) P11.out.t
          have x1 := cell_of (o := 1) P11.out.t
          have xf1 := frozen_of (o := 1) P11.out.t
          have x2 := cell_of (o := 2) P11.out.t
          have xf2 := frozen_of (o := 2) P11.out.t
          have x3 := cell_of (o := 3) P11.out.t
          have xf3 := frozen_of (o := 3) P11.out.t
          have x4 := cell_of (o := 4) P11.out.t
          have xf4 := frozen_of (o := 4) P11.out.t
          have x5 := cell_of (o := 5) P11.out.t
          have xf5 := frozen_of (o := 5) P11.out.t
          have x6 := cell_of (o := 6) P11.out.t
          have xf6 := frozen_of (o := 6) P11.out.t
          simp [zeroM] at x0 x1 x2 x3 x4 x5 x6
          have xp := Pre.mk (heap_lt P11.out.t)
          have HMF := Lib.hid (mf_done (ep := ep) (pl := pl) P11.out HO12.out HI12.out fun u _ => Same.refl u W12).is
          have HRB := Lib.hid (HRT.out _ _ HMF.out)
          cases hrb : rightB ⟨ep, pl, os, gr, es, ls, p⟩
          · have HGE := Lib.hid (HGE0.out.trans (if_neg (by rw [hrb]; simp)))
            rw [hrb] at HRB
            clear hrb HGE0
            go_wp2_with (go_at_call 93; refine HRB.out.mono ?_; rintro e w5 ⟨rfl, R5, n5, rfl⟩; (have hz5 := grew_heap (by repeat (first | with_reducible exact Grew.refl _ | apply Grew.more | apply Grew.alloc | apply Grew.drew | apply Grew.drewN) : Grew W12 (W12.more R5 n5)) P11.out.z); (have HZ5 := Lib.hid hz5); (have y0 := cell_of (o := 0) hz5); (have yf0 := frozen_of (o := 0) hz5); (have y1 := cell_of (o := 1) hz5); (have yf1 := frozen_of (o := 1) hz5); (have y2 := cell_of (o := 2) hz5); (have yf2 := frozen_of (o := 2) hz5); (have y3 := cell_of (o := 3) hz5); (have yf3 := frozen_of (o := 3) hz5); (have y4 := cell_of (o := 4) hz5); (have yf4 := frozen_of (o := 4) hz5); (have y5 := cell_of (o := 5) hz5); (have yf5 := frozen_of (o := 5) hz5); (have y6 := cell_of (o := 6) hz5); (have yf6 := frozen_of (o := 6) hz5); simp [zeroM] at y0 y1 y2 y3 y4 y5 y6; (have yp := Pre.mk (heap_lt hz5)); clear hz5)
            clear x0 xf0 x1 xf1 x2 xf2 x3 xf3 x4 xf4 x5 xf5 x6 xf6 xp
            clear y0 yf0 y1 yf1 y2 yf2 y3 yf3 y4 yf4 y5 yf5 y6 yf6 yp
            have PZ := Lib.hid (HZ5.out)
            have GZ := Lib.hid (P11.out.w.trans (by repeat (first | with_reducible exact Grew.refl _ | apply Grew.more | apply Grew.alloc | apply Grew.drew | apply Grew.drewN) : Grew W12 (W12.more R5 n5)))
            have h7 := man_set7 PZ.out (.int .i64 0) (.int .i64 0) (.slice none 0 0) (.slice none 0 0) (.slice none 0 0) (.slice none 0 0) (.slice none 0 0)
            have g7 := Grew.set7 GZ.out (Nat.le_refl w.heap.size) (a := .int .i64 0) (b := .int .i64 0) (c := .slice none 0 0) (d := .slice none 0 0) (e := .slice none 0 0) (f := .slice none 0 0) (g := .slice none 0 0)
            generalize (((((((W12.more R5 n5).setCell ⟨w.heap.size, 0, none⟩ (.int .i64 0)).setCell ⟨w.heap.size, 1, none⟩ (.int .i64 0)).setCell ⟨w.heap.size, 2, none⟩ (.slice none 0 0)).setCell ⟨w.heap.size, 3, none⟩ (.slice none 0 0)).setCell ⟨w.heap.size, 4, none⟩ (.slice none 0 0)).setCell ⟨w.heap.size, 5, none⟩ (.slice none 0 0)).setCell ⟨w.heap.size, 6, none⟩ (.slice none 0 0) = W14 at *
            have x0 := cell_of (o := 0) h7
            have xf0 := frozen_of (o := 0) h7
            have x1 := cell_of (o := 1) h7
            have xf1 := frozen_of (o := 1) h7
            have x2 := cell_of (o := 2) h7
            have xf2 := frozen_of (o := 2) h7
            have x3 := cell_of (o := 3) h7
            have xf3 := frozen_of (o := 3) h7
            have x4 := cell_of (o := 4) h7
            have xf4 := frozen_of (o := 4) h7
            have x5 := cell_of (o := 5) h7
            have xf5 := frozen_of (o := 5) h7
            have x6 := cell_of (o := 6) h7
            have xf6 := frozen_of (o := 6) h7
            simp [zeroM] at x0 x1 x2 x3 x4 x5 x6
            have xp := Pre.mk (heap_lt h7)
            refine bodyPost_ret (v := .tuple #[.agg #[.int .i64 0, .int .i64 0, .slice none 0 0, .slice none 0 0, .slice none 0 0, .slice none 0 0, .slice none 0 0], .int .i64 1]) (by simp [results, Tryz.results42, go_sem, x0, x1, x2, x3, x4, x5, x6]) rfl ?_
            rw [HGE.out]
            exact ⟨⟨0, 0, none, 0, 0, none, 0, 0, none, 0, 0, none, 0, 0, none, 0, 0⟩, rfl, mf_zero _ _, g7⟩
          · have HGE := Lib.hid (HGE0.out.trans (if_pos (by rw [hrb])))
            rw [hrb] at HRB
            clear hrb HGE0
            go_wp2_with (go_at_call 93; refine HRB.out.mono ?_; rintro e w5 ⟨rfl, R5, n5, rfl⟩; (have hz5 := grew_heap (by repeat (first | with_reducible exact Grew.refl _ | apply Grew.more | apply Grew.alloc | apply Grew.drew | apply Grew.drewN) : Grew W12 (W12.more R5 n5)) P11.out.z); (have HZ5 := Lib.hid hz5); (have y0 := cell_of (o := 0) hz5); (have yf0 := frozen_of (o := 0) hz5); (have y1 := cell_of (o := 1) hz5); (have yf1 := frozen_of (o := 1) hz5); (have y2 := cell_of (o := 2) hz5); (have yf2 := frozen_of (o := 2) hz5); (have y3 := cell_of (o := 3) hz5); (have yf3 := frozen_of (o := 3) hz5); (have y4 := cell_of (o := 4) hz5); (have yf4 := frozen_of (o := 4) hz5); (have y5 := cell_of (o := 5) hz5); (have yf5 := frozen_of (o := 5) hz5); (have y6 := cell_of (o := 6) hz5); (have yf6 := frozen_of (o := 6) hz5); simp [zeroM] at y0 y1 y2 y3 y4 y5 y6; (have yp := Pre.mk (heap_lt hz5)); clear hz5)
            clear x0 xf0 x1 xf1 x2 xf2 x3 xf3 x4 xf4 x5 xf5 x6 xf6 xp
            clear y0 yf0 y1 yf1 y2 yf2 y3 yf3 y4 yf4 y5 yf5 y6 yf6 yp
            have PZ := HZ5
            have GZ := Lib.hid (P11.out.w.trans (by repeat (first | with_reducible exact Grew.refl _ | apply Grew.more | apply Grew.alloc | apply Grew.drew | apply Grew.drewN) : Grew W12 (W12.more R5 n5)))
            have h7 := man_set7 PZ.out (.int .i64 ep) (.int .i64 pl) (.slice a3 os.length b3) (.slice a5 lc.length b5) (.slice a8 es.length b8) (.slice a10 ls.length b10) (.slice a11 lp.length b11)
            have g7 := Grew.set7 GZ.out (Nat.le_refl w.heap.size) (a := .int .i64 ep) (b := .int .i64 pl) (c := .slice a3 os.length b3) (d := .slice a5 lc.length b5) (e := .slice a8 es.length b8) (f := .slice a10 ls.length b10) (g := .slice a11 lp.length b11)
            have hS : ∀ u, 51 ≠ u → Same u W12 ((((((((W12.more R5 n5).setCell ⟨w.heap.size, 0, none⟩ (.int .i64 ep)).setCell ⟨w.heap.size, 1, none⟩ (.int .i64 pl)).setCell ⟨w.heap.size, 2, none⟩ (.slice a3 os.length b3)).setCell ⟨w.heap.size, 3, none⟩ (.slice a5 lc.length b5)).setCell ⟨w.heap.size, 4, none⟩ (.slice a8 es.length b8)).setCell ⟨w.heap.size, 5, none⟩ (.slice a10 ls.length b10)).setCell ⟨w.heap.size, 6, none⟩ (.slice a11 lp.length b11)) := fun u hu => (Same.grew (by repeat (first | with_reducible exact Grew.refl _ | apply Grew.more | apply Grew.alloc | apply Grew.drew | apply Grew.drewN))).trans (Same.but but7 PZ.out hu)
            generalize (((((((W12.more R5 n5).setCell ⟨w.heap.size, 0, none⟩ (.int .i64 ep)).setCell ⟨w.heap.size, 1, none⟩ (.int .i64 pl)).setCell ⟨w.heap.size, 2, none⟩ (.slice a3 os.length b3)).setCell ⟨w.heap.size, 3, none⟩ (.slice a5 lc.length b5)).setCell ⟨w.heap.size, 4, none⟩ (.slice a8 es.length b8)).setCell ⟨w.heap.size, 5, none⟩ (.slice a10 ls.length b10)).setCell ⟨w.heap.size, 6, none⟩ (.slice a11 lp.length b11) = W14 at *
            have x0 := cell_of (o := 0) h7
            have xf0 := frozen_of (o := 0) h7
            have x1 := cell_of (o := 1) h7
            have xf1 := frozen_of (o := 1) h7
            have x2 := cell_of (o := 2) h7
            have xf2 := frozen_of (o := 2) h7
            have x3 := cell_of (o := 3) h7
            have xf3 := frozen_of (o := 3) h7
            have x4 := cell_of (o := 4) h7
            have xf4 := frozen_of (o := 4) h7
            have x5 := cell_of (o := 5) h7
            have xf5 := frozen_of (o := 5) h7
            have x6 := cell_of (o := 6) h7
            have xf6 := frozen_of (o := 6) h7
            simp [zeroM] at x0 x1 x2 x3 x4 x5 x6
            have xp := Pre.mk (heap_lt h7)
            refine bodyPost_ret (v := .tuple #[.agg #[.int .i64 ep, .int .i64 pl, .slice a3 os.length b3, .slice a5 lc.length b5, .slice a8 es.length b8, .slice a10 ls.length b10, .slice a11 lp.length b11], .int .i64 0]) (by simp [results, Tryz.results42, go_sem, x0, x1, x2, x3, x4, x5, x6]) rfl ?_
            rw [HGE.out]
            exact ⟨⟨ep, pl, a3, os.length, b3, a5, lc.length, b5, a8, es.length, b8, a10, ls.length, b10, a11, lp.length, b11⟩, rfl, mf_done P11.out HO12.out HI12.out hS, g7⟩
end Go.Proofs.YtpbohimddmploaaGreat
