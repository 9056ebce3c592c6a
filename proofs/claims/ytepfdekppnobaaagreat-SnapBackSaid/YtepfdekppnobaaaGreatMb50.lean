import Derived.Test.YtepfdekppnobaaaGreatMb48
import Derived.Test.YtepfdekppnobaaaGreatMb31
import Derived.Test.YtepfdekppnobaaaGreatMb17
/-! snap.Parts. -/
namespace Go.Proofs.YtepfdekppnobaaaGreat
set_option linter.unusedSimpArgs false
set_option linter.unusedVariables false
open Go.RowKit Ga
set_option maxRecDepth 100000

/-- what tasks begin with: a node, its task, entries -/
abbrev Pt := Int × Nat × List Tab.En
def ptsOf (g : List Gr.Nd) (l : List Tab.En) : List Pt := g.flatMap fun n => (List.range n.par.toNat).map fun t => (n.id, t, Gr.partE n (t : Nat) l)
theorem ptsOf_snoc (g : List Gr.Nd) (n : Gr.Nd) (l : List Tab.En) : ptsOf (g ++ [n]) l = ptsOf g l ++ (List.range n.par.toNat).map fun t => (n.id, t, Gr.partE n (t : Nat) l) := by
  unfold ptsOf
  rw [List.flatMap_append, List.flatMap_cons, List.flatMap_nil, List.append_nil]
theorem ptsOf_len : ∀ (g : List Gr.Nd) (l : List Tab.En), (∀ n ∈ g, n.par ≤ 3) → (ptsOf g l).length ≤ g.length * 3
  | [], _, _ => by simp [ptsOf]
  | n :: g, l, h => by
    have h1 := ptsOf_len g l fun x hx => h x (List.mem_cons_of_mem _ hx)
    have h2 := h n (List.mem_cons_self ..)
    unfold ptsOf at h1 ⊢
    rw [List.flatMap_cons, List.length_append, List.length_map, List.length_range, List.length_cons]
    omega
/-- a part as it lies -/
structure PtC where
  node : Int
  ix : Int
  a : Option Addr
  n : Nat
  c : Nat
def encPt (c : PtC) : List Value := [.int .i64 c.node, .int .i64 c.ix, .slice c.a c.n c.c]
theorem encPt_len (x : PtC) : (encPt x).length = 3 := rfl
theorem encPt_one (x : PtC) : ∀ u ∈ encPt x, u.oneCell' = true := by
  intro u hu
  simp [encPt] at hu
  rcases hu with rfl | rfl | rfl <;> rfl
theorem infoPt : (Tryz.prog.info? 76).map (fun i => (i.zero, i.size, i.bytes)) = some (some (.agg #[.int .i64 0, .int .i64 0, .slice none 0 0]), 3, 40) := by kernel_rfl
theorem pt_at (W : World) (x : PtC) (t : TypeId) (b : Nat) {c : Array Value} (hc : c = (encPt x).toArray) (hb : b = W.heap.size) : ∀ j u, (([x] : List PtC).flatMap encPt)[j]? = some u → (W.alloc (.cells c t)).cell? ⟨b, j, none⟩ = some u := by
  subst hc
  intro j u hu
  rw [new_cells W _ t b hb j]
  simpa using hu
def PtIs (base : Nat) (W : World) (c : PtC) (p : Pt) : Prop := c.node = p.1 ∧ c.ix = (p.2.1 : Int) ∧ OwnAt base 57 6 encEn W (.slice c.a c.n c.c) p.2.2
/-- the parts so far -/
structure PtSt (w W : World) (v : Value) (lc : List PtC) (L : List Pt) : Prop where
  g : Grew w W
  own : OwnAt w.heap.size 76 3 encPt W v lc
  rel : Rel (PtIs w.heap.size W) lc L
theorem PtSt.grew {w W W' : World} {v : Value} {lc : List PtC} {L : List Pt} (h : PtSt w W v lc L) (q : Grew W W') : PtSt w W' v lc L :=
  ⟨h.g.trans q, h.own.grew q, Rel.mono (fun c p ⟨h1, h2, h3⟩ => ⟨h1, h2, h3.grew q⟩) h.rel⟩
theorem PtSt.put {w W W' : World} {v v' : Value} {lc : List PtC} {L : List Pt} (h : PtSt w W v lc L) {c : PtC} {p : Pt} (hp : PtIs w.heap.size W c p) (hA : Appended w 76 3 encPt W v (lc ++ [c]) v' W') : PtSt w W' v' (lc ++ [c]) (L ++ [p]) := by
  obtain ⟨a1, a2, a3, a4, a5⟩ := hA
  have keep : ∀ (c : PtC) (p : Pt), PtIs w.heap.size W c p → PtIs w.heap.size W' c p := fun c p ⟨h1, h2, h3⟩ => ⟨h1, h2, OwnAt.same h3 fun b hb => by
    obtain ⟨-, cs, hc⟩ := OwnAt.block h3 hb
    exact a4 b (heap_lt hc) (OwnAt.other h.own hc (by decide))⟩
  exact ⟨a1, a2, Rel.snoc (Rel.mono keep h.rel) (keep c p hp)⟩
theorem PartsIn.keep {base : Nat} {w W W' : World} {B : Nat} {vs : List Value} {ls : List (List Tab.En)} (h : PartsIn base W B vs ls) {v : Value} {lc : List PtC} (ho : OwnAt w.heap.size 76 3 encPt W v lc)
    (hk : ∀ q, q < W.heap.size → v.ownBlock ≠ some q → W'.heap[q]? = W.heap[q]?) : PartsIn base W' B vs ls :=
  ⟨by rw [hk B (heap_lt h.blk) (OwnAt.other ho h.blk (by decide))]; exact h.blk, h.len, fun i u l hi hl => OwnAt.same (h.own i u l hi hl) fun b hb => by
    obtain ⟨-, cs, hc⟩ := OwnAt.block (h.own i u l hi hl) hb
    exact hk b (heap_lt hc) (OwnAt.other ho hc (by decide)), h.apart⟩
theorem PartsIn.low {base base' : Nat} {W : World} {B : Nat} {vs : List Value} {ls : List (List Tab.En)} (h : PartsIn base W B vs ls) (hb : base' ≤ base) : PartsIn base' W B vs ls :=
  ⟨h.blk, h.len, fun i v l hi hl => OwnAt.low (h.own i v l hi hl) hb, h.apart⟩
/-- the parts of a right manifest -/
def PartsAtPost (w : World) (m : Gr.Mf) (e : Ending) (w' : World) : Prop :=
  (rightB m = false → e = .returned (.slice none 0 0) ∧ Grew w w') ∧
  (rightB m = true → ∃ a c lc, e = .returned (.slice a lc.length c) ∧ PtSt w w' (.slice a lc.length c) lc (ptsOf m.graph m.ents))
theorem right_route {g : List Gr.Nd} (h : Gr.RightR g) : ∀ n ∈ g, rtB n.par n.route = true := fun n hn => rtB_iff.2 (right_par h n hn)
set_option maxHeartbeats 16000000 in
theorem snapParts_any (c : MfC) (m : Gr.Mf) (w : World) (h : MfIs w c m) (hs : Small m.graph) (hp : ∀ s ∈ m.plan, s.nd.frm.length ≤ 100 ∧ s.nd.prog.length ≤ 1000) (he : m.ents.length ≤ 100000) : Calls Tryz.prog 22 #[.agg #[.int .i64 c.epoch, .int .i64 c.plans, .slice c.ao c.no c.co, .slice c.ag c.ng c.cg, .slice c.ae c.ne c.ce, .slice c.ax c.nx c.cx, .slice c.ap c.np c.cp]] w (PartsAtPost w m) := by
  have HR := Lib.hid fun W (g : Grew w W) => manRight_any c m W (h.grew g) hs hp he
  have HGR := Lib.hid (fun hr : rightB m = true => (rightB_iff.1 hr).gr)
  have HH := Lib.hid h
  obtain ⟨ep, pl, ao, co, ag, cg, ae, ce, ax, cx, ap, cp, rfl⟩ := h.lit
  clear h hs hp
  cases hr : rightB m
  · have HRF := Lib.hid hr
    rw [hr] at HR
    clear hr
    refine Calls.mono (R := Gives (.slice none 0 0) w) ?_ fun e w' ⟨h1, h2⟩ => ⟨fun _ => ⟨h1, h2⟩, fun q => by rw [HRF.out] at q; cases q⟩
    go_enter Tryz.func22, Tryz.ntmps22
    go_wp2_with (go_at_call 10; refine (HR.out _ (by repeat (first | with_reducible exact Grew.refl _ | apply Grew.more | apply Grew.alloc | apply Grew.drew | apply Grew.drewN))).mono ?_; rintro e w1 ⟨rfl, R1, n1, rfl⟩)
    go_ret
    refine ⟨rfl, ?_⟩
    repeat (first | with_reducible exact Grew.refl _ | apply Grew.more | apply Grew.alloc | apply Grew.drew | apply Grew.drewN)
  have HGRR := Lib.hid (HGR.out hr)
  have HRT := Lib.hid (right_route HGRR.out)
  have HPAR := Lib.hid (right_par HGRR.out)
  have hl8 := HGRR.out.len
  have HPL := Lib.hid fun k => ptsOf_len (m.graph.take k) m.ents fun n hn => (HPAR.out n (List.mem_of_mem_take hn)).1.2
  rw [hr] at HR
  refine Calls.mono (R := fun e w' => ∃ a c lc, e = .returned (.slice a lc.length c) ∧ PtSt w w' (.slice a lc.length c) lc (ptsOf m.graph m.ents)) ?_ fun e w' h => ⟨fun q => absurd (hr.symm.trans q) (by decide), fun _ => h⟩
  clear hr HGR
  go_enter Tryz.func22, Tryz.ntmps22
  go_wp2_with (go_at_call 10; refine (HR.out _ (by repeat (first | with_reducible exact Grew.refl _ | apply Grew.more | apply Grew.alloc | apply Grew.drew | apply Grew.drewN))).mono ?_; rintro e w1 ⟨rfl, R1, n1, rfl⟩)
  go_loopg [3, 14] m.graph.length (fun gg s3 s14 wr => ∃ (k : Nat) (lc : List PtC), k ≤ m.graph.length ∧ m.graph.length - k ≤ gg ∧ s14 = .int .i64 k ∧ Hid (PtSt w wr s3 lc (ptsOf (m.graph.take k) m.ents)) ∧ Hid (wr.heap[w.heap.size]? = some (.cells #[.int .i64 ep, .int .i64 pl, .slice ao m.offs.length co, .slice ag m.graph.length cg, .slice ae m.ents.length ce, .slice ax m.out.length cx, .slice ap m.plan.length cp] 42)))
  case atStart => exact ⟨0, [], by omega, by omega, rfl, Lib.hid ⟨by repeat (first | with_reducible exact Grew.refl _ | apply Grew.more | apply Grew.alloc | apply Grew.drew | apply Grew.drewN), OwnAt.nil _, trivial⟩, Lib.hid (grew_heap (by repeat (first | with_reducible exact Grew.refl _ | apply Grew.more | apply Grew.alloc | apply Grew.drew | apply Grew.drewN)) (heap_new_at _ _ _ rfl))⟩
  case round =>
    obtain ⟨k, lc, hk, hgg, rfl, HS, HB⟩ := hrel
    by_cases hlt : k < m.graph.length
    · obtain ⟨a', cap', e, -, hx⟩ := (HH.out.g.grew HS.out.g).openC
      cases e
      obtain ⟨b, off, c, rfl, hb, hn, c0, c1, c2, c3, c4, c5, c6, c7, c8, c9, c10, c11, c12⟩ := hx k hlt
      have hrt := HRT.out _ (List.getElem_mem hlt)
      obtain ⟨⟨p1, p3⟩, -⟩ := HPAR.out _ (List.getElem_mem hlt)
      have HTK := Lib.hid (show ptsOf (m.graph.take (k + 1)) m.ents = _ by rw [List.take_succ_eq_append_getElem hlt, ptsOf_snoc])
      have hln := HPL.out k
      rw [List.length_take, Nat.min_eq_left hk] at hln
      clear hx
      generalize m.graph[k] = y at *
      have hid := hn.id
      have hpar := hn.par
      have HNc := Lib.hid hn
      obtain ⟨cid, kind, af, nf, cf, apr, np, cpr, par, r0, r1, r2, r3, r4, r5, r6, r7⟩ := c
      simp only at c0 c1 c2 c3 c4 c5 c6 c7 c8 c9 c10 c11 c12 hid hpar
      obtain ⟨p, hp⟩ : ∃ p : Nat, par = (p : Int) := ⟨par.toNat, by omega⟩
      subst hp
      have hpn : y.par.toNat = p := by omega
      have HPN := Lib.hid hpn
      have hp3 : p ≤ 3 := by omega
      have HID := Lib.hid hid
      have HPT := Lib.hid fun W (q : Grew wr W) => parts_any _ y ae ce m.ents W (HNc.out.grew q) ((HH.out.e.grew HS.out.g).grew q) hrt he
      have k4 := cell_of (o := 4) HB.out
      simp at k4
      have pk := Pre.mk (heap_lt HB.out)
      clear hid hpar p1 p3 hn hrt hpn
      go_wp2_with (go_at_call 56; go_loud (refine (HPT.out _ (by repeat (first | with_reducible exact Grew.refl _ | apply Grew.more | apply Grew.alloc | apply Grew.drew | apply Grew.drewN))).mono ?_); rintro e w2 ⟨B, vs, rfl, hBw, hpi, R2, n2, rfl⟩; rw [HPN.out]; (have HPI := Lib.hid hpi); clear hpi)
      have hwz := HS.out.g.below.size
      go_loopg [3, 23] p (fun gg2 s3' s23 wr2 => ∃ (j : Nat) (lc2 : List PtC), j ≤ p ∧ p - j ≤ gg2 ∧ s23 = .int .i64 j ∧ Hid (PtSt w wr2 s3' lc2 (ptsOf (m.graph.take k) m.ents ++ (List.range j).map fun t => (y.id, t, Gr.partE y (t : Nat) m.ents))) ∧ Hid (wr2.heap[w.heap.size]? = wr.heap[w.heap.size]?) ∧ Hid (wr2.heap[wr.heap.size]? = some (.cells #[.int .i64 cid, .int .i64 kind, .slice af nf cf, .slice apr np cpr, .int .i64 (p : Int), .int .i64 r0, .int .i64 r1, .int .i64 r2, .int .i64 r3, .int .i64 r4, .int .i64 r5, .int .i64 r6, .int .i64 r7] 64)) ∧ Hid (PartsIn w.heap.size wr2 B vs (Gr.partsN y m.ents)))
      case atStart => exact ⟨0, lc, by omega, by omega, rfl, Lib.hid (by rw [List.range_zero, List.map_nil, List.append_nil]; exact HS.out.grew (by repeat (first | with_reducible exact Grew.refl _ | apply Grew.more | apply Grew.alloc | apply Grew.drew | apply Grew.drewN))), Lib.hid ((grew_heap (by repeat (first | with_reducible exact Grew.refl _ | apply Grew.more | apply Grew.alloc | apply Grew.drew | apply Grew.drewN)) HB.out).trans HB.out.symm), Lib.hid (grew_heap (by repeat (first | with_reducible exact Grew.refl _ | apply Grew.more | apply Grew.alloc | apply Grew.drew | apply Grew.drewN)) (heap_new_at _ _ _ rfl)), Lib.hid (HPI.out.low (by simp [World.size_alloc]; omega))⟩
      case round =>
        obtain ⟨j, lc2, hj, hgg2, rfl, HS2, HB2, HN2, HP2⟩ := hrel
        by_cases hlt2 : j < p
        · have hjn : j < y.par.toNat := by rw [HPN.out]; exact hlt2
          have hls := partsN_get (n := y) (l := m.ents) hjn
          have hvl : j < vs.length := by rw [HP2.out.len, partsN_len]; exact hjn
          obtain ⟨v, hv⟩ : ∃ v, vs[j]? = some v := ⟨_, List.getElem?_eq_getElem hvl⟩
          have hov := HP2.out.own j v _ hv hls
          obtain ⟨av, cv, hvv⟩ := (OwnAt.rows hov encEn_len).len
          have cB := cell_of (o := j) HP2.out.blk
          rw [List.getElem?_toArray, hv] at cB
          have pB := Pre.mk (heap_lt HP2.out.blk)
          have hl2 : lc2.length ≤ 100 := by
            rw [Rel.len HS2.out.rel, List.length_append, List.length_map, List.length_range]
            omega
          have HRS : Hid (((List.range (j + 1)).map fun t => (y.id, t, Gr.partE y (t : Nat) m.ents)) = ((List.range j).map fun t => (y.id, t, Gr.partE y (t : Nat) m.ents)) ++ [(y.id, j, Gr.partE y (j : Nat) m.ents)]) := Lib.hid (by rw [List.range_succ, List.map_append]; rfl)
          have d0 := cell_of (o := 0) HN2.out
          simp at d0
          have pd := Pre.mk (heap_lt HN2.out)
          subst hvv
          have HOV := Lib.hid hov
          clear hls hvl hv hov hjn
          generalize Gr.partE y (j : Nat) m.ents = q at *
          go_wp2_with (at_builtin; go_loud (refine wpList_ownK (w0 := w) rfl (.tmp 28) (.tmp 34) 73 _ _ _ _ [⟨cid, (j : Int), av, q.length, cv⟩] rfl Tryz.underlying73 infoPt rfl (by decide) encPt_len encPt_one rfl (OwnAt.grew HS2.out.own (by repeat (first | with_reducible exact Grew.refl _ | apply Grew.more | apply Grew.alloc | apply Grew.drew | apply Grew.drewN))) (HS2.out.g.trans (by repeat (first | with_reducible exact Grew.refl _ | apply Grew.more | apply Grew.alloc | apply Grew.drew | apply Grew.drewN))) rfl (pt_at _ _ _ _ rfl (by simp [go_sem])) (by simp; omega) (by decide) (by simp) ?_); intro v7 W7 hA; (have HA := Lib.hid hA); clear hA)
          go_roundg (p - (j + 1))
          case measure => omega
          case rel =>
            obtain ⟨q1, q2, q3, q4, q5⟩ := HA.out
            have hmb := HB2.out.trans HB.out
            refine ⟨j + 1, lc2 ++ [⟨cid, (j : Int), av, q.length, cv⟩], by omega, by omega, by go_num, Lib.hid ?_, Lib.hid ?_, Lib.hid ?_, Lib.hid ?_⟩
            · rw [HRS.out, ← List.append_assoc]
              exact (HS2.out.grew (by repeat (first | with_reducible exact Grew.refl _ | apply Grew.more | apply Grew.alloc | apply Grew.drew | apply Grew.drewN))).put (c := ⟨cid, (j : Int), av, q.length, cv⟩) (p := (y.id, j, q)) ⟨HID.out.symm, rfl, HOV.out.grew (by repeat (first | with_reducible exact Grew.refl _ | apply Grew.more | apply Grew.alloc | apply Grew.drew | apply Grew.drewN))⟩ HA.out
            · rw [q4 _ (by have := heap_lt hmb; simp [go_sem]; omega) (OwnAt.other HS2.out.own hmb (by decide))]
              exact (grew_heap (by repeat (first | with_reducible exact Grew.refl _ | apply Grew.more | apply Grew.alloc | apply Grew.drew | apply Grew.drewN)) hmb).trans HB.out.symm
            · rw [q4 _ (by have := heap_lt HN2.out; simp [go_sem]; omega) (OwnAt.other HS2.out.own HN2.out (by decide))]
              exact grew_heap (by repeat (first | with_reducible exact Grew.refl _ | apply Grew.more | apply Grew.alloc | apply Grew.drew | apply Grew.drewN)) HN2.out
            · exact (HP2.out.grew (by repeat (first | with_reducible exact Grew.refl _ | apply Grew.more | apply Grew.alloc | apply Grew.drew | apply Grew.drewN))).keep (w := w) (HS2.out.own.grew (by repeat (first | with_reducible exact Grew.refl _ | apply Grew.more | apply Grew.alloc | apply Grew.drew | apply Grew.drewN))) q4
        · obtain rfl : j = p := by omega
          go_wp2
          go_roundg (m.graph.length - (k + 1))
          case measure => omega
          case rel => exact ⟨k + 1, lc2, by omega, by omega, by go_num, Lib.hid (by rw [HTK.out, HPN.out]; exact HS2.out.grew (by repeat (first | with_reducible exact Grew.refl _ | apply Grew.more | apply Grew.alloc | apply Grew.drew | apply Grew.drewN))), Lib.hid (grew_heap (by repeat (first | with_reducible exact Grew.refl _ | apply Grew.more | apply Grew.alloc | apply Grew.drew | apply Grew.drewN)) (HB2.out.trans HB.out))⟩
    · obtain rfl : k = m.graph.length := by omega
      have hs := HS.out
      rw [List.take_length] at hs
      obtain ⟨av, cv, rfl⟩ := (OwnAt.rows hs.own encPt_len).len
      have HS9 := Lib.hid hs
      clear hs
      go_wp2
      go_ret
      exact ⟨_, _, lc, rfl, HS9.out⟩
end Go.Proofs.YtepfdekppnobaaaGreat

/-! What tasks begin with: how many, which. -/
namespace Go.Proofs.YtepfdekppnobaaaGreat
set_option linter.unusedSimpArgs false
set_option linter.unusedVariables false
open Go.RowKit Ga
set_option maxRecDepth 100000

def cntP (L : List Pt) : Nat := (L.map fun p => p.2.2.length).sum
theorem cntP_append (a b : List Pt) : cntP (a ++ b) = cntP a + cntP b := by
  unfold cntP
  rw [List.map_append, List.sum_append]
theorem cntP_pts : ∀ (g : List Gr.Nd) (l : List Tab.En), cntP (ptsOf g l) = Gr.many g l
  | [], _ => rfl
  | n :: g, l => by
    have h1 := cntP_pts g l
    have h2 : ptsOf (n :: g) l = ((List.range n.par.toNat).map fun t => (n.id, t, Gr.partE n (t : Nat) l)) ++ ptsOf g l := by
      unfold ptsOf
      rw [List.flatMap_cons]
    rw [h2, cntP_append, h1]
    unfold Gr.many cntP
    rw [List.map_cons, List.sum_cons, List.map_map]
    rfl
theorem right_cnt {m : Gr.Mf} (h : Gr.RightM fitsP m) (h8 : ∀ n ∈ m.graph, n.route.length = 8) : cntP (ptsOf m.graph m.ents) = m.ents.length := by
  rw [cntP_pts]
  refine Gr.many_eq h.gr.ids (fun n hn k _ => Gr.taskOf_range (h8 n hn) (right_par h.gr n hn).2 k) m.ents fun x hx => ?_
  refine ⟨(h.en x hx).2.1.1, ?_⟩
  obtain ⟨n, hn, -⟩ := h.ek x hx
  obtain ⟨h1, h2⟩ := Gr.nodeOf_some hn
  exact ⟨n, h1, h2⟩
theorem PtSt.low {w w0 W : World} {v : Value} {lc : List PtC} {L : List Pt} (h : PtSt w0 W v lc L) (g : Grew w w0) : PtSt w W v lc L :=
  ⟨g.trans h.g, OwnAt.low h.own g.below.size, Rel.mono (fun c p ⟨h1, h2, h3⟩ => ⟨h1, h2, OwnAt.low h3 g.below.size⟩) h.rel⟩
/-- the part at a place -/
theorem PtSt.open' {w W : World} {a : Option Addr} {c : Nat} {lc : List PtC} {L : List Pt} (h : PtSt w W (.slice a lc.length c) lc L) {i : Nat} {p : Pt} (hp : L[i]? = some p) : ∃ (b : Nat) (x : PtC), a = some ⟨b, 0, none⟩ ∧ i < lc.length ∧ Pre b W ∧ PtIs w.heap.size W x p ∧
    W.cell? ⟨b, i * 3, none⟩ = some (.int .i64 x.node) ∧ W.cell? ⟨b, i * 3 + 1, none⟩ = some (.int .i64 x.ix) ∧ W.cell? ⟨b, i * 3 + 2, none⟩ = some (.slice x.a x.n x.c) := by
  have hi : i < lc.length := by rw [Rel.len h.rel]; exact (List.getElem?_eq_some_iff.1 hp).1
  have hr := OwnAt.rows h.own encPt_len
  obtain ⟨a', c', e, -, hx⟩ := hr
  cases e
  obtain ⟨b, off, rfl, hc⟩ := hx (by intro e; subst e; simp at hi)
  have hoff : off = 0 := by
    rcases h.own.form with ⟨e, -⟩ | ⟨b', c', e, -⟩
    · cases e
    · cases e
      rfl
  subst hoff
  have hj := fun j u => hc i lc[i] (List.getElem?_eq_getElem hi) j u
  have h0 := hj 0 _ rfl
  have h1 := hj 1 _ rfl
  have h2 := hj 2 _ rfl
  rw [Nat.zero_add] at h0 h1 h2
  exact ⟨b, lc[i], rfl, hi, Pre.ofCell h0, Rel.get h.rel i _ _ (List.getElem?_eq_getElem hi) hp, h0, h1, h2⟩
theorem PtIs.same {base : Nat} {W : World} {x : PtC} {p : Pt} (h : PtIs base W x p) : x.node = p.1 ∧ x.ix = (p.2.1 : Int) ∧ x.n = p.2.2.length ∧ EntsAt W (.slice x.a x.n x.c) p.2.2 := by
  obtain ⟨h1, h2, h3⟩ := h
  have hr := OwnAt.rows h3 encEn_len
  obtain ⟨a, c, e⟩ := hr.len
  refine ⟨h1, h2, ?_, hr⟩
  injection e with _ e2 _
end Go.Proofs.YtepfdekppnobaaaGreat
