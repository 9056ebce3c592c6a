import Derived.Test.YtpbohimddmploaaGreatCd30
set_option linter.unusedSimpArgs false
set_option linter.unusedVariables false
set_option maxRecDepth 100000
set_option maxHeartbeats 64000000
namespace Go.Proofs.YtpbohimddmploaaGreat
open Go.RowKit Ga

theorem norm_len {g : List Gr.Nd} (h : Gr.RightR g) : (Gr.normG g).length = g.length := (Gr.normG_perm h.ids h.r7).length_eq
theorem NodesIn.grow {base : Nat} {w w' : World} {lc : List NdC} {l : List Gr.Nd} (h : NodesIn base w lc l) (g : Grew w w') : NodesIn base w' lc l :=
  Rel.mono (fun _ _ q => ⟨q.1.grew g, ⟨OwnAt.grew q.2.1 g, OwnAt.grew q.2.2 g⟩⟩) h
theorem newO_any (v : Value) (g : List Gr.Nd) (ep : Int) (w : World) (hv : NodesAt w v g) (hs : Small g) (hr : Gr.RightR g) (he : 1 ≤ ep) (he2 : ep ≤ 2147483647) : Calls Tryz.prog 49 #[v, .int .i64 ep] w fun e w' => ∃ x b, e = .returned (.tuple #[.pointer (some ⟨x, 0, none⟩), .int .i64 0]) ∧ (∃ v lc, w'.heap[x]? = some (.cells #[v, .int .i64 ep, .map (some b)] 176) ∧ NodesOwn w.heap.size w' v lc ∧ NodesIn w.heap.size w' lc (Gr.normG g)) ∧ GatherAt w' x b 0 (Gr.normG g) ep [] ∧ w.heap.size ≤ x ∧ w.heap.size ≤ b ∧ Grew w w' := by
  have HC := Lib.hid fun W (q : Grew w W) => check_graph v g W (hv.grew q) hs
  have hck := checkR_nil hr
  rw [hck] at HC
  have HN := Lib.hid fun W (q : Grew w W) => normO_any v g W (hv.grew q) hs hr
  have HRN := Lib.hid (right_norm hr)
  have HSN := Lib.hid (small_norm hr hs)
  have hl := hr.len
  rw [← norm_len hr] at hl
  obtain ⟨a, cap, rfl, hm, -⟩ := hv.openC
  clear hv hs hr hck
  have hmm := @run_makeMap Tryz.prog
  go_enter Tryz.func49, Tryz.ntmps49
  go_wp2_with (first
    | (go_at_call 8; refine (HC.out _ (by repeat (first | with_reducible exact Grew.refl _ | apply Grew.more | apply Grew.alloc | apply Grew.drew | apply Grew.drewN))).mono ?_; rintro e w1 ⟨rfl, R1, n1, rfl⟩)
    | (go_at_call 58; refine (HN.out _ (by repeat (first | with_reducible exact Grew.refl _ | apply Grew.more | apply Grew.alloc | apply Grew.drew | apply Grew.drewN))).mono ?_; rintro e w2 ⟨v2, lc2, rfl, ho2, hi2, R2, n2, rfl⟩; (have hv2 := hi2.at ho2); obtain ⟨a2, c2, rfl, -, -⟩ := hv2.openC; (have HV2 := Lib.hid hv2); (have HO2 := Lib.hid ho2); (have HI2 := Lib.hid hi2); clear hv2 ho2 hi2))
  go_ret2
  refine ⟨_, _, rfl, ⟨_, lc2, heap_new_at _ _ _ (by simp [go_sem]), OwnAt.grew (OwnAt.low HO2.out (by simp [World.more_size])) (by repeat (first | with_reducible exact Grew.refl _ | apply Grew.more | apply Grew.alloc | apply Grew.drew | apply Grew.drewN)), NodesIn.grow (Rel.mono (fun _ _ h => ⟨h.1, ⟨OwnAt.low h.2.1 (by simp [World.more_size]), OwnAt.low h.2.2 (by simp [World.more_size])⟩⟩) HI2.out) (by repeat (first | with_reducible exact Grew.refl _ | apply Grew.more | apply Grew.alloc | apply Grew.drew | apply Grew.drewN))⟩, ⟨⟨_, heap_new_at _ _ _ (by simp [go_sem]), HV2.out.grew (by repeat (first | with_reducible exact Grew.refl _ | apply Grew.more | apply Grew.alloc | apply Grew.drew | apply Grew.drewN))⟩, ?_, HSN.out, hl, Gr.normG_sorted g, HRN.out⟩, by omega, by omega, by repeat (first | with_reducible exact Grew.refl _ | apply Grew.more | apply Grew.alloc | apply Grew.drew | apply Grew.drewN)⟩
  have hm := (MapAt.made ackS ((w.more R1 n1).more R2 n2)).grew (by repeat (first | with_reducible exact Grew.refl _ | apply Grew.more | apply Grew.alloc | apply Grew.drew | apply Grew.drewN))
  rw [World.more_size, World.more_size] at hm
  exact MapAt.grew hm ((Grew.refl _).alloc _)
noncomputable def addR (g : List Gr.Nd) (ep : Int) (m : List (Who × AkC)) (c : AkC) : Int := match Gr.nodeOf g c.node with
  | none => 12
  | some n => if c.ix < 0 ∨ n.par ≤ c.ix then 12 else if c.ep ≠ ep then 1 else if (mfind m (c.node, c.ix)).isSome then 13 else 0
def AddPost (w0 W : World) (x b n : Nat) (g : List Gr.Nd) (ep : Int) (m : List (Who × AkC)) (c : AkC) (e : Ending) (W' : World) : Prop :=
  e = .returned (.int .i64 (addR g ep m c)) ∧ (addR g ep m c ≠ 0 → Grew W W') ∧ (addR g ep m c = 0 → GatherAt W' x b (n + 1) g ep (((c.node, c.ix), c) :: m) ∧ Grew w0 W' ∧ Keep b W W')
def foundP (r : Option Gr.Nd) : Int := match r with
  | some n => n.par
  | none => 0
theorem find_found {r : Option Gr.Nd} {w w' : World} {e : Ending} (h : GivesFind r w e w') : ∃ c : NdC, e = .returned (.tuple #[.agg #[.int .i64 c.id, .int .i64 c.kind, .slice c.af c.nf c.cf, .slice c.ap c.np c.cp, .int .i64 c.par, .int .i64 c.r0, .int .i64 c.r1, .int .i64 c.r2, .int .i64 c.r3, .int .i64 c.r4, .int .i64 c.r5, .int .i64 c.r6, .int .i64 c.r7], .bool r.isSome]) ∧ c.par = foundP r ∧ Grew w w' := by
  cases r with
  | none =>
    obtain ⟨h1, h2⟩ := h
    exact ⟨⟨0, 0, none, 0, 0, none, 0, 0, 0, 0, 0, 0, 0, 0, 0, 0, 0⟩, h1, rfl, h2⟩
  | some n =>
    obtain ⟨c, h1, h2, -, h4⟩ := h
    exact ⟨c, h1, h2.par.symm, h4⟩
def IsFound (b : Bool) (p : Int) (v : Value) (_ : World) : Prop := ∃ c : NdC, v = .tuple #[.agg #[.int .i64 c.id, .int .i64 c.kind, .slice c.af c.nf c.cf, .slice c.ap c.np c.cp, .int .i64 c.par, .int .i64 c.r0, .int .i64 c.r1, .int .i64 c.r2, .int .i64 c.r3, .int .i64 c.r4, .int .i64 c.r5, .int .i64 c.r6, .int .i64 c.r7], .bool b] ∧ c.par = p
theorem IsFound.st (b : Bool) (p : Int) : ∀ v w w', IsFound b p v w → Grew w w' → IsFound b p v w' := fun _ _ _ h _ => h
def IsPar (p : Int) (v : Value) (_ : World) : Prop := ∃ c : NdC, v = .agg #[.int .i64 c.id, .int .i64 c.kind, .slice c.af c.nf c.cf, .slice c.ap c.np c.cp, .int .i64 c.par, .int .i64 c.r0, .int .i64 c.r1, .int .i64 c.r2, .int .i64 c.r3, .int .i64 c.r4, .int .i64 c.r5, .int .i64 c.r6, .int .i64 c.r7] ∧ c.par = p
theorem IsPar.st (p : Int) : ∀ v w w', IsPar p v w → Grew w w' → IsPar p v w' := fun _ _ _ h _ => h
theorem grew_cellS {W W' : World} {a : Addr} {u : Value} (g : Grew W W') (h : W.cell? a = some u) : W'.cell? a = some u := below_keeps g.below a u h
theorem add_any' (w0 W : World) (x b n : Nat) (g : List Gr.Nd) (ep : Int) (m : List (Who × AkC)) (c : AkC) (h : GatherAt W x b n g ep m) (hg : Grew w0 W) (hb : w0.heap.size ≤ b) (hn : n ≤ 1000) (hw : okWho (c.node, c.ix)) :
    Calls Tryz.prog 53 #[.pointer (some ⟨x, 0, none⟩), akv c] W (AddPost w0 W x b n g ep m c) := by
  have HH := Lib.hid h
  have HG := Lib.hid hg
  have HW := Lib.hid hw
  obtain ⟨v, hx, hv⟩ := h.cells
  have HF := Lib.hid fun W2 (q : Grew W W2) => find_any v g c.node W2 (hv.grew q) h.small
  have HLK := Lib.hid fun W2 (q : Grew W W2) => (h.map.grew q).lookOk _ hw Tryz.underlying174 AkC.zero (zeroAck W2)
  obtain ⟨av, cv, rfl, -, -⟩ := hv.openC
  have x0 := cell_of (o := 0) hx
  have x1 := cell_of (o := 1) hx
  have x2 := cell_of (o := 2) hx
  simp at x0 x1 x2
  have px := Pre.mk (heap_lt hx)
  have HX := Lib.hid hx
  clear h hg hw hx hv
  obtain ⟨nd, ix, ce, ae, ne, cae, ax, nx, cax, off⟩ := c
  simp only at HF HLK HW
  unfold akv
  obtain ⟨rq, hrq⟩ : ∃ r, Gr.nodeOf g nd = r := ⟨_, rfl⟩
  rw [hrq] at HF
  have HRQ := Lib.hid hrq
  clear hrq
  go_enter Tryz.func53, Tryz.ntmps53
  go_upto_region 4 with fail
  go_cut [5, 6] (fun s5 s6 wx => ∃ B : Nat, s5 = .pointer (some ⟨B, 0, none⟩) ∧ s6 = .bool rq.isSome ∧ Grew (W.alloc (.cells #[.int .i64 nd, .int .i64 ix, .int .i64 ce, .slice ae ne cae, .slice ax nx cax, .int .i64 off] 59)) wx ∧ W.heap.size + 1 ≤ B ∧ wx.cell? ⟨B, 4, none⟩ = some (.int .i64 (foundP rq)))
  case first =>
    go_region_held3 (fun w' => w'.cell? ⟨x, 0, none⟩ = some (.slice av g.length cv) ∧ w'.cell? ⟨W.heap.size, 0, none⟩ = some (.int .i64 nd)) ((refine ⟨?_, ?_⟩ <;> simp [go_sem, *])) (first
      | (go_simp; go_at_call 79; refine (HF.out _ (by repeat (first | with_reducible exact Grew.refl _ | apply Grew.more | apply Grew.alloc | apply Grew.drew | apply Grew.drewN))).mono ?_; rintro e w2 h9; obtain ⟨c9, rfl, hc9, R3, n3, rfl⟩ := find_found h9; (have HC9 := Lib.hid hc9); clear h9 hc9))
    all_goals
      go_wp2_with fail
      go_meet
      refine ⟨_, rfl, rfl, by repeat (first | with_reducible exact Grew.refl _ | apply Grew.more | apply Grew.alloc | apply Grew.drew | apply Grew.drewN), by omega, ?_⟩
      rw [← HC9.out]
      exact (cell_of (o := 4) (grew_heap (by repeat (first | with_reducible exact Grew.refl _ | apply Grew.more | apply Grew.alloc | apply Grew.drew | apply Grew.drewN)) (heap_new_at _ _ _ (by simp [go_sem])))).trans rfl
  case rest =>
    obtain ⟨B, rfl, rfl, hgw, hB, hpar⟩ := hcut
    generalize wc = W5 at *
    clear wc
    have HGW := Lib.hid (((Grew.refl W).alloc (.cells #[.int .i64 nd, .int .i64 ix, .int .i64 ce, .slice ae ne cae, .slice ax nx cax, .int .i64 off] 59)).trans hgw)
    have hx5 := grew_heap HGW.out HX.out
    have hak : W5.heap[W.heap.size]? = some (.cells #[.int .i64 nd, .int .i64 ix, .int .i64 ce, .slice ae ne cae, .slice ax nx cax, .int .i64 off] 59) := grew_heap hgw (heap_new_at _ _ _ rfl)
    clear x0 x1 x2 px hgw
    have x1 := cell_of (o := 1) hx5
    have x2 := cell_of (o := 2) hx5
    have a0 := cell_of (o := 0) hak
    have a1 := cell_of (o := 1) hak
    have a2 := cell_of (o := 2) hak
    have a3 := cell_of (o := 3) hak
    have a4 := cell_of (o := 4) hak
    have a5 := cell_of (o := 5) hak
    simp at x1 x2 a0 a1 a2 a3 a4 a5
    have px := Pre.mk (heap_lt hx5)
    have pa := Pre.mk (heap_lt hak)
    have pB := Pre.ofCell hpar
    have HX5 := Lib.hid hx5
    have HAK := Lib.hid hak
    have HPAR := Lib.hid hpar
    clear hx5 hak
    have HM5 := Lib.hid fun W2 (q : Grew W5 W2) => HLK.out W2 (HGW.out.trans q)
    obtain ⟨ac, hac⟩ : ∃ ac, (mfind m (nd, ix)).getD AkC.zero = ac := ⟨_, rfl⟩
    obtain ⟨bq, hbq⟩ : ∃ bq, (mfind m (nd, ix)).isSome = bq := ⟨_, rfl⟩
    rw [hac, hbq] at HM5
    obtain ⟨d0, d1, d2, d3, d4, d5, d6, d7, d8, d9⟩ := ac
    have HBQ := Lib.hid hbq
    clear hac hbq
    have hl1 := HM5.out ((W5.alloc (.cells #[.int .i64 nd, .int .i64 ix] 182)).drew) (by repeat (first | with_reducible exact Grew.refl _ | apply Grew.more | apply Grew.alloc | apply Grew.drew | apply Grew.drewN))
    have hl2 := fun o => HM5.out (((W5.alloc (.cells #[.int .i64 nd, .int .i64 ix] 182)).alloc o).drew) (by repeat (first | with_reducible exact Grew.refl _ | apply Grew.more | apply Grew.alloc | apply Grew.drew | apply Grew.drewN))
    simp only [ackS, whK, akv] at hl1 hl2
    go_upto_region 5 with fail
    go_cut [8, 9] (fun s8 s9 wx => s9 = .bool bq ∧ Grew (W5.alloc (.cells #[.int .i64 nd, .int .i64 ix] 182)) wx)
    case first =>
      go_region_held3 (fun w' => w'.cell? ⟨x, 2, none⟩ = some (.map (some b)) ∧ w'.cell? ⟨W5.heap.size, 0, none⟩ = some (.int .i64 nd) ∧ w'.cell? ⟨W5.heap.size, 1, none⟩ = some (.int .i64 ix)) ((refine ⟨?_, ?_, ?_⟩ <;> simp [go_sem, *])) (fail)
      all_goals
        go_wp2_with fail
        go_meet
        exact ⟨rfl, by repeat (first | with_reducible exact Grew.refl _ | apply Grew.more | apply Grew.alloc | apply Grew.drew | apply Grew.drewN)⟩
    case rest =>
      obtain ⟨rfl, hg6⟩ := hcut
      have HG6 := Lib.hid (((Grew.refl W5).alloc (.cells #[.int .i64 nd, .int .i64 ix] 182)).trans hg6)
      have hwh : wc.heap[W5.heap.size]? = some (.cells #[.int .i64 nd, .int .i64 ix] 182) := grew_heap hg6 (heap_new_at _ _ _ rfl)
      have HWH := Lib.hid hwh
      generalize wc = W6 at *
      clear wc hl1 hl2 hg6 hwh
      clear x1 x2 a0 a1 a2 a3 a4 a5 px pa pB hpar
      have HG9 := Lib.hid (HGW.out.trans HG6.out)
      have hx6 := grew_heap HG6.out HX5.out
      have hak6 := grew_heap HG6.out HAK.out
      have hpar := grew_cellS HG6.out HPAR.out
      have x1 := cell_of (o := 1) hx6
      have x2 := cell_of (o := 2) hx6
      have a0 := cell_of (o := 0) hak6
      have a1 := cell_of (o := 1) hak6
      have a2 := cell_of (o := 2) hak6
      have a3 := cell_of (o := 3) hak6
      have a4 := cell_of (o := 4) hak6
      have a5 := cell_of (o := 5) hak6
      have b0 := cell_of (o := 0) HWH.out
      have b1 := cell_of (o := 1) HWH.out
      simp at x1 x2 a0 a1 a2 a3 a4 a5 b0 b1
      have px := Pre.mk (heap_lt hx6)
      have pa := Pre.mk (heap_lt hak6)
      have pB := Pre.ofCell hpar
      have pw := Pre.mk (heap_lt HWH.out)
      clear hx6 hak6
      cases rq with
      | none =>
        have hR : addR g ep m ⟨nd, ix, ce, ae, ne, cae, ax, nx, cax, off⟩ = 12 := by unfold addR; simp only; rw [HRQ.out]
        have HR := Lib.hid hR
        clear hR
        go_wp2
        go_ret
        exact ⟨by rw [HR.out]; rfl, fun _ => HG9.out, fun q => by rw [HR.out] at q; cases q⟩
      | some y =>
        have hRd : addR g ep m ⟨nd, ix, ce, ae, ne, cae, ax, nx, cax, off⟩ = if ix < 0 ∨ y.par ≤ ix then 12 else if ce ≠ ep then 1 else if bq = true then 13 else 0 := by unfold addR; simp only; rw [HRQ.out, ← HBQ.out]
        have hfp : foundP (some y) = y.par := rfl
        rw [hfp] at hpar
        generalize y.par = p at *
        by_cases h1 : ix < 0
        · have HR := Lib.hid (hRd.trans (if_pos (.inl h1)))
          clear hRd
          go_wp2
          go_ret
          exact ⟨by rw [HR.out]; rfl, fun _ => HG9.out, fun q => by rw [HR.out] at q; cases q⟩
        by_cases h2 : p ≤ ix
        · have HR := Lib.hid (hRd.trans (if_pos (.inr h2)))
          clear hRd
          go_wp2
          go_ret
          exact ⟨by rw [HR.out]; rfl, fun _ => HG9.out, fun q => by rw [HR.out] at q; cases q⟩
        have hRd2 := hRd.trans (if_neg (fun q => q.elim h1 h2))
        clear hRd
        by_cases h3 : ce = ep
        case neg =>
          have HR := Lib.hid (hRd2.trans (if_pos h3))
          have hb3 : (ce != ep) = true := by simpa using h3
          clear hRd2 h3
          go_wp2
          refine wp_region_seq 8 Tryz.mixed (by kernel_rfl) (by kernel_rfl) ?_
          iterate 8
            apply Seq.val
            focus
              rintro w1 u ⟨R1, n1, rfl⟩ hF
              simp [moreFacts, Fact.more, Oper.deps, Region.binds, List.filter_cons, World.more_drew] at hF
              simp [putFacts, Oper.deps, Region.binds, List.filter_cons, Region.dstOf, Fact.at, Act.put, World.more_drew]
              go_wp2
              exact ⟨by repeat (first | with_reducible exact Grew.refl _ | apply Grew.more | apply Grew.alloc | apply Grew.drew | apply Grew.drewN), rfl, _, _, rfl, rfl, rfl⟩
          rintro u w1 ⟨R1, n1, rfl⟩ hF
          clear hF
          simp [putFacts, Region.dstOf, Fact.at, Act.put, List.range_succ, World.more_drew]
          go_wp2
          go_ret
          exact ⟨by rw [HR.out]; rfl, fun _ => HG9.out.trans (by repeat (first | with_reducible exact Grew.refl _ | apply Grew.more | apply Grew.alloc | apply Grew.drew | apply Grew.drewN)), fun q => by rw [HR.out] at q; cases q⟩
        subst h3
        have hRd3 := hRd2.trans (if_neg (fun q => q rfl))
        clear hRd2
        cases bq
        case true =>
          have HR := Lib.hid (hRd3.trans (if_pos rfl))
          clear hRd3
          go_wp2
          refine wp_region_seq 8 Tryz.mixed (by kernel_rfl) (by kernel_rfl) ?_
          iterate 8
            apply Seq.val
            focus
              rintro w1 u ⟨R1, n1, rfl⟩ hF
              simp [moreFacts, Fact.more, Oper.deps, Region.binds, List.filter_cons, World.more_drew] at hF
              simp [putFacts, Oper.deps, Region.binds, List.filter_cons, Region.dstOf, Fact.at, Act.put, World.more_drew]
              go_wp2
              exact ⟨by repeat (first | with_reducible exact Grew.refl _ | apply Grew.more | apply Grew.alloc | apply Grew.drew | apply Grew.drewN), rfl, _, _, rfl, rfl, rfl⟩
          rintro u w1 ⟨R1, n1, rfl⟩ hF
          clear hF
          simp [putFacts, Region.dstOf, Fact.at, Act.put, List.range_succ, World.more_drew]
          go_wp2
          go_ret
          exact ⟨by rw [HR.out]; rfl, fun _ => HG9.out.trans (by repeat (first | with_reducible exact Grew.refl _ | apply Grew.more | apply Grew.alloc | apply Grew.drew | apply Grew.drewN)), fun q => by rw [HR.out] at q; cases q⟩
        have HR := Lib.hid (hRd3.trans (if_neg (by decide)))
        have HNO : Hid (∀ z ∈ m, z.1 ≠ (nd, ix)) := Lib.hid (by
          rcases mfind_cases m (nd, ix) with ⟨v, q1, q2⟩ | ⟨q1, q2⟩
          · have := HBQ.out
            rw [q1] at this
            cases this
          · exact q2)
        clear hRd3
        go_wp2
        refine wp_region_seq 8 Tryz.mixed (by kernel_rfl) (by kernel_rfl) ?_
        iterate 8
          apply Seq.val
          focus
            rintro w1 u ⟨R1, n1, rfl⟩ hF
            simp [moreFacts, Fact.more, Oper.deps, Region.binds, List.filter_cons, World.more_drew] at hF
            simp [putFacts, Oper.deps, Region.binds, List.filter_cons, Region.dstOf, Fact.at, Act.put, World.more_drew]
            go_wp2
            exact ⟨by repeat (first | with_reducible exact Grew.refl _ | apply Grew.more | apply Grew.alloc | apply Grew.drew | apply Grew.drewN), rfl, _, _, rfl, rfl, rfl⟩
        rintro u w1 ⟨R1, n1, rfl⟩ hF
        clear hF
        simp [putFacts, Region.dstOf, Fact.at, Act.put, List.range_succ, World.more_drew]
        go_wp2
        refine wp_region_seq 6 Tryz.mixed (by kernel_rfl) (by kernel_rfl) ?_
        iterate 6
          apply Seq.val
          focus
            rintro w1 u ⟨R1, n1, rfl⟩ hF
            simp [moreFacts, Fact.more, Oper.deps, Region.binds, List.filter_cons, World.more_drew] at hF
            simp [putFacts, Oper.deps, Region.binds, List.filter_cons, Region.dstOf, Fact.at, Act.put, World.more_drew]
            go_wp2
            exact ⟨by repeat (first | with_reducible exact Grew.refl _ | apply Grew.more | apply Grew.alloc | apply Grew.drew | apply Grew.drewN), rfl, _, _, rfl, rfl, rfl⟩
        rintro u w1 ⟨R1, n1, rfl⟩ hF
        clear hF
        simp [putFacts, Region.dstOf, Fact.at, Act.put, List.range_succ, World.more_drew]
        refine wpList_mapPut (S := ackS) (w0 := w0) (M := m) rfl (.tmp 64) (.tmp 65) (.tmp 66) 174 rfl Tryz.underlying174 ((HG.out.trans HG9.out).trans (by repeat (first | with_reducible exact Grew.refl _ | apply Grew.more | apply Grew.alloc | apply Grew.drew | apply Grew.drewN))) hb rfl ((HH.out.grew HG9.out).map.grew (by repeat (first | with_reducible exact Grew.refl _ | apply Grew.more | apply Grew.alloc | apply Grew.drew | apply Grew.drewN))) (by unfold maxLen; omega) (nd, ix) ⟨nd, ix, ce, ae, ne, cae, ax, nx, cax, off⟩ HW.out HNO.out rfl rfl ?_
        intro W7 h7 g7 k7
        have H7 := Lib.hid h7
        have G7 := Lib.hid g7
        have K7 := Lib.hid k7
        clear h7 g7 k7
        go_wp2
        go_ret
        refine ⟨by rw [HR.out]; rfl, fun q => absurd HR.out q, fun _ => ⟨GatherAt.put (HH.out.grew HG9.out |>.grew (by repeat (first | with_reducible exact Grew.refl _ | apply Grew.more | apply Grew.alloc | apply Grew.drew | apply Grew.drewN))) K7.out H7.out, G7.out, (Keep.ofGrew (HG9.out.trans (by repeat (first | with_reducible exact Grew.refl _ | apply Grew.more | apply Grew.alloc | apply Grew.drew | apply Grew.drewN)))).trans K7.out⟩⟩
end Go.Proofs.YtpbohimddmploaaGreat
