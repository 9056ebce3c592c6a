import Derived.Test.YtepfdekppnobaaaGreatMb49
import Derived.Test.YtepfdekppnobaaaGreatMb48
/-! snap: Make, without a plan. -/
namespace Go.Proofs.YtepfdekppnobaaaGreat
set_option linter.unusedSimpArgs false
set_option linter.unusedVariables false
open Go.RowKit Ga
set_option maxRecDepth 100000

theorem AllCame.grew {W W' : World} {g : List Gr.Nd} {m : List (Who × AkC)} {f : Who → AkP} (h : AllCame W g m f) (q : Grew W W') : AllCame W' g m f := fun t ht => by
  obtain ⟨c, h1, h2⟩ := h t ht
  exact ⟨c, h1, h2.grew q⟩
def ZMF : Value := .tuple #[.agg #[.int .i64 0, .int .i64 0, .slice none 0 0, .slice none 0 0, .slice none 0 0, .slice none 0 0, .slice none 0 0], .int .i64 1]
def okMake (M pm : Gr.Mf) : Prop := rightB M = true ∧ pm.epoch < M.epoch ∧ pm.graph = M.graph
def MakePost (w : World) (ep : Int) (pm : Gr.Mf) (g : List Gr.Nd) (os : List Int) (xs : List Gr.Ln) (es : List Tab.En) (e : Ending) (w' : World) : Prop :=
  (newOk es = false → e = .returned ZMF ∧ Grew w w') ∧
  (newOk es = true → ∃ s, s.Perm (Tab.newT es) ∧ (s.Pairwise fun a b => Tab.num a ≤ Tab.num b) ∧ (okMake ⟨ep, pm.plans, os, g, s, xs, []⟩ pm → ∃ c' : MfC, e = .returned (.tuple #[.agg #[.int .i64 c'.epoch, .int .i64 c'.plans, .slice c'.ao c'.no c'.co, .slice c'.ag c'.ng c'.cg, .slice c'.ae c'.ne c'.ce, .slice c'.ax c'.nx c'.cx, .slice c'.ap c'.np c'.cp], .int .i64 0]) ∧ MfIs w' c' ⟨ep, pm.plans, os, g, s, xs, []⟩ ∧ Grew w w') ∧
    (¬ okMake ⟨ep, pm.plans, os, g, s, xs, []⟩ pm → e = .returned ZMF ∧ Grew w w'))
open Classical in
theorem eqNds_iff {a b : List Gr.Nd} : eqNds a b = true ↔ a = b := by unfold eqNds; rw [decide_eq_true_eq]
theorem setT_le (m : List Tab.En) (x : Tab.En) : (Tab.setT m x).length ≤ m.length + 1 := by
  unfold Tab.setT
  split
  · rw [List.length_cons]
    have := List.length_filter_le (fun y => Tab.num y != Tab.num x) m
    omega
  · have := List.length_filter_le (fun y => Tab.num y != Tab.num x) m
    omega
theorem newT_le (l : List Tab.En) : (Tab.newT l).length ≤ l.length := by
  have h : ∀ (l m : List Tab.En), (l.foldl Tab.setT m).length ≤ m.length + l.length := by
    intro l
    induction l with
    | nil => intro m; simp
    | cons x l ih =>
      intro m
      have h1 := ih (Tab.setT m x)
      have h2 := setT_le m x
      rw [List.foldl_cons, List.length_cons]
      omega
  have := h l []
  rw [List.length_nil, Nat.zero_add] at this
  exact this
theorem entG_le {W : World} {g : List Gr.Nd} {m : List (Who × AkC)} {f : Who → AkP} (h : AllCame W g m f) : (entG g f (tasksOf g)).length ≤ (tasksOf g).length * 100 :=
  flat_bound fun y hy => by
    obtain ⟨-, -, -, -, -, q4, -⟩ := h y hy
    split
    · simp
    · exact q4
set_option maxHeartbeats 32000000 in
theorem make_nil (x b n : Nat) (g : List Gr.Nd) (ep : Int) (m : List (Who × AkC)) (f : Who → AkP) (c : MfC) (pm : Gr.Mf) (w : World) (h : GatherAt w x b n g ep m) (hn : n ≤ 1000) (hml : m.length = (tasksOf g).length) (hf : AllCame w g m f) (hc : MfIs w c pm) (hpo : pm.graph.Pairwise fun a b => a.id < b.id) (hps : Small pm.graph) (hpl : pm.graph.length ≤ 19) :
    Calls Tryz.prog 12 #[.pointer (some ⟨x, 0, none⟩), .agg #[.int .i64 c.epoch, .int .i64 c.plans, .slice c.ao c.no c.co, .slice c.ag c.ng c.cg, .slice c.ae c.ne c.ce, .slice c.ax c.nx c.cx, .slice c.ap c.np c.cp], .slice none 0 0] w (MakePost w ep pm g (offsG g f (tasksOf g)) (outG g f (tasksOf g)) (entG g f (tasksOf g))) := by
  have HH := Lib.hid h
  have HMI := Lib.hid fun W (q : Grew w W) => missing_any x b n g ep m W (h.grew q) hn
  rw [hml, Int.sub_self] at HMI
  have HGA := Lib.hid fun W (q : Grew w W) => gathered_any x b n g ep m f W (h.grew q) (hf.grew q)
  have HC := Lib.hid hc
  have hes := entG_le hf
  have htl := tasksOf_len g fun y hy => (gather_par h y hy).2
  have hl8 := h.len
  obtain ⟨v, hx, hv⟩ := h.cells
  have hng : Gr.normG g = g := (Gr.norm_unique (List.Perm.refl g) (h.so.imp fun q => by omega) h.right.ids h.right.r7).symm
  have HNO := Lib.hid fun W (q : Grew w W) => normO_any v g W (hv.grew q) h.small h.right
  rw [hng] at HNO
  have HSA := Lib.hid fun W (q : Grew w W) => same_strict _ _ pm.graph g W (hc.g.grew q) (hv.grew q) hps hpl hpo h.small (by have := h.len; omega) h.so
  obtain ⟨av, cv, rfl, -, -⟩ := hv.openC
  have x0 := cell_of (o := 0) hx
  simp at x0
  have px := Pre.mk (heap_lt hx)
  obtain ⟨pe, pp, ao, co, ag, cg, ae, ce, axx, cxx, ap, cp, rfl⟩ := hc.lit
  have HPE : Hid (pm.epoch = pe) := Lib.hid hc.epoch
  have HPP : Hid (pm.plans = pp) := Lib.hid hc.plans
  generalize offsG g f (tasksOf g) = os at *
  generalize outG g f (tasksOf g) = xs at *
  generalize entG g f (tasksOf g) = es at *
  have hgs := h.small
  clear h hn hml hf hc hx hv hpo hps hpl hng
  show Calls Tryz.prog _ #[.pointer (some ⟨x, 0, none⟩), .agg #[.int .i64 pe, .int .i64 pp, .slice ao pm.offs.length co, .slice ag pm.graph.length cg, .slice ae pm.ents.length ce, .slice axx pm.out.length cxx, .slice ap pm.plan.length cp], .slice none 0 0] w _
  go_enter Tryz.func12, Tryz.ntmps12
  go_wp2_with (first
    | (go_at_call 24; refine (HMI.out _ (by repeat (first | with_reducible exact Grew.refl _ | apply Grew.more | apply Grew.alloc | apply Grew.drew | apply Grew.drewN))).mono ?_; rintro e w1 ⟨rfl, R1, n1, rfl⟩)
    | fail)
  refine (HGA.out _ (by repeat (first | with_reducible exact Grew.refl _ | apply Grew.more | apply Grew.alloc | apply Grew.drew | apply Grew.drewN))).mono ?_
  rintro e w2 ⟨ao2, co2, ax2, cx2, tv, code, rfl, hO, hX, hg2, hcase⟩
  have HO := Lib.hid hO
  have HX := Lib.hid hX
  have hP2 : w2.heap[w.heap.size]? = some (.cells #[.int .i64 pe, .int .i64 pp, .slice ao pm.offs.length co, .slice ag pm.graph.length cg, .slice ae pm.ents.length ce, .slice axx pm.out.length cxx, .slice ap pm.plan.length cp] 42) := grew_heap hg2 (grew_heap (by repeat (first | with_reducible exact Grew.refl _ | apply Grew.more | apply Grew.alloc | apply Grew.drew | apply Grew.drewN)) (heap_new_at w _ _ rfl))
  have hZ2 : w2.heap[w.heap.size + 1]? = some (.cells #[.int .i64 0, .int .i64 0, .slice none 0 0, .slice none 0 0, .slice none 0 0, .slice none 0 0, .slice none 0 0] 42) := grew_heap hg2 (grew_heap (by repeat (first | with_reducible exact Grew.refl _ | apply Grew.more | apply Grew.alloc | apply Grew.drew | apply Grew.drewN)) (heap_new_at _ _ _ (by simp [World.size_alloc])))
  have hsz := hg2.below.size
  simp only [World.more_size, World.size_alloc] at hsz
  have HGW : Hid (Grew w w2) := Lib.hid (Grew.trans (by repeat (first | with_reducible exact Grew.refl _ | apply Grew.more | apply Grew.alloc | apply Grew.drew | apply Grew.drewN)) hg2)
  have HP2 := Lib.hid hP2
  have HZ2 := Lib.hid hZ2
  have hlow : w.heap.size + 2 ≤ (((w.alloc (.cells #[.int .i64 pe, .int .i64 pp, .slice ao pm.offs.length co, .slice ag pm.graph.length cg, .slice ae pm.ents.length ce, .slice axx pm.out.length cxx, .slice ap pm.plan.length cp] 42)).alloc (.cells #[.int .i64 0, .int .i64 0, .slice none 0 0, .slice none 0 0, .slice none 0 0, .slice none 0 0, .slice none 0 0] 42)).more R1 n1).heap.size := by simp only [World.more_size, World.size_alloc]; omega
  have HO2 := Lib.hid (OwnAt.low HO.out hlow)
  have HX2 := Lib.hid (OwnAt.low HX.out hlow)
  have hsz2 : w.heap.size + 2 ≤ w2.heap.size := by omega
  clear hO hX hg2 hsz hlow HO HX
  have pc0 := cell_of (o := 0) hP2
  have pc1 := cell_of (o := 1) hP2
  have pc2 := cell_of (o := 2) hP2
  have pc3 := cell_of (o := 3) hP2
  have pc4 := cell_of (o := 4) hP2
  have pc5 := cell_of (o := 5) hP2
  have pc6 := cell_of (o := 6) hP2
  have z0 := cell_of (o := 0) hZ2
  have z1 := cell_of (o := 1) hZ2
  have z2 := cell_of (o := 2) hZ2
  have z3 := cell_of (o := 3) hZ2
  have z4 := cell_of (o := 4) hZ2
  have z5 := cell_of (o := 5) hZ2
  have z6 := cell_of (o := 6) hZ2
  simp at pc0 pc1 pc2 pc3 pc4 pc5 pc6 z0 z1 z2 z3 z4 z5 z6
  have pp4 := Pre.mk (heap_lt hP2)
  have pp6 := Pre.mk (heap_lt hZ2)
  have f0 := frozen_of (o := 0) hZ2
  have f1 := frozen_of (o := 1) hZ2
  have f2 := frozen_of (o := 2) hZ2
  have f3 := frozen_of (o := 3) hZ2
  have f4 := frozen_of (o := 4) hZ2
  have f5 := frozen_of (o := 5) hZ2
  have f6 := frozen_of (o := 6) hZ2
  have x02 := grew_cellS HGW.out x0
  have px2 := Pre.ofCell x02
  clear hP2 hZ2
  rcases hcase with ⟨hok, rfl, tt, bt, rfl, hT, ht1, ht2⟩ | ⟨hok, rfl, rfl⟩
  case inr =>
    have HOK := Lib.hid hok
    clear hok
    go_wp2_with fail
    refine bodyPost_ret (v := ZMF) (by simp [results, Tryz.results12, go_sem, ZMF, pp6, z0, z1, z2, z3, z4, z5, z6]) rfl ?_
    refine ⟨fun _ => ⟨rfl, ?_⟩, fun q => absurd (HOK.out.symm.trans q) (by decide)⟩
    repeat (first | with_reducible exact HGW.out | with_reducible apply Grew.more | with_reducible apply Grew.alloc | refine Grew.set ?_ (by omega) _)
  have HOK := Lib.hid hok
  have HT := Lib.hid hT
  clear hok hT
  go_upto_region 21 with (first
    | (go_at_call 30; go_loud (refine (HNO.out _ (HGW.out.trans (by repeat (first | with_reducible exact Grew.refl _ | apply Grew.more | apply Grew.alloc | apply Grew.drew | apply Grew.drewN)))).mono ?_); rintro e w3 ⟨v3, lc3, rfl, hv3, hi3, R3, n3, rfl⟩; obtain ⟨a3, c3, hv9, -, -⟩ := (hi3.at hv3).openC; subst hv9; (have HV3 : Hid (NodesV _ g _ _) := Lib.hid ⟨a3, c3, lc3, rfl, hv3, hi3⟩); clear hv3 hi3)
    | (go_at_call 44; go_loud (refine (tabAll_any _ tt bt _ _ (HT.out.grew (by repeat (first | with_reducible exact Grew.refl _ | apply Grew.more | apply Grew.alloc | apply Grew.drew | apply Grew.drewN)))).mono ?_); rintro e w4 ⟨v4, s, rfl, hs4, hp4, hso4, R4, n4, rfl⟩; obtain ⟨a4, c4, rfl⟩ := (OwnAt.rows hs4 encEn_len).len; (have HS4 := Lib.hid hs4); (have HP4 := Lib.hid hp4); (have HSO4 := Lib.hid hso4); clear hs4 hp4 hso4))
  have h8 : SameBut w2.heap.size (((w2.alloc (.cells #[.int .i64 ep, .int .i64 pp, .slice ao2 os.length co2, .slice none 0 0, .slice none 0 0, .slice ax2 xs.length cx2, .slice none 0 0] 42)).more R3 n3).more R4 n4) (((w2.alloc (.cells #[.int .i64 ep, .int .i64 pp, .slice ao2 os.length co2, .slice a3 g.length c3, .slice a4 s.length c4, .slice ax2 xs.length cx2, .slice none 0 0] 42)).more R3 n3).more R4 n4) := (((SameBut.mk w2 _ _).more R3 n3).more R4 n4)
  have HMF : Hid (∀ W', SameBut (w.heap.size + 1) (((w2.alloc (.cells #[.int .i64 ep, .int .i64 pp, .slice ao2 os.length co2, .slice a3 g.length c3, .slice a4 s.length c4, .slice ax2 xs.length cx2, .slice none 0 0] 42)).more R3 n3).more R4 n4) W' → MfIs W' ⟨ep, pp, ao2, os.length, co2, a3, g.length, c3, a4, s.length, c4, ax2, xs.length, cx2, none, 0, 0⟩ ⟨ep, pp, os, g, s, xs, []⟩) := Lib.hid fun W' h6 => by
    have ne8 : ∀ {α : Type} {t : TypeId} {k : Nat} {enc : α → List Value} {v : Value} {l : List α}, OwnAt (w.heap.size + 2) t k enc w2 v l → OwnAt (w.heap.size + 2) t k enc W' v l := fun {α t k enc v l} ho => OwnAt.same ho fun b hb => by
      obtain ⟨hge, cs, hc⟩ := OwnAt.block ho hb
      have hlt := heap_lt hc
      rw [h6.2 b (by omega), h8.2 b (by omega)]
      exact grew_heap (by repeat (first | with_reducible exact Grew.refl _ | apply Grew.more | apply Grew.alloc | apply Grew.drew | apply Grew.drewN)) hc |>.trans hc.symm
    have up8 : ∀ (b : Nat), w2.heap.size + 1 ≤ b → W'.heap[b]? = ((((w2.alloc (.cells #[.int .i64 ep, .int .i64 pp, .slice ao2 os.length co2, .slice none 0 0, .slice none 0 0, .slice ax2 xs.length cx2, .slice none 0 0] 42)).more R3 n3).more R4 n4).heap[b]?) := fun b hb => by
      rw [h6.2 b (by omega), h8.2 b (by omega)]
    have hv := NodesV.st _ _ _ _ _ HV3.out (by repeat (first | with_reducible exact Grew.refl _ | apply Grew.more | apply Grew.alloc | apply Grew.drew | apply Grew.drewN) : Grew _ ((((w2.alloc (.cells #[.int .i64 ep, .int .i64 pp, .slice ao2 os.length co2, .slice none 0 0, .slice none 0 0, .slice ax2 xs.length cx2, .slice none 0 0] 42)).more R3 n3).more R4 n4)))
    refine ⟨rfl, rfl, OwnAt.rows (ne8 HO2.out) encN_len, (hv.keep fun b h1 _ => up8 b (by simpa [World.size_alloc] using h1)).at', OwnAt.rows (OwnAt.same HS4.out fun b hb => up8 b ?_) encEn_len, OwnAt.rows (ne8 HX2.out) encLn_len, StepsAt.nil _⟩
    have := HS4.out.lt b hb
    simp only [World.more_size, World.size_alloc] at this
    omega
  have hM8 : (((w2.alloc (.cells #[.int .i64 ep, .int .i64 pp, .slice ao2 os.length co2, .slice a3 g.length c3, .slice a4 s.length c4, .slice ax2 xs.length cx2, .slice none 0 0] 42)).more R3 n3).more R4 n4).heap[w2.heap.size]? = some (.cells #[.int .i64 ep, .int .i64 pp, .slice ao2 os.length co2, .slice a3 g.length c3, .slice a4 s.length c4, .slice ax2 xs.length cx2, .slice none 0 0] 42) := grew_heap (by repeat (first | with_reducible exact Grew.refl _ | apply Grew.more | apply Grew.alloc | apply Grew.drew | apply Grew.drewN)) (heap_new_at w2 _ _ rfl)
  have hPx : (((w2.alloc (.cells #[.int .i64 ep, .int .i64 pp, .slice ao2 os.length co2, .slice a3 g.length c3, .slice a4 s.length c4, .slice ax2 xs.length cx2, .slice none 0 0] 42)).more R3 n3).more R4 n4).heap[w.heap.size]? = some (.cells #[.int .i64 pe, .int .i64 pp, .slice ao pm.offs.length co, .slice ag pm.graph.length cg, .slice ae pm.ents.length ce, .slice axx pm.out.length cxx, .slice ap pm.plan.length cp] 42) := grew_heap (by repeat (first | with_reducible exact Grew.refl _ | apply Grew.more | apply Grew.alloc | apply Grew.drew | apply Grew.drewN)) HP2.out
  have hZx : (((w2.alloc (.cells #[.int .i64 ep, .int .i64 pp, .slice ao2 os.length co2, .slice a3 g.length c3, .slice a4 s.length c4, .slice ax2 xs.length cx2, .slice none 0 0] 42)).more R3 n3).more R4 n4).heap[w.heap.size + 1]? = some (.cells #[.int .i64 0, .int .i64 0, .slice none 0 0, .slice none 0 0, .slice none 0 0, .slice none 0 0, .slice none 0 0] 42) := grew_heap (by repeat (first | with_reducible exact Grew.refl _ | apply Grew.more | apply Grew.alloc | apply Grew.drew | apply Grew.drewN)) HZ2.out
  have hgx : Grew w (((w2.alloc (.cells #[.int .i64 ep, .int .i64 pp, .slice ao2 os.length co2, .slice a3 g.length c3, .slice a4 s.length c4, .slice ax2 xs.length cx2, .slice none 0 0] 42)).more R3 n3).more R4 n4) := HGW.out.trans (by repeat (first | with_reducible exact Grew.refl _ | apply Grew.more | apply Grew.alloc | apply Grew.drew | apply Grew.drewN))
  have hsl : s.length ≤ 100000 := by
    have h1 := HP4.out.length_eq
    have h2 := newT_le es
    omega
  clear h8 HO2 HX2 HV3 HS4 HT pc0 pc1 pc2 pc3 pc4 pc5 pc6 z0 z1 z2 z3 z4 z5 z6 f0 f1 f2 f3 f4 f5 f6 pp4 pp6 x02 px2
  generalize ((w2.alloc (.cells #[.int .i64 ep, .int .i64 pp, .slice ao2 os.length co2, .slice a3 g.length c3, .slice a4 s.length c4, .slice ax2 xs.length cx2, .slice none 0 0] 42)).more R3 n3).more R4 n4 = wx at *
  have HRT := Lib.hid fun W (q : Grew wx W) => manRight_any ⟨ep, pp, ao2, os.length, co2, a3, g.length, c3, a4, s.length, c4, ax2, xs.length, cx2, none, 0, 0⟩ ⟨ep, pp, os, g, s, xs, []⟩ W ((HMF.out wx (SameBut.refl _ _)).grew q) hgs (fun s hs => by cases hs) hsl
  have HSA2 := Lib.hid fun W (q : Grew wx W) => HSA.out W (hgx.trans q)
  have HGX := Lib.hid hgx
  have m0 := cell_of (o := 0) hM8
  have m1 := cell_of (o := 1) hM8
  have m2 := cell_of (o := 2) hM8
  have m3 := cell_of (o := 3) hM8
  have m4 := cell_of (o := 4) hM8
  have m5 := cell_of (o := 5) hM8
  have m6 := cell_of (o := 6) hM8
  have q0 := cell_of (o := 0) hPx
  have q1 := cell_of (o := 1) hPx
  have q2 := cell_of (o := 2) hPx
  have q3 := cell_of (o := 3) hPx
  have q4 := cell_of (o := 4) hPx
  have q5 := cell_of (o := 5) hPx
  have q6 := cell_of (o := 6) hPx
  have z0 := cell_of (o := 0) hZx
  have z1 := cell_of (o := 1) hZx
  have z2 := cell_of (o := 2) hZx
  have z3 := cell_of (o := 3) hZx
  have z4 := cell_of (o := 4) hZx
  have z5 := cell_of (o := 5) hZx
  have z6 := cell_of (o := 6) hZx
  simp at m0 m1 m2 m3 m4 m5 m6 q0 q1 q2 q3 q4 q5 q6 z0 z1 z2 z3 z4 z5 z6
  have f0 := frozen_of (o := 0) hZx
  have f1 := frozen_of (o := 1) hZx
  have f2 := frozen_of (o := 2) hZx
  have f3 := frozen_of (o := 3) hZx
  have f4 := frozen_of (o := 4) hZx
  have f5 := frozen_of (o := 5) hZx
  have f6 := frozen_of (o := 6) hZx
  have pm8 := Pre.mk (heap_lt hM8)
  have pmP := Pre.mk (heap_lt hPx)
  have pmZ := Pre.mk (heap_lt hZx)
  have x02 := grew_cellS hgx x0
  have px2 := Pre.ofCell x02
  clear hM8 hPx hZx hgx hsl x0 px
  cases hrb : rightB ⟨ep, pp, os, g, s, xs, []⟩
  · rw [hrb] at HRT
    have HRB := Lib.hid hrb
    clear hrb
    refine wp_region_seq 20 Tryz.mixed (by kernel_rfl) (by kernel_rfl) ?_
    iterate 1
      apply Seq.val
      focus
        rintro w1 u ⟨R1, n1, rfl⟩ hF
        simp [moreFacts, Fact.more, Oper.deps, Region.binds, List.filter_cons, World.more_drew] at hF
        simp [putFacts, Oper.deps, Region.binds, List.filter_cons, Region.dstOf, Fact.at, Act.put, World.more_drew]
        go_wp2
        exact ⟨by repeat (first | with_reducible exact Grew.refl _ | apply Grew.more | apply Grew.alloc | apply Grew.drew | apply Grew.drewN), rfl, _, _, rfl, rfl, rfl⟩
    apply Seq.val
    focus
      rintro w1 u ⟨R1, n1, rfl⟩ hF
      simp [moreFacts, Fact.more, Oper.deps, Region.binds, List.filter_cons, World.more_drew] at hF
      simp [putFacts, Oper.deps, Region.binds, List.filter_cons, Region.dstOf, Fact.at, Act.put, World.more_drew]
      go_wp2_with (first
        | (go_at_call 10; go_loud (refine (HRT.out _ (by repeat (first | with_reducible exact Grew.refl _ | apply Grew.more | apply Grew.alloc | apply Grew.drew | apply Grew.drewN))).mono ?_); rintro e w5 ⟨rfl, R5, n5, rfl⟩)
        )
      exact ⟨by repeat (first | with_reducible exact Grew.refl _ | apply Grew.more | apply Grew.alloc | apply Grew.drew | apply Grew.drewN), rfl, _, _, rfl, rfl, rfl⟩
    iterate 18
      apply Seq.val
      focus
        rintro w1 u ⟨R1, n1, rfl⟩ hF
        simp [moreFacts, Fact.more, Oper.deps, Region.binds, List.filter_cons, World.more_drew] at hF
        simp [putFacts, Oper.deps, Region.binds, List.filter_cons, Region.dstOf, Fact.at, Act.put, World.more_drew]
        go_wp2
        exact ⟨by repeat (first | with_reducible exact Grew.refl _ | apply Grew.more | apply Grew.alloc | apply Grew.drew | apply Grew.drewN), rfl, _, _, rfl, rfl, rfl⟩
    rintro u w1 ⟨R1, n1, rfl⟩ hF
    clear hF
    simp [putFacts, Region.dstOf, Fact.at, Act.put, List.range_succ, World.more_drew]
    go_wp2_with fail
    refine bodyPost_ret (v := ZMF) (by simp [results, Tryz.results12, go_sem, ZMF, pmZ, z0, z1, z2, z3, z4, z5, z6]) rfl ?_
    unfold MakePost
    rw [HPP.out]
    refine ⟨fun q => absurd (HOK.out.symm.trans q) (by decide), fun _ => ⟨s, HP4.out, HSO4.out, fun q => ?_, fun _ => ⟨rfl, ?_⟩⟩⟩
    · exact absurd q.1 (by rw [HRB.out]; decide)
    · repeat (first | with_reducible exact HGX.out | with_reducible apply Grew.more | with_reducible apply Grew.alloc | refine Grew.set ?_ (by omega) _)
  rw [hrb] at HRT
  have HRB := Lib.hid hrb
  clear hrb
  cases hd : decide (ep ≤ pe)
  case true =>
    have HD := Lib.hid hd
    clear hd
    refine wp_region_seq 20 Tryz.mixed (by kernel_rfl) (by kernel_rfl) ?_
    iterate 1
      apply Seq.val
      focus
        rintro w1 u ⟨R1, n1, rfl⟩ hF
        simp [moreFacts, Fact.more, Oper.deps, Region.binds, List.filter_cons, World.more_drew] at hF
        simp [putFacts, Oper.deps, Region.binds, List.filter_cons, Region.dstOf, Fact.at, Act.put, World.more_drew]
        go_wp2
        exact ⟨by repeat (first | with_reducible exact Grew.refl _ | apply Grew.more | apply Grew.alloc | apply Grew.drew | apply Grew.drewN), rfl, _, _, rfl, rfl, rfl⟩
    apply Seq.val
    focus
      rintro w1 u ⟨R1, n1, rfl⟩ hF
      simp [moreFacts, Fact.more, Oper.deps, Region.binds, List.filter_cons, World.more_drew] at hF
      simp [putFacts, Oper.deps, Region.binds, List.filter_cons, Region.dstOf, Fact.at, Act.put, World.more_drew]
      go_wp2_with (first
        | (go_at_call 10; go_loud (refine (HRT.out _ (by repeat (first | with_reducible exact Grew.refl _ | apply Grew.more | apply Grew.alloc | apply Grew.drew | apply Grew.drewN))).mono ?_); rintro e w5 ⟨rfl, R5, n5, rfl⟩)
        )
      exact ⟨by repeat (first | with_reducible exact Grew.refl _ | apply Grew.more | apply Grew.alloc | apply Grew.drew | apply Grew.drewN), rfl, _, _, rfl, rfl, rfl⟩
    iterate 6
      apply Seq.val
      focus
        rintro w1 u ⟨R1, n1, rfl⟩ hF
        simp [moreFacts, Fact.more, Oper.deps, Region.binds, List.filter_cons, World.more_drew] at hF
        simp [putFacts, Oper.deps, Region.binds, List.filter_cons, Region.dstOf, Fact.at, Act.put, World.more_drew]
        go_wp2
        exact ⟨by repeat (first | with_reducible exact Grew.refl _ | apply Grew.more | apply Grew.alloc | apply Grew.drew | apply Grew.drewN), rfl, _, _, rfl, rfl, rfl⟩
    apply Seq.val
    focus
      rintro w1 u ⟨R1, n1, rfl⟩ hF
      simp [moreFacts, Fact.more, Oper.deps, Region.binds, List.filter_cons, World.more_drew] at hF
      simp [putFacts, Oper.deps, Region.binds, List.filter_cons, Region.dstOf, Fact.at, Act.put, World.more_drew]
      have hd := HD.out
      go_wp2
      exact ⟨by repeat (first | with_reducible exact Grew.refl _ | apply Grew.more | apply Grew.alloc | apply Grew.drew | apply Grew.drewN), rfl, _, _, rfl, rfl, rfl⟩
    iterate 11
      apply Seq.val
      focus
        rintro w1 u ⟨R1, n1, rfl⟩ hF
        simp [moreFacts, Fact.more, Oper.deps, Region.binds, List.filter_cons, World.more_drew] at hF
        simp [putFacts, Oper.deps, Region.binds, List.filter_cons, Region.dstOf, Fact.at, Act.put, World.more_drew]
        go_wp2
        exact ⟨by repeat (first | with_reducible exact Grew.refl _ | apply Grew.more | apply Grew.alloc | apply Grew.drew | apply Grew.drewN), rfl, _, _, rfl, rfl, rfl⟩
    rintro u w1 ⟨R1, n1, rfl⟩ hF
    clear hF
    simp [putFacts, Region.dstOf, Fact.at, Act.put, List.range_succ, World.more_drew]
    go_wp2_with fail
    refine bodyPost_ret (v := ZMF) (by simp [results, Tryz.results12, go_sem, ZMF, pmZ, z0, z1, z2, z3, z4, z5, z6]) rfl ?_
    unfold MakePost
    rw [HPP.out]
    refine ⟨fun q => absurd (HOK.out.symm.trans q) (by decide), fun _ => ⟨s, HP4.out, HSO4.out, fun q => ?_, fun _ => ⟨rfl, ?_⟩⟩⟩
    · have h1 : pm.epoch < ep := q.2.1
      rw [HPE.out] at h1
      exact absurd h1 (Int.not_lt.2 (of_decide_eq_true HD.out))
    · repeat (first | with_reducible exact HGX.out | with_reducible apply Grew.more | with_reducible apply Grew.alloc | refine Grew.set ?_ (by omega) _)
  have HD := Lib.hid hd
  clear hd
  cases heq : eqNds pm.graph g
  · rw [heq] at HSA2
    have HQ := Lib.hid heq
    clear heq
    refine wp_region_seq 20 Tryz.mixed (by kernel_rfl) (by kernel_rfl) ?_
    iterate 1
      apply Seq.val
      focus
        rintro w1 u ⟨R1, n1, rfl⟩ hF
        simp [moreFacts, Fact.more, Oper.deps, Region.binds, List.filter_cons, World.more_drew] at hF
        simp [putFacts, Oper.deps, Region.binds, List.filter_cons, Region.dstOf, Fact.at, Act.put, World.more_drew]
        go_wp2
        exact ⟨by repeat (first | with_reducible exact Grew.refl _ | apply Grew.more | apply Grew.alloc | apply Grew.drew | apply Grew.drewN), rfl, _, _, rfl, rfl, rfl⟩
    apply Seq.val
    focus
      rintro w1 u ⟨R1, n1, rfl⟩ hF
      simp [moreFacts, Fact.more, Oper.deps, Region.binds, List.filter_cons, World.more_drew] at hF
      simp [putFacts, Oper.deps, Region.binds, List.filter_cons, Region.dstOf, Fact.at, Act.put, World.more_drew]
      go_wp2_with (first
        | (go_at_call 10; go_loud (refine (HRT.out _ (by repeat (first | with_reducible exact Grew.refl _ | apply Grew.more | apply Grew.alloc | apply Grew.drew | apply Grew.drewN))).mono ?_); rintro e w5 ⟨rfl, R5, n5, rfl⟩)
        )
      exact ⟨by repeat (first | with_reducible exact Grew.refl _ | apply Grew.more | apply Grew.alloc | apply Grew.drew | apply Grew.drewN), rfl, _, _, rfl, rfl, rfl⟩
    iterate 6
      apply Seq.val
      focus
        rintro w1 u ⟨R1, n1, rfl⟩ hF
        simp [moreFacts, Fact.more, Oper.deps, Region.binds, List.filter_cons, World.more_drew] at hF
        simp [putFacts, Oper.deps, Region.binds, List.filter_cons, Region.dstOf, Fact.at, Act.put, World.more_drew]
        go_wp2
        exact ⟨by repeat (first | with_reducible exact Grew.refl _ | apply Grew.more | apply Grew.alloc | apply Grew.drew | apply Grew.drewN), rfl, _, _, rfl, rfl, rfl⟩
    apply Seq.val
    focus
      rintro w1 u ⟨R1, n1, rfl⟩ hF
      simp [moreFacts, Fact.more, Oper.deps, Region.binds, List.filter_cons, World.more_drew] at hF
      simp [putFacts, Oper.deps, Region.binds, List.filter_cons, Region.dstOf, Fact.at, Act.put, World.more_drew]
      have hd := HD.out
      go_wp2
      exact ⟨by repeat (first | with_reducible exact Grew.refl _ | apply Grew.more | apply Grew.alloc | apply Grew.drew | apply Grew.drewN), rfl, _, _, rfl, rfl, rfl⟩
    iterate 8
      apply Seq.val
      focus
        rintro w1 u ⟨R1, n1, rfl⟩ hF
        simp [moreFacts, Fact.more, Oper.deps, Region.binds, List.filter_cons, World.more_drew] at hF
        simp [putFacts, Oper.deps, Region.binds, List.filter_cons, Region.dstOf, Fact.at, Act.put, World.more_drew]
        go_wp2
        exact ⟨by repeat (first | with_reducible exact Grew.refl _ | apply Grew.more | apply Grew.alloc | apply Grew.drew | apply Grew.drewN), rfl, _, _, rfl, rfl, rfl⟩
    apply Seq.val
    focus
      rintro w1 u ⟨R1, n1, rfl⟩ hF
      simp [moreFacts, Fact.more, Oper.deps, Region.binds, List.filter_cons, World.more_drew] at hF
      simp [putFacts, Oper.deps, Region.binds, List.filter_cons, Region.dstOf, Fact.at, Act.put, World.more_drew]
      go_wp2_with (first
        | (go_at_call 45; go_loud (refine (HSA2.out _ (by repeat (first | with_reducible exact Grew.refl _ | apply Grew.more | apply Grew.alloc | apply Grew.drew | apply Grew.drewN))).mono ?_); rintro e w5 ⟨rfl, R5, n5, rfl⟩)
        )
      exact ⟨by repeat (first | with_reducible exact Grew.refl _ | apply Grew.more | apply Grew.alloc | apply Grew.drew | apply Grew.drewN), rfl, _, _, rfl, rfl, rfl⟩
    iterate 2
      apply Seq.val
      focus
        rintro w1 u ⟨R1, n1, rfl⟩ hF
        simp [moreFacts, Fact.more, Oper.deps, Region.binds, List.filter_cons, World.more_drew] at hF
        simp [putFacts, Oper.deps, Region.binds, List.filter_cons, Region.dstOf, Fact.at, Act.put, World.more_drew]
        go_wp2
        exact ⟨by repeat (first | with_reducible exact Grew.refl _ | apply Grew.more | apply Grew.alloc | apply Grew.drew | apply Grew.drewN), rfl, _, _, rfl, rfl, rfl⟩
    rintro u w1 ⟨R1, n1, rfl⟩ hF
    clear hF
    simp [putFacts, Region.dstOf, Fact.at, Act.put, List.range_succ, World.more_drew]
    go_wp2_with fail
    refine bodyPost_ret (v := ZMF) (by simp [results, Tryz.results12, go_sem, ZMF, pmZ, z0, z1, z2, z3, z4, z5, z6]) rfl ?_
    unfold MakePost
    rw [HPP.out]
    refine ⟨fun q => absurd (HOK.out.symm.trans q) (by decide), fun _ => ⟨s, HP4.out, HSO4.out, fun q => ?_, fun _ => ⟨rfl, ?_⟩⟩⟩
    · exact absurd (eqNds_iff.2 q.2.2) (by rw [HQ.out]; decide)
    · repeat (first | with_reducible exact HGX.out | with_reducible apply Grew.more | with_reducible apply Grew.alloc | refine Grew.set ?_ (by omega) _)
  rw [heq] at HSA2
  have HQ := Lib.hid heq
  clear heq
  refine wp_region_seq 20 Tryz.mixed (by kernel_rfl) (by kernel_rfl) ?_
  iterate 1
    apply Seq.val
    focus
      rintro w1 u ⟨R1, n1, rfl⟩ hF
      simp [moreFacts, Fact.more, Oper.deps, Region.binds, List.filter_cons, World.more_drew] at hF
      simp [putFacts, Oper.deps, Region.binds, List.filter_cons, Region.dstOf, Fact.at, Act.put, World.more_drew]
      go_wp2
      exact ⟨by repeat (first | with_reducible exact Grew.refl _ | apply Grew.more | apply Grew.alloc | apply Grew.drew | apply Grew.drewN), rfl, _, _, rfl, rfl, rfl⟩
  apply Seq.val
  focus
    rintro w1 u ⟨R1, n1, rfl⟩ hF
    simp [moreFacts, Fact.more, Oper.deps, Region.binds, List.filter_cons, World.more_drew] at hF
    simp [putFacts, Oper.deps, Region.binds, List.filter_cons, Region.dstOf, Fact.at, Act.put, World.more_drew]
    go_wp2_with (first
      | (go_at_call 10; go_loud (refine (HRT.out _ (by repeat (first | with_reducible exact Grew.refl _ | apply Grew.more | apply Grew.alloc | apply Grew.drew | apply Grew.drewN))).mono ?_); rintro e w5 ⟨rfl, R5, n5, rfl⟩)
      )
    exact ⟨by repeat (first | with_reducible exact Grew.refl _ | apply Grew.more | apply Grew.alloc | apply Grew.drew | apply Grew.drewN), rfl, _, _, rfl, rfl, rfl⟩
  iterate 6
    apply Seq.val
    focus
      rintro w1 u ⟨R1, n1, rfl⟩ hF
      simp [moreFacts, Fact.more, Oper.deps, Region.binds, List.filter_cons, World.more_drew] at hF
      simp [putFacts, Oper.deps, Region.binds, List.filter_cons, Region.dstOf, Fact.at, Act.put, World.more_drew]
      go_wp2
      exact ⟨by repeat (first | with_reducible exact Grew.refl _ | apply Grew.more | apply Grew.alloc | apply Grew.drew | apply Grew.drewN), rfl, _, _, rfl, rfl, rfl⟩
  apply Seq.val
  focus
    rintro w1 u ⟨R1, n1, rfl⟩ hF
    simp [moreFacts, Fact.more, Oper.deps, Region.binds, List.filter_cons, World.more_drew] at hF
    simp [putFacts, Oper.deps, Region.binds, List.filter_cons, Region.dstOf, Fact.at, Act.put, World.more_drew]
    have hd := HD.out
    go_wp2
    exact ⟨by repeat (first | with_reducible exact Grew.refl _ | apply Grew.more | apply Grew.alloc | apply Grew.drew | apply Grew.drewN), rfl, _, _, rfl, rfl, rfl⟩
  iterate 8
    apply Seq.val
    focus
      rintro w1 u ⟨R1, n1, rfl⟩ hF
      simp [moreFacts, Fact.more, Oper.deps, Region.binds, List.filter_cons, World.more_drew] at hF
      simp [putFacts, Oper.deps, Region.binds, List.filter_cons, Region.dstOf, Fact.at, Act.put, World.more_drew]
      go_wp2
      exact ⟨by repeat (first | with_reducible exact Grew.refl _ | apply Grew.more | apply Grew.alloc | apply Grew.drew | apply Grew.drewN), rfl, _, _, rfl, rfl, rfl⟩
  apply Seq.val
  focus
    rintro w1 u ⟨R1, n1, rfl⟩ hF
    simp [moreFacts, Fact.more, Oper.deps, Region.binds, List.filter_cons, World.more_drew] at hF
    simp [putFacts, Oper.deps, Region.binds, List.filter_cons, Region.dstOf, Fact.at, Act.put, World.more_drew]
    go_wp2_with (first
      | (go_at_call 45; go_loud (refine (HSA2.out _ (by repeat (first | with_reducible exact Grew.refl _ | apply Grew.more | apply Grew.alloc | apply Grew.drew | apply Grew.drewN))).mono ?_); rintro e w5 ⟨rfl, R5, n5, rfl⟩)
      )
    exact ⟨by repeat (first | with_reducible exact Grew.refl _ | apply Grew.more | apply Grew.alloc | apply Grew.drew | apply Grew.drewN), rfl, _, _, rfl, rfl, rfl⟩
  iterate 2
    apply Seq.val
    focus
      rintro w1 u ⟨R1, n1, rfl⟩ hF
      simp [moreFacts, Fact.more, Oper.deps, Region.binds, List.filter_cons, World.more_drew] at hF
      simp [putFacts, Oper.deps, Region.binds, List.filter_cons, Region.dstOf, Fact.at, Act.put, World.more_drew]
      go_wp2
      exact ⟨by repeat (first | with_reducible exact Grew.refl _ | apply Grew.more | apply Grew.alloc | apply Grew.drew | apply Grew.drewN), rfl, _, _, rfl, rfl, rfl⟩
  rintro u w1 ⟨R1, n1, rfl⟩ hF
  clear hF
  simp [putFacts, Region.dstOf, Fact.at, Act.put, List.range_succ, World.more_drew]
  go_wp2_with fail
  refine bodyPost_ret (v := .tuple #[.agg #[.int .i64 ((⟨ep, pp, ao2, os.length, co2, a3, g.length, c3, a4, s.length, c4, ax2, xs.length, cx2, none, 0, 0⟩ : MfC)).epoch, .int .i64 ((⟨ep, pp, ao2, os.length, co2, a3, g.length, c3, a4, s.length, c4, ax2, xs.length, cx2, none, 0, 0⟩ : MfC)).plans, .slice ((⟨ep, pp, ao2, os.length, co2, a3, g.length, c3, a4, s.length, c4, ax2, xs.length, cx2, none, 0, 0⟩ : MfC)).ao ((⟨ep, pp, ao2, os.length, co2, a3, g.length, c3, a4, s.length, c4, ax2, xs.length, cx2, none, 0, 0⟩ : MfC)).no ((⟨ep, pp, ao2, os.length, co2, a3, g.length, c3, a4, s.length, c4, ax2, xs.length, cx2, none, 0, 0⟩ : MfC)).co, .slice ((⟨ep, pp, ao2, os.length, co2, a3, g.length, c3, a4, s.length, c4, ax2, xs.length, cx2, none, 0, 0⟩ : MfC)).ag ((⟨ep, pp, ao2, os.length, co2, a3, g.length, c3, a4, s.length, c4, ax2, xs.length, cx2, none, 0, 0⟩ : MfC)).ng ((⟨ep, pp, ao2, os.length, co2, a3, g.length, c3, a4, s.length, c4, ax2, xs.length, cx2, none, 0, 0⟩ : MfC)).cg, .slice ((⟨ep, pp, ao2, os.length, co2, a3, g.length, c3, a4, s.length, c4, ax2, xs.length, cx2, none, 0, 0⟩ : MfC)).ae ((⟨ep, pp, ao2, os.length, co2, a3, g.length, c3, a4, s.length, c4, ax2, xs.length, cx2, none, 0, 0⟩ : MfC)).ne ((⟨ep, pp, ao2, os.length, co2, a3, g.length, c3, a4, s.length, c4, ax2, xs.length, cx2, none, 0, 0⟩ : MfC)).ce, .slice ((⟨ep, pp, ao2, os.length, co2, a3, g.length, c3, a4, s.length, c4, ax2, xs.length, cx2, none, 0, 0⟩ : MfC)).ax ((⟨ep, pp, ao2, os.length, co2, a3, g.length, c3, a4, s.length, c4, ax2, xs.length, cx2, none, 0, 0⟩ : MfC)).nx ((⟨ep, pp, ao2, os.length, co2, a3, g.length, c3, a4, s.length, c4, ax2, xs.length, cx2, none, 0, 0⟩ : MfC)).cx, .slice ((⟨ep, pp, ao2, os.length, co2, a3, g.length, c3, a4, s.length, c4, ax2, xs.length, cx2, none, 0, 0⟩ : MfC)).ap ((⟨ep, pp, ao2, os.length, co2, a3, g.length, c3, a4, s.length, c4, ax2, xs.length, cx2, none, 0, 0⟩ : MfC)).np ((⟨ep, pp, ao2, os.length, co2, a3, g.length, c3, a4, s.length, c4, ax2, xs.length, cx2, none, 0, 0⟩ : MfC)).cp], .int .i64 0]) (by simp [results, Tryz.results12, go_sem, pmZ, z0, z1, z2, z3, z4, z5, z6]) rfl ?_
  unfold MakePost
  rw [HPP.out]
  refine ⟨fun q => absurd (HOK.out.symm.trans q) (by decide), fun _ => ⟨s, HP4.out, HSO4.out, fun q => ⟨⟨ep, pp, ao2, os.length, co2, a3, g.length, c3, a4, s.length, c4, ax2, xs.length, cx2, none, 0, 0⟩, rfl, ?_, ?_⟩, fun q => absurd ⟨HRB.out, (show pm.epoch < ep by rw [HPE.out]; exact Int.not_le.1 (of_decide_eq_false HD.out)), eqNds_iff.1 HQ.out⟩ q⟩⟩
  · refine (fun W' (hs : SameBut (w.heap.size + 1) wx W') => MfIs.grew (w' := W'.more R1 n1) (HMF.out W' hs) ⟨R1, n1, rfl⟩) _ ?_
    repeat (first | with_reducible exact SameBut.refl _ _ | with_reducible apply SameBut.setr)
  · repeat (first | with_reducible exact HGX.out | with_reducible apply Grew.more | with_reducible apply Grew.alloc | refine Grew.set ?_ (by omega) _)
end Go.Proofs.YtepfdekppnobaaaGreat
