import Derived.Test.YtpbohimddmploaaGreatCd50
import Derived.Test.YtpbohimddmploaaGreatCd34
set_option linter.unusedSimpArgs false
set_option linter.unusedVariables false
set_option maxRecDepth 100000
set_option maxHeartbeats 64000000
namespace Go.Proofs.YtpbohimddmploaaGreat
open Go.RowKit Ga

theorem sinkNew_any (w : World) : Calls Tryz.prog 40 #[] w fun e w' => ∃ bk mp : Nat, e = .returned (.pointer (some ⟨bk, 0, none⟩)) ∧ w'.heap[bk]? = some (.cells #[.slice none 0 0, .map (some mp), .int .i64 0] 159) ∧ Grew w w' := by
  have hmm := @run_makeMap Tryz.prog
  go_enter Tryz.func40, Tryz.ntmps40
  go_wp2
  go_ret
  exact ⟨_, _, rfl, heap_new_at _ _ _ (by simp [World.size_alloc]), by repeat (first | with_reducible exact Grew.refl _ | apply Grew.more | apply Grew.alloc | apply Grew.drew | apply Grew.drewN)⟩
theorem bookCommit_there {W : World} {bk : Nat} {lv mv v : Value} (h : W.heap[bk]? = some (.cells #[lv, mv, .int .i64 0] 159)) : Calls Tryz.prog 107 #[.pointer (some ⟨bk, 0, none⟩), .int .i64 0, v] W (Gives (.int .i64 13) W) := by
  have c2 := cell_of (o := 2) h
  simp at c2
  clear h
  go_enter Tryz.func107, Tryz.ntmps107
  go_wp2
  go_ret
  refine ⟨rfl, ?_⟩
  repeat (first | with_reducible exact Grew.refl _ | apply Grew.more | apply Grew.alloc | apply Grew.drew | apply Grew.drewN)
theorem coFollows_nil {W : World} {z : Nat} {cs : Array Value} {c : MfC} (hz : W.heap[z]? = some (.cells cs 87)) (h2 : cs[2]? = some (.slice none 0 0)) (he : c.epoch = 0) (hp : c.plans = 0) (hx : c.nx = 0) (hq : c.np = 0) (hn : c.ne = 0) : Calls Tryz.prog 43 #[.pointer (some ⟨z, 0, none⟩), .agg #[.int .i64 c.epoch, .int .i64 c.plans, .slice c.ao c.no c.co, .slice c.ag c.ng c.cg, .slice c.ae c.ne c.ce, .slice c.ax c.nx c.cx, .slice c.ap c.np c.cp]] W (Gives (.bool true) W) := by
  have c2 := (cell_of (o := 2) hz).trans h2
  have hb : Pre z W := heap_lt hz
  obtain ⟨ep, pl, ao, no, co, ag, ng, cg, ae, ne, ce, ax, nx, cx, ap, np, cp⟩ := c
  simp only at he hp hx hq hn
  subst he hp hx hq hn
  clear hz h2
  go_enter Tryz.func43, Tryz.ntmps43
  go_wp2
  go_ret
  refine ⟨rfl, ?_⟩
  repeat (first | with_reducible exact Grew.refl _ | apply Grew.more | apply Grew.alloc | apply Grew.drew | apply Grew.drewN)
def IsOneM (c : MfC) (v : Value) (w : World) : Prop := ∃ b : Nat, v = .slice (some ⟨b, 0, none⟩) 1 1 ∧ ∀ j u, ([c].flatMap encMh)[j]? = some u → w.cell? ⟨b, j, none⟩ = some u
theorem IsOneM.st (c : MfC) : ∀ v w w', IsOneM c v w → Grew w w' → IsOneM c v w' := fun _ _ _ ⟨b, h1, h2⟩ g => ⟨b, h1, fun j u hu => below_keeps g.below _ _ (h2 j u hu)⟩
def IsHs (base : Nat) (c : MfC) (v : Value) (w : World) : Prop := ∃ (b cap : Nat), v = .slice (some ⟨b, 0, none⟩) 1 cap ∧ OwnAt base 51 7 encMh w v [c]
theorem IsHs.st (base : Nat) (c : MfC) : ∀ v w w', IsHs base c v w → Grew w w' → IsHs base c v w' := fun _ _ _ ⟨b, cap, h1, h2⟩ g => ⟨b, cap, h1, h2.grew g⟩
theorem infoMh : (Tryz.prog.info? 51).map (fun i => (i.zero, i.size, i.bytes)) = some (some (.agg #[.int .i64 0, .int .i64 0, .slice none 0 0, .slice none 0 0, .slice none 0 0, .slice none 0 0, .slice none 0 0]), 7, 136) := by kernel_rfl
theorem mh_at (W : World) (x : MfC) (t : TypeId) (b : Nat) {c : Array Value} (hc : c = (encMh x).toArray) (hb : b = W.heap.size) : ∀ j u, (([x] : List MfC).flatMap encMh)[j]? = some u → (W.alloc (.cells c t)).cell? ⟨b, j, none⟩ = some u := by
  subst hc
  intro j u hu
  rw [new_cells W _ t b hb j]
  simpa using hu
theorem coHolds_first {w0 W : World} {z bk lg mp : Nat} {c : MfC} {m : Gr.Mf} (h1 : W.heap[z]? = some (.cells #[.pointer (some ⟨bk, 0, none⟩), .pointer (some ⟨lg, 0, none⟩), .slice none 0 0, .slice none 0 0, .pointer none, .bool false, .int .i64 0, .int .i64 0] 87))
    (hk : W.heap[bk]? = some (.cells #[.slice none 0 0, .map (some mp), .int .i64 0] 159)) (hm : MfOwn 0 W c m) (he : c.epoch = 0) (ok : OkH m) (hg : Grew w0 W) (hz : w0.heap.size ≤ z) :
    Calls Tryz.prog 44 #[.pointer (some ⟨z, 0, none⟩), .agg #[.int .i64 c.epoch, .int .i64 c.plans, .slice c.ao c.no c.co, .slice c.ag c.ng c.cg, .slice c.ae c.ne c.ce, .slice c.ax c.nx c.cx, .slice c.ap c.np c.cp]] W fun e W' => e = .returned (.tuple #[]) ∧ CoAt w0 W' z bk lg [] m [] (.pointer none) false 0 0 ∧ Leaves [87] W W' := by
  have c2 := cell_of (o := 2) h1
  have f2 := frozen_of (o := 2) h1
  simp at c2
  have hb : Pre z W := heap_lt h1
  have H1 := Lib.hid h1
  have HK := Lib.hid hk
  have HM := Lib.hid hm
  have HOK := Lib.hid ok
  have HG := Lib.hid hg
  have HZ := Lib.hid hz
  have HC := Lib.hid (rfl : c = c)
  obtain ⟨ep, pl, ao, no, co, ag, ng, cg, ae, ne, ce, ax, nx, cx, ap, np, cp⟩ := c
  simp only at he
  subst he
  clear h1 hk hm ok hg hz
  go_enter Tryz.func44, Tryz.ntmps44
  go_wp2_with fail
  refine wp_region_seq 8 Tryz.mixed (by kernel_rfl) (by kernel_rfl) ?_
  iterate 6
    apply Seq.val
    focus
      rintro w1 u ⟨R1, n1, rfl⟩ hF
      simp [moreFacts, Fact.more, Oper.deps, Region.binds, List.filter_cons, World.more_drew] at hF
      simp [putFacts, Oper.deps, Region.binds, List.filter_cons, Region.dstOf, Fact.at, Act.put, World.more_drew]
      go_wp2
      exact ⟨by repeat (first | with_reducible exact Grew.refl _ | apply Grew.more | apply Grew.alloc | apply Grew.drew | apply Grew.drewN), rfl, _, _, rfl, rfl, rfl⟩
  apply Seq.of (IsOneM ⟨0, pl, ao, no, co, ag, ng, cg, ae, ne, ce, ax, nx, cx, ap, np, cp⟩) (IsOneM.st _)
  focus
    rintro w1 u ⟨R1, n1, rfl⟩ hF
    simp [moreFacts, Fact.more, Oper.deps, Region.binds, List.filter_cons, World.more_drew] at hF
    simp [putFacts, Oper.deps, Region.binds, List.filter_cons, Region.dstOf, Fact.at, Act.put, World.more_drew]
    go_wp2_with fail
    exact ⟨by repeat (first | with_reducible exact Grew.refl _ | apply Grew.more | apply Grew.alloc | apply Grew.drew | apply Grew.drewN), rfl, _, _, rfl, rfl, ⟨_, rfl, mh_at _ _ _ _ rfl (by simp [go_sem])⟩⟩
  apply Seq.of (IsHs w0.heap.size ⟨0, pl, ao, no, co, ag, ng, cg, ae, ne, ce, ax, nx, cx, ap, np, cp⟩) (IsHs.st _ _)
  focus
    rintro w1 u ⟨R1, n1, rfl⟩ hF
    simp [moreFacts, Fact.more, Oper.deps, Region.binds, List.filter_cons, World.more_drew] at hF
    simp [putFacts, Oper.deps, Region.binds, List.filter_cons, Region.dstOf, Fact.at, Act.put, World.more_drew]
    obtain ⟨b9, hu, hb9⟩ := hF; rw [hu]; (have HB9 := Lib.hid hb9); clear hb9 hu
    go_wp2_with (first
      | (at_builtin; go_loud (refine wpList_own1 rfl (.tmp 8) (.tmp 10) 64 _ _ _ b9 ⟨0, pl, ao, no, co, ag, ng, cg, ae, ne, ce, ax, nx, cx, ap, np, cp⟩ rfl Tryz.underlying64 infoMh rfl (by decide) encMh_len encMh_one rfl (OwnAt.nil _) (Grew.refl _) rfl (fun j u hu => HB9.out j u (by simpa using hu)) (by simp) (by decide) ?_); intro v7 R7 N7 ho7; obtain ⟨b8, c8, rfl⟩ := own_some' ho7 (by simp); (have HX9 : Hid (IsHs w0.heap.size ⟨0, pl, ao, no, co, ag, ng, cg, ae, ne, ce, ax, nx, cx, ap, np, cp⟩ _ _) := Lib.hid ⟨b8, c8, rfl, OwnAt.low ho7 (HG.out.trans (by repeat (first | with_reducible exact Grew.refl _ | apply Grew.more | apply Grew.alloc | apply Grew.drew | apply Grew.drewN))).below.size⟩); clear ho7)
      )
    exact ⟨by repeat (first | with_reducible exact Grew.refl _ | apply Grew.more | apply Grew.alloc | apply Grew.drew | apply Grew.drewN), rfl, _, _, rfl, rfl, HX9.out⟩
  rintro u w1 ⟨R1, n1, rfl⟩ hF
  simp [moreFacts, apartFacts, Fact.more, Fact.isNew, List.range_succ, World.more_drew] at hF
  obtain ⟨-, b8, c8, hu, ho8⟩ := hF
  simp [putFacts, Region.dstOf, Fact.at, Act.put, List.range_succ, World.more_drew]
  rw [hu]
  rw [hu] at ho8
  have HO8 := Lib.hid ho8
  clear hu ho8
  go_wp2_with fail
  have e2 := set_blk (o := 2) (v := (.slice (some ⟨b8, 0, none⟩) 1 c8)) H1.out rfl
  have hl2 := (Leaves.refl [87] W).set (o := 2) (v := (.slice (some ⟨b8, 0, none⟩) 1 c8)) H1.out (by simp)
  have ht2 : Twin 87 W (W.setCell ⟨z, 2, none⟩ (.slice (some ⟨b8, 0, none⟩) 1 c8)) := ⟨hl2, by simp [World.size_setCell]⟩
  have hg2 := HG.out.set (o := 2) HZ.out (.slice (some ⟨b8, 0, none⟩) 1 c8)
  clear c2 f2 hb
  obtain ⟨bx, hbx⟩ : ∃ bx : Obj, (.cells #[.int .i64 0, .int .i64 pl, .slice ao no co, .slice ag ng cg, .slice ae ne ce, .slice ax nx cx, .slice ap np cp] 51) = bx := ⟨_, rfl⟩
  rw [hbx] at HO8
  rw [hbx]
  generalize W.setCell ⟨z, 2, none⟩ (.slice (some ⟨b8, 0, none⟩) 1 c8) = WS at *
  have ho9 := ((ht2.alloc bx).more R1 n1).1.own HO8.out (by decide)
  have hb9 : (WS.alloc bx).heap[W.heap.size]? = some bx := heap_new_at _ _ _ ht2.2
  have hz9 := grew_heap (by repeat (first | with_reducible exact Grew.refl _ | apply Grew.more | apply Grew.alloc | apply Grew.drew | apply Grew.drewN) : Grew (WS.alloc bx) ((WS.alloc bx).more R1 n1)) (heap_alloc' e2 bx)
  have hk9 := grew_heap (by repeat (first | with_reducible exact Grew.refl _ | apply Grew.more | apply Grew.alloc | apply Grew.drew | apply Grew.drewN) : Grew (WS.alloc bx) ((WS.alloc bx).more R1 n1)) (heap_alloc' (hl2.at HK.out (by decide)) bx)
  have hg9 : Grew w0 ((WS.alloc bx).more R1 n1) := hg2.trans (by repeat (first | with_reducible exact Grew.refl _ | apply Grew.more | apply Grew.alloc | apply Grew.drew | apply Grew.drewN))
  have hl9 : Leaves [87] W ((WS.alloc bx).more R1 n1) := hl2.trans (Leaves.grew (by repeat (first | with_reducible exact Grew.refl _ | apply Grew.more | apply Grew.alloc | apply Grew.drew | apply Grew.drewN)))
  have hm9 := HM.out.leaves hl9 (by simp [NoData])
  have hb9 := grew_heap (by repeat (first | with_reducible exact Grew.refl _ | apply Grew.more | apply Grew.alloc | apply Grew.drew | apply Grew.drewN) : Grew (WS.alloc bx) ((WS.alloc bx).more R1 n1)) hb9
  obtain ⟨tb, htb⟩ : ∃ tb, W.heap.size = tb := ⟨_, rfl⟩
  rw [htb] at hb9 ⊢
  clear htb ht2 hl2 hg2 e2
  generalize (WS.alloc bx).more R1 n1 = WB at *
  rw [← hbx] at hb9
  clear hbx
  have HZ9 := Lib.hid hz9
  have HK9 := Lib.hid hk9
  have HO9 := Lib.hid ho9
  have HG9 := Lib.hid hg9
  have HL9 := Lib.hid hl9
  have HM9 := Lib.hid hm9
  have c6 := cell_of (o := 6) hz9
  have f6 := frozen_of (o := 6) hz9
  have t0 := cell_of (o := 0) hb9
  simp at c6 t0
  have hbz : Pre z WB := heap_lt hz9
  have hbt : Pre tb WB := heap_lt hb9
  have HB9 := Lib.hid hb9
  clear hz9 hk9 ho9 hg9 hl9 hm9 hb9
  have hmx := run_max Tryz.prog
  refine wp_region_seq 8 Tryz.mixed (by kernel_rfl) (by kernel_rfl) ?_
  iterate 8
    apply Seq.val
    focus
      rintro w1 u ⟨R1, n1, rfl⟩ hF
      simp [moreFacts, Fact.more, Oper.deps, Region.binds, List.filter_cons, World.more_drew] at hF
      simp [putFacts, Oper.deps, Region.binds, List.filter_cons, Region.dstOf, Fact.at, Act.put, World.more_drew]
      go_wp2
      exact ⟨by repeat (first | with_reducible exact Grew.refl _ | apply Grew.more | apply Grew.alloc | apply Grew.drew | apply Grew.drewN), rfl, _, _, rfl, rfl, rfl⟩
  rintro u w1 ⟨R1, n1, rfl⟩ hF
  clear hF
  simp [putFacts, Region.dstOf, Fact.at, Act.put, List.range_succ, World.more_drew]
  go_wp2_with fail
  have e6 := set_blk (o := 6) (v := .int .i64 0) HZ9.out rfl
  have hl6 := (Leaves.refl [87] WB).set (o := 6) (v := .int .i64 0) HZ9.out (by simp)
  have hg6 := HG9.out.set (o := 6) HZ.out (.int .i64 0)
  clear c6 f6 t0 hbz hbt hmx
  generalize WB.setCell ⟨z, 6, none⟩ (.int .i64 0) = WC at *
  have hb6 := hl6.at HB9.out (by decide)
  have c0 := cell_of (o := 0) e6
  have t0 := cell_of (o := 0) hb6
  have t5 := cell_of (o := 5) hb6
  simp at c0 t0 t5
  have hbz : Pre z WC := heap_lt e6
  have hbt : Pre tb WC := heap_lt hb6
  have HE6 := Lib.hid e6
  have HL6 := Lib.hid hl6
  have HG6 := Lib.hid hg6
  have HCM := Lib.hid fun v W' (g : Grew WC W') => bookCommit_there (v := v) (grew_heap g (hl6.at HK9.out (by decide)))
  clear e6 hl6 hg6 hb6
  refine wp_region_seq 8 Tryz.mixed (by kernel_rfl) (by kernel_rfl) ?_
  iterate 8
    apply Seq.val
    focus
      rintro w1 u ⟨R1, n1, rfl⟩ hF
      simp [moreFacts, Fact.more, Oper.deps, Region.binds, List.filter_cons, World.more_drew] at hF
      simp [putFacts, Oper.deps, Region.binds, List.filter_cons, Region.dstOf, Fact.at, Act.put, World.more_drew]
      go_wp2
      exact ⟨by repeat (first | with_reducible exact Grew.refl _ | apply Grew.more | apply Grew.alloc | apply Grew.drew | apply Grew.drewN), rfl, _, _, rfl, rfl, rfl⟩
  rintro u w1 ⟨R1, n1, rfl⟩ hF
  clear hF
  simp [putFacts, Region.dstOf, Fact.at, Act.put, List.range_succ, World.more_drew]
  go_wp2_with (go_at_call 107; refine (HCM.out _ _ (by repeat (first | with_reducible exact Grew.refl _ | apply Grew.more | apply Grew.alloc | apply Grew.drew | apply Grew.drewN))).mono ?_; rintro e w5 ⟨rfl, R5, n5, rfl⟩)
  have hT : NoData [87] := by simp [NoData]
  refine bodyPost_end (v := .tuple #[]) (results_none rfl _ _ _) rfl ⟨rfl, ⟨⟨_, _, grew_heap (by repeat (first | with_reducible exact Grew.refl _ | apply Grew.more | apply Grew.alloc | apply Grew.drew | apply Grew.drewN)) HE6.out, ⟨[_], OwnAt.grew (HL6.out.own HO9.out (by decide)) (by repeat (first | with_reducible exact Grew.refl _ | apply Grew.more | apply Grew.alloc | apply Grew.drew | apply Grew.drewN)), (HM9.out.leaves HL6.out hT).grew (by repeat (first | with_reducible exact Grew.refl _ | apply Grew.more | apply Grew.alloc | apply Grew.drew | apply Grew.drewN)), trivial⟩, [], OwnAt.nil _, trivial⟩, HOK.out, by simp, HZ.out, HG6.out.trans (by repeat (first | with_reducible exact Grew.refl _ | apply Grew.more | apply Grew.alloc | apply Grew.drew | apply Grew.drewN))⟩, (HL9.out.trans HL6.out).trans (Leaves.grew (by repeat (first | with_reducible exact Grew.refl _ | apply Grew.more | apply Grew.alloc | apply Grew.drew | apply Grew.drewN)))⟩

theorem first_rightM {g : List Gr.Nd} (h : Gr.RightR g) : Gr.RightM fitsP (firstM g) := rightB_iff.1 (first_right h)
theorem first_h8 {g : List Gr.Nd} (h : Gr.RightR g) (h8 : ∀ n ∈ g, n.route.length = 8) : ∀ n ∈ (firstM g).graph, n.route.length = 8 := fun n hn => h8 n ((Gr.normG_mem h.ids h.r7 n).1 hn)
theorem first_len {g : List Gr.Nd} (h : Gr.RightR g) (h8 : ∀ n ∈ g, n.route.length = 8) : (Gr.putM putI (firstM g)).length ≤ 4000 := by
  have hr := first_rightM h
  obtain ⟨ho1, ho3⟩ := offs_len hr (first_h8 h h8)
  have h1 : (Gr.putG putI (firstM g).graph).length ≤ 3000 := putG_len hr.gr (first_h8 h h8)
  rw [putM_eq]
  unfold Gr.putG at h1
  rw [graph_self hr] at h1
  have e1 : (firstM g).ents = [] := rfl
  have e2 : (firstM g).out = [] := rfl
  have e3 : (firstM g).plan = [] := rfl
  rw [e1, e2, e3, planBy_nil]
  simp only [List.length_append, Oc.bes_len, Oc.be_len, List.length_cons, List.length_nil, List.flatMap_nil] at h1 ⊢
  omega
theorem first_okH {g : List Gr.Nd} (h : Gr.RightR g) (hs : Small g) (h8 : ∀ n ∈ g, n.route.length = 8) : OkH (firstM g) :=
  ⟨first_rightM h, small_norm h hs, (fun s hs => by cases hs), Nat.zero_le _, first_h8 h h8, by have := first_len h h8; omega⟩
theorem coOpen_new {w0 W : World} {x : Nat} {cap : Int} {v : Value} {g : List Gr.Nd} (hd : DiskAt W x [] (.slice none 0 0) [] cap) (hv : ∀ W', Leaves [95] W W' → Grew w0 W' → NodesAt W' v g) (hs : Small g) (hr : Gr.RightR g) (h8 : ∀ n ∈ g, n.route.length = 8) (hg : Grew w0 W) (hx : w0.heap.size ≤ x) (hc : 0 ≤ cap ∧ cap ≤ 16777216) (hl : ((Gr.putM putI (firstM g)).length : Int) + 8 ≤ cap) :
    Calls Tryz.prog 9 #[.pointer (some ⟨x, 0, none⟩), v] W fun e W' => ∃ z bk lg, e = .returned (.tuple #[.pointer (some ⟨z, 0, none⟩), .int .i64 0]) ∧ CoAt w0 W' z bk lg [] (firstM g) [] (.pointer none) false 0 0 := by
  have HLO := Lib.hid (logOpen_nil w0 hd hg hx)
  have hsl := first_len hr h8
  have HOK := Lib.hid (first_okH hr hs h8)
  have HV := Lib.hid hv
  have HFI := Lib.hid fun W' (hn : NodesAt W' v g) => first_any v g W' hn hs
  have HRR := Lib.hid hr
  have HX := Lib.hid hx
  have HPM := Lib.hid fun (c : MfC) W' (h : MfIs W' c (firstM g)) => packMan_ok c (firstM g) W' h HOK.out.s HOK.out.p HOK.out.o HOK.out.r
  have HGM := Lib.hid fun W' => getManO_any (Gr.putM putI (firstM g)) W' HOK.out.l
  rw [getM_back HOK.out.r HOK.out.h8] at HGM
  obtain ⟨s, hse⟩ : ∃ s, Gr.putM putI (firstM g) = s := ⟨_, rfl⟩
  rw [hse] at hsl hl HPM HGM
  have HSL := Lib.hid hsl
  have HL := Lib.hid hl
  have HC := Lib.hid hc
  clear hse hsl hl hc hd hv hs hr h8 hg hx
  go_enter Tryz.func9, Tryz.ntmps9
  go_wp2_with (first
    | (go_at_call 35; refine HLO.out.mono ?_; rintro e wA ⟨y, rfl, hy, hla, hda, hlv, hga⟩; (have HY := Lib.hid hy); (have HLA := Lib.hid hla); (have HDA := Lib.hid hda); (have HLV := Lib.hid hlv); (have HGA := Lib.hid hga); clear hy hla hda hlv hga)
    | (go_at_call 36; refine (logLen_any (HLA.out)).mono ?_; rintro e w1 ⟨rfl, R1, n1, rfl⟩)
    | (go_at_call 37; refine (HFI.out _ (HV.out _ (HLV.out.trans (Leaves.grew (by repeat (first | with_reducible exact Grew.refl _ | apply Grew.more | apply Grew.alloc | apply Grew.drew | apply Grew.drewN)))) (HGA.out.trans (by repeat (first | with_reducible exact Grew.refl _ | apply Grew.more | apply Grew.alloc | apply Grew.drew | apply Grew.drewN))))).mono ?_; rintro e w2 ⟨h9, -, R2, n2, rfl⟩; obtain ⟨ao, co, ag, cg, rfl, hi9, hn9⟩ := h9 HRR.out; (have HI9 := Lib.hid hi9); (have HN9 := Lib.hid hn9); clear h9 hi9 hn9))
  refine (HPM.out ⟨0, 0, ao, (parOf g).toNat, co, ag, (Gr.normG g).length, cg, none, 0, 0, none, 0, 0, none, 0, 0⟩ _ ⟨rfl, rfl, HI9.out.grew (by repeat (first | with_reducible exact Grew.refl _ | apply Grew.more | apply Grew.alloc | apply Grew.drew | apply Grew.drewN)), HN9.out.grew (by repeat (first | with_reducible exact Grew.refl _ | apply Grew.more | apply Grew.alloc | apply Grew.drew | apply Grew.drewN)), RowsAt.nil, RowsAt.nil, StepsAt.nil _⟩).mono ?_
  rintro e w3 ⟨rfl, R3, n3, rfl⟩
  go_wp2_with (first
    | (go_at_call 39; refine (logAppend_any w0 s (⟨grew_heap (by repeat (first | with_reducible exact Grew.refl _ | apply Grew.more | apply Grew.alloc | apply Grew.drew | apply Grew.drewN)) HLA.out.blk, HLA.out.own.grew (by repeat (first | with_reducible exact Grew.refl _ | apply Grew.more | apply Grew.alloc | apply Grew.drew | apply Grew.drewN))⟩) (HDA.out.grew (by repeat (first | with_reducible exact Grew.refl _ | apply Grew.more | apply Grew.alloc | apply Grew.drew | apply Grew.drewN))) (HGA.out.trans (by repeat (first | with_reducible exact Grew.refl _ | apply Grew.more | apply Grew.alloc | apply Grew.drew | apply Grew.drewN))) HX.out HY.out HC.out (by have := HL.out; simp; omega) (by have := HSL.out; simp; omega) (by simp)).mono ?_; rintro e wB ⟨rfl, ⟨av, hlb⟩, -, hlv2, hgb⟩; (have HLB := Lib.hid hlb); (have HLV2 := Lib.hid hlv2); (have HGB := Lib.hid hgb); clear hlb hlv2 hgb)
    | (go_at_call 40; refine (sinkNew_any _).mono ?_; rintro e w4 ⟨bk, mp, rfl, hbk, R4, n4, rfl⟩; (have HBK := Lib.hid hbk); clear hbk)
    | (go_at_call 41; refine (logAll_any (⟨grew_heap (by repeat (first | with_reducible exact Grew.refl _ | apply Grew.more | apply Grew.alloc | apply Grew.drew | apply Grew.drewN)) HLB.out.blk, HLB.out.own.grew (by repeat (first | with_reducible exact Grew.refl _ | apply Grew.more | apply Grew.alloc | apply Grew.drew | apply Grew.drewN))⟩ : LogAt w0.heap.size _ y x av ([] ++ [s])) (by simp)).mono ?_; rintro e w5 ⟨v5, rfl, ho5, R5, n5, rfl⟩; obtain ⟨b5, c5, rfl⟩ := own_some' ho5 (by simp); (have HO5 := Lib.hid ho5); clear ho5))
  have hzc : (((wB.more R4 n4).alloc (.cells #[.pointer (some ⟨bk, 0, none⟩), .pointer (some ⟨y, 0, none⟩), .slice none 0 0, .slice none 0 0, .pointer none, .bool false, .int .i64 0, .int .i64 0] 87)).more R5 n5).heap[wB.heap.size + R4.size]? = some (.cells #[.pointer (some ⟨bk, 0, none⟩), .pointer (some ⟨y, 0, none⟩), .slice none 0 0, .slice none 0 0, .pointer none, .bool false, .int .i64 0, .int .i64 0] 87) := grew_heap (by repeat (first | with_reducible exact Grew.refl _ | apply Grew.more | apply Grew.alloc | apply Grew.drew | apply Grew.drewN) : Grew ((wB.more R4 n4).alloc (.cells #[.pointer (some ⟨bk, 0, none⟩), .pointer (some ⟨y, 0, none⟩), .slice none 0 0, .slice none 0 0, .pointer none, .bool false, .int .i64 0, .int .i64 0] 87)) _) (heap_new_at _ _ _ (by simp [World.more_size]))
  have hbk : (((wB.more R4 n4).alloc (.cells #[.pointer (some ⟨bk, 0, none⟩), .pointer (some ⟨y, 0, none⟩), .slice none 0 0, .slice none 0 0, .pointer none, .bool false, .int .i64 0, .int .i64 0] 87)).more R5 n5).heap[bk]? = _ := grew_heap (by repeat (first | with_reducible exact Grew.refl _ | apply Grew.more | apply Grew.alloc | apply Grew.drew | apply Grew.drewN) : Grew (wB.more R4 n4) _) HBK.out
  have hgl : Grew w0 (((wB.more R4 n4).alloc (.cells #[.pointer (some ⟨bk, 0, none⟩), .pointer (some ⟨y, 0, none⟩), .slice none 0 0, .slice none 0 0, .pointer none, .bool false, .int .i64 0, .int .i64 0] 87)).more R5 n5) := HGB.out.trans (by repeat (first | with_reducible exact Grew.refl _ | apply Grew.more | apply Grew.alloc | apply Grew.drew | apply Grew.drewN))
  have hz0 : w0.heap.size ≤ wB.heap.size + R4.size := Nat.le_trans HGB.out.below.size (Nat.le_add_right _ _)
  have hs5 : (((wB.more R4 n4).alloc (.cells #[.pointer (some ⟨bk, 0, none⟩), .pointer (some ⟨y, 0, none⟩), .slice none 0 0, .slice none 0 0, .pointer none, .bool false, .int .i64 0, .int .i64 0] 87)).more R5 n5).cell? ⟨b5, 0, none⟩ = some (.string ⟨s.toArray⟩) := by
    obtain ⟨a6, c6, e6, -, hx⟩ := OwnAt.rows HO5.out encS_len
    cases e6
    obtain ⟨b6, off, e7, hx⟩ := hx (by simp)
    cases e7
    exact hx 0 s rfl 0 _ rfl
  obtain ⟨z, hz⟩ : ∃ z, wB.heap.size + R4.size = z := ⟨_, rfl⟩
  rw [hz] at hzc hz0 ⊢
  generalize ((wB.more R4 n4).alloc (.cells #[.pointer (some ⟨bk, 0, none⟩), .pointer (some ⟨y, 0, none⟩), .slice none 0 0, .slice none 0 0, .pointer none, .bool false, .int .i64 0, .int .i64 0] 87)).more R5 n5 = WL at *
  have HZC := Lib.hid hzc
  have HBL := Lib.hid hbk
  have HGL := Lib.hid hgl
  have HZ0 := Lib.hid hz0
  have HS5 := Lib.hid hs5
  clear hzc hbk hgl hz0 hs5 hz
  go_loopg [55] 1 (fun gg s55 wr => (s55 = .int .i64 0 ∧ gg = 1 ∧ Hid (Grew WL wr)) ∨ (s55 = .int .i64 1 ∧ Hid (CoAt w0 wr z bk y [] (firstM g) [] (.pointer none) false 0 0)))
  case atStart => exact .inl ⟨rfl, rfl, Lib.hid (Grew.refl _)⟩
  case round =>
    rename World => wa
    rcases hrel with ⟨rfl, rfl, HG⟩ | ⟨rfl, HCO⟩
    · have h5 := cell_grew HS5.out HG.out
      have hb5 := Pre.ofCell h5
      go_wp2_with (first
        | (go_at_call 42; refine (HGM.out _).mono ?_; rintro e w6 ⟨⟨ep2, pl2, ao2, no2, co2, ag2, ng2, cg2, ae2, ne2, ce2, ax2, nx2, cx2, ap2, np2, cp2⟩, rfl, hm, R6, n6, rfl⟩; obtain rfl : ep2 = 0 := hm.epoch.symm; obtain rfl : pl2 = 0 := hm.plans.symm; (obtain rfl : ne2 = 0 := by obtain ⟨_, _, e⟩ := (OwnAt.rows hm.e encEn_len).len; exact (Value.slice.inj e).2.1); (obtain rfl : nx2 = 0 := by obtain ⟨_, _, e⟩ := (OwnAt.rows hm.x encLn_len).len; exact (Value.slice.inj e).2.1); (obtain rfl : np2 = 0 := by obtain ⟨_, _, e, -⟩ := hm.is.p.openC; exact (Value.slice.inj e).2.1); (have HM := Lib.hid hm.low); clear hm)
        | (go_at_call 43; refine (coFollows_nil (c := ⟨0, 0, ao2, no2, co2, ag2, ng2, cg2, ae2, 0, ce2, ax2, 0, cx2, ap2, 0, cp2⟩) (grew_heap (HG.out.trans (by repeat (first | with_reducible exact Grew.refl _ | apply Grew.more | apply Grew.alloc | apply Grew.drew | apply Grew.drewN))) HZC.out) rfl rfl rfl rfl rfl rfl).mono ?_; rintro e w7 ⟨rfl, R7, n7, rfl⟩)
        | (go_at_call 44; refine (coHolds_first (w0 := w0) (c := ⟨0, 0, ao2, no2, co2, ag2, ng2, cg2, ae2, 0, ce2, ax2, 0, cx2, ap2, 0, cp2⟩) (grew_heap (HG.out.trans (by repeat (first | with_reducible exact Grew.refl _ | apply Grew.more | apply Grew.alloc | apply Grew.drew | apply Grew.drewN))) HZC.out) (grew_heap (HG.out.trans (by repeat (first | with_reducible exact Grew.refl _ | apply Grew.more | apply Grew.alloc | apply Grew.drew | apply Grew.drewN))) HBL.out) (HM.out.grew (by repeat (first | with_reducible exact Grew.refl _ | apply Grew.more | apply Grew.alloc | apply Grew.drew | apply Grew.drewN))) rfl HOK.out (HGL.out.trans (HG.out.trans (by repeat (first | with_reducible exact Grew.refl _ | apply Grew.more | apply Grew.alloc | apply Grew.drew | apply Grew.drewN)))) HZ0.out).mono ?_; rintro e w8 ⟨rfl, hco, -⟩; (have HCO := Lib.hid hco); clear hco))
      go_roundg 0
      case measure => omega
      case rel => exact .inr ⟨by go_num, Lib.hid (HCO.out.grew (by repeat (first | with_reducible exact Grew.refl _ | apply Grew.more | apply Grew.alloc | apply Grew.drew | apply Grew.drewN)))⟩
    · go_wp2
      go_ret2
      exact ⟨z, bk, y, rfl, HCO.out.grew (by repeat (first | with_reducible exact Grew.refl _ | apply Grew.more | apply Grew.alloc | apply Grew.drew | apply Grew.drewN))⟩
end Go.Proofs.YtpbohimddmploaaGreat
