import Derived.Test.YtpbohimddmploaaGreatCd9
import Derived.Deep.DeepCutAuto
import Derived.Deep.CutBlock
set_option linter.unusedSimpArgs false
set_option linter.unusedVariables false
set_option maxRecDepth 100000
set_option maxHeartbeats 64000000
namespace Go.Proofs.YtpbohimddmploaaGreat
open Go.RowKit Ga

theorem run_min (P : Program) (w : World) (ts : Array TypeId) (t : TypeId) (x y : Int) : (Builtin.min_ ts t #[.int .i64 x, .int .i64 y]).run P w = .ok (.int .i64 (min x y)) w := by
  rw [run_min_int2]
  have : (if y < x then y else x) = min x y := by rw [Int.min_def]; split <;> split <;> omega
  rw [this]
def encZ (n : Nat) : List Value := [.int .i64 n]
theorem encZ_len (n : Nat) : (encZ n).length = 1 := rfl
theorem right_args {x y : Int} (h : Co.rightI (x, y) = true) : 0 ≤ x ∧ x ≤ 17 ∧ -524288 ≤ y ∧ y ≤ 524287 ∧ (x = 15 ∨ x = 16 → 1 ≤ y) ∧ (x = 4 ∨ x = 5 → y = 0 ∨ y = 1) := by
  unfold Co.rightI Co.lo Co.hi at h
  simp only [Bool.and_eq_true, decide_eq_true_eq] at h
  grind

theorem next_any (v : Value) (l : List Val) (k : Nat) (hk : k < l.length) (hl : l.length ≤ 24) (hr : Co.rightI l[k] = true) (w : World) (hv : ValsAt w v l) :
    Calls Tryz.prog 228 #[v, .int .i64 k] w fun e w' => ∃ u, e = .returned u ∧ OwnAt w.heap.size 3 1 encZ w' u (Vm.next l k l[k]) ∧ Grew w w' := by
  obtain ⟨a, cap, rfl, hm, hx⟩ := hv.open2
  obtain ⟨b, off, rfl, hb, h0, h1⟩ := hx k hk
  clear hx hv
  have hmn := run_min Tryz.prog
  generalize l[k] = xy at *
  obtain ⟨x, y⟩ := xy
  simp only at h0 h1
  obtain ⟨r0, r1, r2, r3, r4, -⟩ := right_args hr
  clear hr
  by_cases e0 : x = 0
  · subst e0
    have hn : Vm.next l k (0, y) = [] := rfl
    have HN := Lib.hid hn
    clear hn r4
    go_enter Tryz.func228, Tryz.ntmps228
    go_wp2
    go_ret
    exact ⟨_, rfl, by rw [HN.out]; exact OwnAt.nil _, by repeat (first | with_reducible exact Grew.refl _ | apply Grew.more | apply Grew.alloc | apply Grew.drew | apply Grew.drewN)⟩
  by_cases e16 : x = 16
  · subst e16
    have hn : Vm.next l k (16, y) = [min (k + 1 + y.toNat) l.length] := rfl
    have hy : 1 ≤ y := r4 (.inr rfl)
    have HN := Lib.hid hn
    clear hn r4 e0
    go_enter Tryz.func228, Tryz.ntmps228
    go_wp2
    go_ret
    refine ⟨_, rfl, ?_, by repeat (first | with_reducible exact Grew.refl _ | apply Grew.more | apply Grew.alloc | apply Grew.drew | apply Grew.drewN)⟩
    rw [HN.out]
    refine OwnAt.fresh rfl rfl rfl (by simp [maxLen]) encZ_len (by simp [go_sem]) (by simp [go_sem]) ?_
    simp [encZ]
    omega
  by_cases e15 : x = 15
  · subst e15
    have hn : Vm.next l k (15, y) = [k + 1, min (k + 1 + y.toNat) l.length] := rfl
    have hy : 1 ≤ y := r4 (.inl rfl)
    have HN := Lib.hid hn
    clear hn r4 e0 e16
    go_enter Tryz.func228, Tryz.ntmps228
    go_wp2
    go_ret
    refine ⟨_, rfl, ?_, by repeat (first | with_reducible exact Grew.refl _ | apply Grew.more | apply Grew.alloc | apply Grew.drew | apply Grew.drewN)⟩
    rw [HN.out]
    refine OwnAt.fresh rfl rfl rfl (by simp [maxLen]) encZ_len (by simp [go_sem]) (by simp [go_sem]) ?_
    simp [encZ]
    omega
  · have hn : Vm.next l k (x, y) = [k + 1] := by unfold Vm.next; rw [if_neg e0, if_neg e16, if_neg e15]
    have HN := Lib.hid hn
    have b0 : (x == 0) = false := by simpa using e0
    have b16 : (x == 16) = false := by simpa using e16
    have b15 : (x == 15) = false := by simpa using e15
    clear hn r4 e0 e16 e15
    go_enter Tryz.func228, Tryz.ntmps228
    go_wp2
    go_ret
    refine ⟨_, rfl, ?_, by repeat (first | with_reducible exact Grew.refl _ | apply Grew.more | apply Grew.alloc | apply Grew.drew | apply Grew.drewN)⟩
    rw [HN.out]
    refine OwnAt.fresh rfl rfl rfl (by simp [maxLen]) encZ_len (by simp [go_sem]) (by simp [go_sem]) ?_
    simp [encZ]

theorem uses_len (s : Vm.Cst) (i : Vm.Ins) : (Vm.uses s i).depth = s.depth ∧ (Vm.uses s i).emits = s.emits ∧ (Vm.uses s i).mx = s.mx ∧ (Vm.uses s i).em = s.em := by
  unfold Vm.uses; split
  · split <;> exact ⟨rfl, rfl, rfl, rfl⟩
  · exact ⟨rfl, rfl, rfl, rfl⟩
theorem WalkAt.use0 {base B bd be bm cd ce : Nat} {vp : Value} {n : Nat} {W : World} {s : Vm.Cst} (h : WalkAt base B bd be bm cd ce vp n W s) : WalkAt base B bd be bm cd ce vp n (W.setCell ⟨B, 3, none⟩ (.bool true)) { s with u0 := true } :=
  { h with
    cB := by rw [set_self h.cB]; rfl
    cD := by rw [set_other h.n1]; exact h.cD
    cE := by rw [set_other h.n2]; exact h.cE
    cM := h.cM.same (by rw [set_other h.m1]) }
theorem WalkAt.use1 {base B bd be bm cd ce : Nat} {vp : Value} {n : Nat} {W : World} {s : Vm.Cst} (h : WalkAt base B bd be bm cd ce vp n W s) : WalkAt base B bd be bm cd ce vp n (W.setCell ⟨B, 4, none⟩ (.bool true)) { s with u1 := true } :=
  { h with
    cB := by rw [set_self h.cB]; rfl
    cD := by rw [set_other h.n1]; exact h.cD
    cE := by rw [set_other h.n2]; exact h.cE
    cM := h.cM.same (by rw [set_other h.m1]) }

theorem next_le {p : List Vm.Ins} {k : Nat} {i : Vm.Ins} (hk : k < p.length) : ∀ a ∈ Vm.next p k i, a ≤ p.length := by
  intro a ha
  unfold Vm.next at ha
  split at ha
  · cases ha
  split at ha
  · rw [List.mem_singleton] at ha; omega
  split at ha
  · rcases List.mem_cons.1 ha with e | e
    · omega
    · rw [List.mem_singleton] at e; omega
  · rw [List.mem_singleton] at ha; omega
theorem next_len (p : List Vm.Ins) (k : Nat) (i : Vm.Ins) : (Vm.next p k i).length ≤ 2 := by
  unfold Vm.next
  (repeat' split) <;> simp
theorem comes_at {n : Nat} {d e : Int} {l : List Nat} {s : Vm.Cst} {j : Nat} (h : j < l.length) : Vm.comes n d e (l.drop j) s = if (Vm.come n s l[j] d e).2 then Vm.comes n d e (l.drop (j + 1)) (Vm.come n s l[j] d e).1 else ((Vm.come n s l[j] d e).1, false) := by
  rw [List.drop_eq_getElem_cons h, Vm.comes]
theorem Came.trans {w0 : World} {B bd be bm cd ce : Nat} {vp : Value} {n : Nat} {W X Y : World} {s t : Vm.Cst} (h : Came w0 B bd be bm cd ce vp n W s X) (g : Came w0 B bd be bm cd ce vp n X t Y) : Came w0 B bd be bm cd ce vp n W t Y :=
  ⟨g.grew, g.walk, h.oth.trans g.oth⟩
theorem Came.refl {w0 : World} {B bd be bm cd ce : Nat} {vp : Value} {n : Nat} {W : World} {s : Vm.Cst} (g : Grew w0 W) (h : WalkAt w0.heap.size B bd be bm cd ce vp n W s) : Came w0 B bd be bm cd ce vp n W s W := ⟨g, h, Others.refl _ _ _ _⟩

theorem Came.thn {w0 : World} {B bd be bm cd ce : Nat} {vp : Value} {n : Nat} {W X X' Y : World} {s t : Vm.Cst} (h : Came w0 B bd be bm cd ce vp n W s X) (hg : Grew X X') (g : Came w0 B bd be bm cd ce vp n X' t Y) : Came w0 B bd be bm cd ce vp n W t Y :=
  ⟨g.grew, g.walk, (h.oth.grew hg).trans g.oth⟩
theorem own_open {base : Nat} {w : World} {u : Value} {nx : List Nat} (h : OwnAt base 3 1 encZ w u nx) : ∃ a c, u = .slice a nx.length c := by
  obtain ⟨a, c, h, _⟩ := h.rows encZ_len
  exact ⟨a, c, h⟩
theorem own_cell {base : Nat} {w : World} {a : Option Addr} {c : Nat} {nx : List Nat} (h : OwnAt base 3 1 encZ w (.slice a nx.length c) nx) (j : Nat) (hj : j < nx.length) : ∃ b off, a = some ⟨b, off, none⟩ ∧ Pre b w ∧ w.cell? ⟨b, off + j, none⟩ = some (.int .i64 (nx[j] : Nat)) := by
  have hr : RowsAt 1 (fun n : Nat => [Value.int .i64 n]) w (.slice a nx.length c) nx := h.rows encZ_len
  obtain ⟨a', c', e, _, hx⟩ := hr.open1
  cases e
  exact hx j hj
theorem set_in {W : World} {o : Obj} {R : Array Obj} {N b i : Nat} {v : Value} (hb : b < W.heap.size) : ((W.setCell ⟨b, i, none⟩ v).alloc o).more R N = ((W.alloc o).more R N).setCell ⟨b, i, none⟩ v := by
  rw [← World.setCell_alloc_past o b i v hb, ← World.setCell_more_past R N b i v (by rw [World.size_alloc]; omega)]

theorem step_any (w0 W : World) (B bd be bm cd ce : Nat) (vp : Value) (l : List Val) (s : Vm.Cst) (k : Nat) (hs : WalkAt w0.heap.size B bd be bm cd ce vp l.length W s) (hg : Grew w0 W) (hv0 : ValsAt w0 vp l) (hk : k < l.length) (hl : l.length ≤ 24) (hr : Co.rightI l[k] = true) (hd : 0 ≤ s.depth.getD k (-1) ∧ s.depth.getD k (-1) ≤ 8) (he : 0 ≤ s.emits.getD k 0 ∧ s.emits.getD k 0 ≤ 4) :
    Calls Tryz.prog 204 #[.pointer (some ⟨B, 0, none⟩), .int .i64 k] W fun r W' => r = .returned (.bool (Vm.stepC l s k l[k]).2) ∧ Came w0 B bd be bm cd ce vp l.length W (Vm.stepC l s k l[k]).1 W' := by
  have hv := hv0.grew hg
  obtain ⟨a, cap, rfl, hm, hx⟩ := hv.open2
  obtain ⟨b, off, rfl, hb, h0, h1⟩ := hx k hk
  have HV := Lib.hid hv0
  clear hx hv0
  have hcB := fun o => cell_of (o := o) hs.cB
  have hc0 := hcB 0
  have hc3 := hcB 3
  have hc4 := hcB 4
  have hc5 := hcB 5
  have hc6 := hcB 6
  have hc7 := hcB 7
  simp at hc0 hc3 hc4 hc5 hc6 hc7
  have hfB := fun o => frozen_of (o := o) hs.cB
  have hf3 := hfB 3
  have hf4 := hfB 4
  clear hcB hfB
  have hp := Pre.mk (heap_lt hs.cB)
  have hpd := Pre.mk (heap_lt hs.cD)
  have hpe := Pre.mk (heap_lt hs.cE)
  have hpm := Pre.mk hs.cM.lt
  have hcd : W.cell? ⟨bd, k, none⟩ = some (.int .i64 (s.depth.getD k (-1))) := (cell_of hs.cD).trans (ints_get _ _ (by rw [hs.ld]; exact hk) _)
  have hce : W.cell? ⟨be, k, none⟩ = some (.int .i64 (s.emits.getD k 0)) := (cell_of hs.cE).trans (ints_get _ _ (by rw [hs.le]; exact hk) _)
  have n1 := hs.n1
  have n2 := hs.n2
  have n3 := hs.n3
  have HS := Lib.hid hs
  have HG := Lib.hid hg
  have HRT := Lib.hid hr
  have hxy : ∃ x y : Int, l[k] = (x, y) := ⟨_, _, rfl⟩
  obtain ⟨x, y, hxy⟩ := hxy
  rw [hxy] at h0 h1 hr ⊢
  simp only at h0 h1
  have HXY := Lib.hid hxy
  obtain ⟨r0, r1, r2, r3, -, r4⟩ := right_args hr
  have hlook : ∀ o R N, (Instr.lookup 276 (.map (some bm)) (.int .i64 x) false).run Tryz.prog ((W.alloc o).more R N) = .ok (.agg #[.int .i64 (takesI x), .int .i64 (leavesI x)]) ((W.alloc o).more R N) := fun o R N => eff_look (hs.cM.grew (by repeat (first | with_reducible exact Grew.refl _ | apply Grew.more | apply Grew.alloc | apply Grew.drew | apply Grew.drewN))) x r0 r1
  have hst : Vm.stepC l s k (x, y) = if s.depth.getD k (-1) < takesI x then (s, false) else Vm.comes l.length (s.depth.getD k (-1) - takesI x + leavesI x) (s.emits.getD k 0 + if x = 14 then 1 else 0) (Vm.next l k (x, y)) (Vm.uses s (x, y)) := rfl
  obtain ⟨st, hst'⟩ : ∃ st, st = Vm.stepC l s k (x, y) := ⟨_, rfl⟩
  rw [← hst']
  have HST := Lib.hid (hst'.trans hst)
  clear hst hst' hs hg hv hr hxy
  obtain ⟨d0, d8⟩ := hd
  obtain ⟨e0, e4⟩ := he
  have ht : 0 ≤ takesI x ∧ takesI x ≤ 2 ∧ 0 ≤ leavesI x ∧ leavesI x ≤ 2 := by
    unfold takesI leavesI Vm.takes Vm.leaves
    refine ⟨by omega, ?_, by omega, ?_⟩ <;> (repeat' split) <;> omega
  obtain ⟨t0, t2, v0, v2⟩ := ht
  generalize hdk : s.depth.getD k (-1) = dk at *
  have HDK := Lib.hid hdk
  clear hdk
  generalize s.emits.getD k 0 = ek at *
  generalize takesI x = tk at *
  generalize leavesI x = lv at *
  go_enter Tryz.func204, Tryz.ntmps204
  go_upto_region 2 with fail
  go_cut [6] (fun s6 wx => ∃ b6, s6 = .pointer (some ⟨b6, 0, none⟩) ∧ Grew (W.alloc (.cells #[.int .i64 x, .int .i64 y] 190)) wx ∧ W.heap.size + 1 ≤ b6 ∧ wx.heap[b6]? = some (.cells #[.int .i64 tk, .int .i64 lv] 306))
  case first =>
    refine wp_region_seq 8 Tryz.mixed (by kernel_rfl) (by kernel_rfl) ?_
    iterate 7
      apply Seq.val
      focus
        rintro w1 u ⟨R1, n1, rfl⟩ hF
        simp [moreFacts, Fact.more, Oper.deps, Region.binds, List.filter_cons, World.more_drew] at hF
        simp [putFacts, Oper.deps, Region.binds, List.filter_cons, Region.dstOf, Fact.at, Act.put, World.more_drew]
        go_wp2
        exact ⟨by repeat (first | with_reducible exact Grew.refl _ | apply Grew.more | apply Grew.alloc | apply Grew.drew | apply Grew.drewN), rfl, _, _, rfl, rfl, rfl⟩
    apply Seq.new #[.int .i64 0, .int .i64 0] 306
    focus
      rintro w1 u ⟨R1, n1, rfl⟩ hF
      clear hF
      simp [putFacts, Oper.deps, Region.binds, List.filter_cons, Region.dstOf, Fact.at, Act.put, World.more_drew]
      go_wp2
      exact ⟨by repeat (first | with_reducible exact Grew.refl _ | apply Grew.more | apply Grew.alloc | apply Grew.drew | apply Grew.drewN), rfl, _, _, rfl, rfl, _, rfl, heap_new_at _ _ _ (by simp [go_sem]), by simp [go_sem], by simp [go_sem]⟩
    rintro u w1 ⟨R1, n1, rfl⟩ hF
    simp [moreFacts, apartFacts, Fact.more, Fact.isNew, List.range_succ, IsNew, World.more_drew] at hF
    obtain ⟨b6, e6, h6, s6⟩ := hF
    have g6 : Grew (W.alloc (.cells #[.int .i64 x, .int .i64 y] 190)) ((W.alloc (.cells #[.int .i64 x, .int .i64 y] 190)).more R1 n1) := ⟨_, _, rfl⟩
    simp [putFacts, Region.dstOf, Fact.at, Act.put, List.range_succ, World.more_drew, e6]
    generalize ((W.alloc (.cells #[.int .i64 x, .int .i64 y] 190)).more R1 n1) = wx at *
    have k0 := cell_of (o := 0) h6
    have k1 := cell_of (o := 1) h6
    have k2 := frozen_of (o := 0) h6
    have k3 := frozen_of (o := 1) h6
    simp at k0 k1
    have H6 := Lib.hid h6
    clear h6 hlook
    go_wp2_with fail
    go_meet
    refine ⟨b6, rfl, (g6.set (by simpa [go_sem] using s6) _).set (by simpa [go_sem] using s6) _, s6, ?_⟩
    rw [set_self (set_self H6.out)]; rfl
  case rest =>
    obtain ⟨b6, rfl, ⟨R6, N6, rfl⟩, s6, h6⟩ := hcut
    have k0 := cell_of (o := 0) h6
    have k1 := cell_of (o := 1) h6
    simp at k0 k1
    have p6 : Pre b6 ((W.alloc (.cells #[.int .i64 x, .int .i64 y] 190)).more R6 N6) := heap_lt h6
    have H6 := Lib.hid h6
    have H6s : Hid (∀ (o : Nat) (v : Value), (((W.setCell ⟨B, o, none⟩ v).alloc (.cells #[.int .i64 x, .int .i64 y] 190)).more R6 N6).heap[b6]? = some (.cells #[.int .i64 tk, .int .i64 lv] 306)) := Lib.hid fun o v => by
      rw [set_in hp, set_other (show B ≠ b6 by have : B < W.heap.size := hp; omega)]; exact H6.out
    clear h6 hlook
    by_cases hlt : dk < tk
    · go_wp2
      refine wp_region_seq 11 Tryz.mixed (by kernel_rfl) (by kernel_rfl) ?_
      iterate 11
        apply Seq.val
        focus
          rintro w1 u ⟨R1, n1, rfl⟩ hF
          simp [moreFacts, Fact.more, Oper.deps, Region.binds, List.filter_cons, World.more_drew] at hF
          simp [putFacts, Oper.deps, Region.binds, List.filter_cons, Region.dstOf, Fact.at, Act.put, World.more_drew]
          go_wp2
          exact ⟨by repeat (first | with_reducible exact Grew.refl _ | apply Grew.more | apply Grew.alloc | apply Grew.drew | apply Grew.drewN), rfl, _, _, rfl, rfl, rfl⟩
      rintro u w1 ⟨R1, n1, rfl⟩ hF
      clear hF
      simp [putFacts, Region.dstOf, Fact.at, Act.put, List.range_succ, World.more_drew]
      go_wp2
      go_ret
      rw [HST.out.trans (if_pos hlt)]
      exact ⟨rfl, (Came.refl HG.out HS.out).more (by repeat (first | with_reducible exact Grew.refl _ | apply Grew.more | apply Grew.alloc | apply Grew.drew | apply Grew.drewN))⟩
    · replace HST := Lib.hid (HST.out.trans (if_neg hlt))
      go_wp2
      refine wp_region_seq 11 Tryz.mixed (by kernel_rfl) (by kernel_rfl) ?_
      iterate 11
        apply Seq.val
        focus
          rintro w1 u ⟨R1, n1, rfl⟩ hF
          simp [moreFacts, Fact.more, Oper.deps, Region.binds, List.filter_cons, World.more_drew] at hF
          simp [putFacts, Oper.deps, Region.binds, List.filter_cons, Region.dstOf, Fact.at, Act.put, World.more_drew]
          go_wp2
          exact ⟨by repeat (first | with_reducible exact Grew.refl _ | apply Grew.more | apply Grew.alloc | apply Grew.drew | apply Grew.drewN), rfl, _, _, rfl, rfl, rfl⟩
      rintro u w1 ⟨R1, n1, rfl⟩ hF
      clear hF
      simp [putFacts, Region.dstOf, Fact.at, Act.put, List.range_succ, World.more_drew]
      go_upto_block 0 with fail
      go_cut [7] (fun s7 wx => s7 = .int .i64 (ek + if x = 14 then 1 else 0) ∧ Came w0 B bd be bm cd ce (.slice (some ⟨b, off, none⟩) l.length cap) l.length W (Vm.uses s (x, y)) wx ∧ wx.heap[b6]? = some (.cells #[.int .i64 tk, .int .i64 lv] 306))
      case first =>
        by_cases x14 : x = 14
        · subst x14
          go_wp2
          go_meet
          exact ⟨rfl, (Came.refl HG.out HS.out).more (by repeat (first | with_reducible exact Grew.refl _ | apply Grew.more | apply Grew.alloc | apply Grew.drew | apply Grew.drewN)), grew_heap (by repeat (first | with_reducible exact Grew.refl _ | apply Grew.more | apply Grew.alloc | apply Grew.drew | apply Grew.drewN)) H6.out⟩
        by_cases x4 : x = 4 ∨ x = 5
        · have b14 : (x == 14) = false := by simpa using x14
          have hE : (ek + if x = 14 then 1 else 0) = ek := by rw [if_neg x14]; omega
          rcases r4 x4 with rfl | rfl
          · have hu : Vm.uses s (x, 0) = { s with u0 := true } := by unfold Vm.uses; rw [if_pos x4]; rfl
            have HU := Lib.hid hu
            clear hu hE x14
            rcases x4 with rfl | rfl
            all_goals
              go_wp2
              refine wp_region_seq 7 Tryz.mixed (by kernel_rfl) (by kernel_rfl) ?_
              iterate 7
                apply Seq.val
                focus
                  rintro w1 u ⟨R1, n1, rfl⟩ hF
                  simp [moreFacts, Fact.more, Oper.deps, Region.binds, List.filter_cons, World.more_drew] at hF
                  simp [putFacts, Oper.deps, Region.binds, List.filter_cons, Region.dstOf, Fact.at, Act.put, World.more_drew]
                  go_wp2
                  exact ⟨by repeat (first | with_reducible exact Grew.refl _ | apply Grew.more | apply Grew.alloc | apply Grew.drew | apply Grew.drewN), rfl, _, _, rfl, rfl, rfl⟩
              rintro u w1 ⟨R1, n1, rfl⟩ hF
              clear hF
              simp [putFacts, Region.dstOf, Fact.at, Act.put, List.range_succ, World.more_drew]
              go_wp2
              go_meet
              rw [HU.out]
              exact ⟨by simp, (Came.mk ((HG.out).set HS.out.hB _) HS.out.use0 ((Others.refl _ _ _ _).set (.inl rfl) _)).more (by repeat (first | with_reducible exact Grew.refl _ | apply Grew.more | apply Grew.alloc | apply Grew.drew | apply Grew.drewN)), grew_heap (by repeat (first | with_reducible exact Grew.refl _ | apply Grew.more | apply Grew.alloc | apply Grew.drew | apply Grew.drewN)) (H6s.out _ _)⟩
          · have hu : Vm.uses s (x, 1) = { s with u1 := true } := by unfold Vm.uses; rw [if_pos x4]; rfl
            have HU := Lib.hid hu
            clear hu hE x14
            rcases x4 with rfl | rfl
            all_goals
              go_wp2
              refine wp_region_seq 7 Tryz.mixed (by kernel_rfl) (by kernel_rfl) ?_
              iterate 7
                apply Seq.val
                focus
                  rintro w1 u ⟨R1, n1, rfl⟩ hF
                  simp [moreFacts, Fact.more, Oper.deps, Region.binds, List.filter_cons, World.more_drew] at hF
                  simp [putFacts, Oper.deps, Region.binds, List.filter_cons, Region.dstOf, Fact.at, Act.put, World.more_drew]
                  go_wp2
                  exact ⟨by repeat (first | with_reducible exact Grew.refl _ | apply Grew.more | apply Grew.alloc | apply Grew.drew | apply Grew.drewN), rfl, _, _, rfl, rfl, rfl⟩
              rintro u w1 ⟨R1, n1, rfl⟩ hF
              clear hF
              simp [putFacts, Region.dstOf, Fact.at, Act.put, List.range_succ, World.more_drew]
              go_wp2
              go_meet
              rw [HU.out]
              exact ⟨by simp, (Came.mk ((HG.out).set HS.out.hB _) HS.out.use1 ((Others.refl _ _ _ _).set (.inl rfl) _)).more (by repeat (first | with_reducible exact Grew.refl _ | apply Grew.more | apply Grew.alloc | apply Grew.drew | apply Grew.drewN)), grew_heap (by repeat (first | with_reducible exact Grew.refl _ | apply Grew.more | apply Grew.alloc | apply Grew.drew | apply Grew.drewN)) (H6s.out _ _)⟩
        · have b14 : (x == 14) = false := by simpa using x14
          have b4 : (x == 4) = false := by simp; omega
          have b5 : (x == 5) = false := by simp; omega
          have hu : Vm.uses s (x, y) = s := by unfold Vm.uses; rw [if_neg x4]
          clear x4 r4
          go_wp2
          go_meet
          rw [hu]
          exact ⟨by simp [x14], (Came.refl HG.out HS.out).more (by repeat (first | with_reducible exact Grew.refl _ | apply Grew.more | apply Grew.alloc | apply Grew.drew | apply Grew.drewN)), grew_heap (by repeat (first | with_reducible exact Grew.refl _ | apply Grew.more | apply Grew.alloc | apply Grew.drew | apply Grew.drewN)) H6.out⟩
      case rest =>
        obtain ⟨rfl, hcm, h6⟩ := hcut
        have hek : 0 ≤ (ek + if x = 14 then 1 else 0) ∧ (ek + if x = 14 then 1 else 0) ≤ 5 := by split <;> omega
        generalize hee : (ek + if x = 14 then 1 else 0) = ee at *
        have HM := Lib.hid hcm
        have H6' := Lib.hid h6
        have hc5' := cell_of (o := 5) hcm.walk.cB
        simp at hc5'
        have hp' := Pre.mk (heap_lt hcm.walk.cB)
        clear hcm h6
        have hnl := next_len l k (x, y)
        have hna : ∀ a ∈ Vm.next l k (x, y), k < a ∧ a ≤ l.length := fun a ha => ⟨Vm.next_gt hk a ha, next_le hk a ha⟩
        have ltB := heap_lt HM.out.walk.cB
        have ltD := heap_lt HM.out.walk.cD
        have ltE := heap_lt HM.out.walk.cE
        have hN := fun w hv => next_any (.slice (some ⟨b, off, none⟩) l.length cap) l k hk hl HRT.out w hv
        rw [HXY.out] at hN
        generalize Vm.next l k (x, y) = nx at *
        have hdu : (Vm.uses s (x, y)).depth.getD k (-1) = dk := by rw [(uses_len _ _).1]; exact HDK.out
        generalize Vm.uses s (x, y) = su at *
        have HN := Lib.hid hN
        have HNA := Lib.hid hna
        have HDU := Lib.hid hdu
        have HEE := Lib.hid hee
        clear hN hna hdu hee r4
        go_wp2_with (go_at_call 228; refine (HN.out _ (HV.out.grew (HM.out.grew.trans (by repeat (first | with_reducible exact Grew.refl _ | apply Grew.more | apply Grew.alloc | apply Grew.drew | apply Grew.drewN))))).mono ?_; rintro e w1 ⟨u, rfl, hu, R7, N7, rfl⟩; obtain ⟨au, cu, rfl⟩ := own_open hu; (have HU := Lib.hid hu); clear hu)
        go_loopw [65] (fun i wr => ∃ (j : Nat) (sj : Vm.Cst), j ≤ nx.length ∧ i = .int .i64 j ∧ Vm.comes l.length (dk - tk + lv) ee nx su = Vm.comes l.length (dk - tk + lv) ee (nx.drop j) sj ∧ sj.depth.getD k (-1) = dk ∧ Came w0 B bd be bm cd ce (.slice (some ⟨b, off, none⟩) l.length cap) l.length W sj wr ∧ OwnAt wc.heap.size 3 1 encZ wr (.slice au nx.length cu) nx ∧ wr.heap[b6]? = some (.cells #[.int .i64 tk, .int .i64 lv] 306)) (fun i _ => nx.length - (intOf i).toNat)
        case atStart => exact ⟨0, su, Nat.zero_le _, rfl, rfl, HDU.out, HM.out.more (by repeat (first | with_reducible exact Grew.refl _ | apply Grew.more | apply Grew.alloc | apply Grew.drew | apply Grew.drewN)), HU.out.grew (by repeat (first | with_reducible exact Grew.refl _ | apply Grew.more | apply Grew.alloc | apply Grew.drew | apply Grew.drewN)), grew_heap (by repeat (first | with_reducible exact Grew.refl _ | apply Grew.more | apply Grew.alloc | apply Grew.drew | apply Grew.drewN)) H6'.out⟩
        case round =>
          obtain ⟨j, sj, hj, rfl, hcs, hdj, hcj, huj, h6j⟩ := hrel
          by_cases hlt' : j < nx.length
          · obtain ⟨bu, offu, rfl, hbu, hcu⟩ := own_cell huj j hlt'
            have hto := HNA.out nx[j] (List.getElem_mem hlt')
            rw [comes_at hlt'] at hcs
            have hcw := cell_of (o := 0) hcj.walk.cB
            have hpw := Pre.mk (heap_lt hcj.walk.cB)
            have hpdw := Pre.mk (heap_lt hcj.walk.cD)
            have hcdw : wr.cell? ⟨bd, k, none⟩ = some (.int .i64 (sj.depth.getD k (-1))) := (cell_of hcj.walk.cD).trans (ints_get _ _ (by rw [hcj.walk.ld]; exact hk) _)
            rw [hdj] at hcdw
            simp at hcw
            have k0' := cell_of (o := 0) h6j
            have k1' := cell_of (o := 1) h6j
            simp at k0' k1'
            have p6' := Pre.mk (heap_lt h6j)
            generalize nx[j] = pl at *
            obtain ⟨hto1, hto2⟩ := hto
            have HCJ := Lib.hid hcj
            have HUJ := Lib.hid huj
            have H6J := Lib.hid h6j
            have HDJ := Lib.hid hdj
            have HCS := Lib.hid hcs
            have hne : k ≠ pl := by omega
            clear hcj huj h6j hdj hcs
            cases hcb : (Vm.come l.length sj pl (dk - tk + lv) ee).2
            all_goals
              have HCB := Lib.hid hcb
              clear hcb
              go_wp2
              refine wp_region_seq 17 Tryz.mixed (by kernel_rfl) (by kernel_rfl) ?_
              iterate 17
                apply Seq.val
                focus
                  rintro w1 u ⟨R1, n1, rfl⟩ hF
                  simp [moreFacts, Fact.more, Oper.deps, Region.binds, List.filter_cons, World.more_drew] at hF
                  simp [putFacts, Oper.deps, Region.binds, List.filter_cons, Region.dstOf, Fact.at, Act.put, World.more_drew]
                  go_wp2
                  exact ⟨by repeat (first | with_reducible exact Grew.refl _ | apply Grew.more | apply Grew.alloc | apply Grew.drew | apply Grew.drewN), rfl, _, _, rfl, rfl, rfl⟩
              rintro u w1 ⟨R1, n1, rfl⟩ hF
              clear hF
              simp [putFacts, Region.dstOf, Fact.at, Act.put, List.range_succ, World.more_drew]
              go_wp2_with (go_at_call 203; refine (come_any w0 _ B bd be bm cd ce _ l.length sj pl (dk - tk + lv) ee (HCJ.out.walk.grew (by repeat (first | with_reducible exact Grew.refl _ | apply Grew.more | apply Grew.alloc | apply Grew.drew | apply Grew.drewN))) (HCJ.out.grew.trans (by repeat (first | with_reducible exact Grew.refl _ | apply Grew.more | apply Grew.alloc | apply Grew.drew | apply Grew.drewN))) ⟨_, _, rfl⟩ hto2 hl).mono ?_; rintro e w1 ⟨rfl, hcm1⟩; rw [HCB.out]; (have HC1 := Lib.hid hcm1); clear hcm1)
            · go_ret
              rw [HST.out, HCS.out, HCB.out, if_neg (by decide)]
              exact ⟨rfl, HCJ.out.thn (by repeat (first | with_reducible exact Grew.refl _ | apply Grew.more | apply Grew.alloc | apply Grew.drew | apply Grew.drewN)) HC1.out⟩
            · go_roundw
              case rel =>
                refine ⟨j + 1, _, by omega, by go_num, HCS.out.trans (if_pos HCB.out), (Vm.come_other hne).trans HDJ.out, HCJ.out.thn (by repeat (first | with_reducible exact Grew.refl _ | apply Grew.more | apply Grew.alloc | apply Grew.drew | apply Grew.drewN)) HC1.out, (HUJ.out.grew (by repeat (first | with_reducible exact Grew.refl _ | apply Grew.more | apply Grew.alloc | apply Grew.drew | apply Grew.drewN))).same ?_, ?_⟩
                · intro q hq
                  obtain ⟨hq1, _, hq2⟩ := HUJ.out.block hq
                  have hq3 := heap_lt hq2
                  exact (HC1.out.oth.2 q (by rw [World.more_size]; omega) (by omega) (by omega) (by omega)).trans (World.heap_more R1 n1 q hq3)
                · have hb3 := heap_lt H6J.out
                  have q1 : B < W.heap.size := hp
                  have q2 : bd < W.heap.size := hpd
                  have q3 : be < W.heap.size := hpe
                  exact (HC1.out.oth.2 b6 (by rw [World.more_size]; omega) (by omega) (by omega) (by omega)).trans ((World.heap_more R1 n1 b6 hb3).trans H6J.out)
              case measure => first | (simp [intOf]; done) | (simp [intOf]; omega)
          · obtain rfl : j = nx.length := by omega
            have HCJ := Lib.hid hcj
            have HCS := Lib.hid hcs
            clear hcj huj h6j hdj hcs
            go_wp2
            go_ret
            rw [HST.out, HCS.out, List.drop_length]
            exact ⟨rfl, HCJ.out⟩
end Go.Proofs.YtpbohimddmploaaGreat
