import Derived.Test.YtepfdekppnobaaaGreatMb26
import Derived.Test.YtepfdekppnobaaaGreatMb5
/-! graph.node. -/
namespace Go.Proofs.YtepfdekppnobaaaGreat
set_option linter.unusedSimpArgs false
set_option linter.unusedVariables false
open Go.RowKit Ga
set_option maxRecDepth 100000

def aboveB (l : List Gr.Nd) (x : Int) : Bool := match Gr.nodeOf l x with
  | some m => m.kind == 2
  | none => true
theorem enters100 : ∀ args w, (callFunc 100 args).run Tryz.prog w = .ok (.enter 100 args) w := enters_of Tryz.func100 (by kernel_rfl) rfl
set_option maxHeartbeats 4000000 in
theorem node1_pred (v : Value) (l : List Gr.Nd) (B : Nat) (w : World) (hv : NodesAt w v l) (hs : Small l) (hB : Pre B w) (hc : w.cell? ⟨B, 0, none⟩ = some v) : PredI 100 #[.pointer (some ⟨B, 0, none⟩)] (aboveB l) w := by
  intro W x g
  obtain ⟨R, N, rfl⟩ := g
  have HF := Lib.hid fun W (g : Grew w W) => find_any v l x W (hv.grew g) hs
  obtain ⟨a, cap, rfl, hm, -⟩ := hv.openC
  clear hv hs
  show Calls Tryz.prog 100 #[.int .i64 x, .pointer (some ⟨B, 0, none⟩)] _ (Gives (.bool (aboveB l x)) _)
  cases hn : Gr.nodeOf l x with
  | none =>
    have hb : aboveB l x = true := by unfold aboveB; rw [hn]
    rw [hb]
    rw [hn] at HF
    clear hn hb
    go_enter Tryz.func100, Tryz.ntmps100
    go_wp2_with (go_at_call 31; refine (HF.out _ (by repeat (first | with_reducible exact Grew.refl _ | apply Grew.more | apply Grew.alloc | apply Grew.drew | apply Grew.drewN))).mono ?_; rintro e w1 ⟨rfl, R3, n3, rfl⟩)
    go_ret
    refine ⟨rfl, ?_⟩
    repeat (first | with_reducible exact Grew.refl _ | apply Grew.more | apply Grew.alloc | apply Grew.drew | apply Grew.drewN)
  | some m =>
    have hb : aboveB l x = (m.kind == 2) := by unfold aboveB; rw [hn]
    rw [hb]
    rw [hn] at HF
    clear hn hb
    go_enter Tryz.func100, Tryz.ntmps100
    go_wp2_with (go_at_call 31; refine (HF.out _ (by repeat (first | with_reducible exact Grew.refl _ | apply Grew.more | apply Grew.alloc | apply Grew.drew | apply Grew.drewN))).mono ?_; rintro e w1 ⟨c9, rfl, hn9, -, R3, n3, rfl⟩; obtain ⟨cid9, kind9, af9, cf9, ap9, cp9, par9, s0, s1, s2, s3, s4, s5, s6, s7, rfl⟩ := hn9.lit; (have HN9 := Lib.hid hn9); clear hn9)
    go_ret
    refine ⟨by rw [HN9.out.kind]; rfl, ?_⟩
    repeat (first | with_reducible exact Grew.refl _ | apply Grew.more | apply Grew.alloc | apply Grew.drew | apply Grew.drewN)

def nodeB (l : List Gr.Nd) (n : Gr.Nd) : Bool := decide (0 ≤ n.id) && (decide (n.id < 8) && (kindB n && (routeB n && !n.frm.any (aboveB l))))
set_option maxHeartbeats 8000000 in
theorem node_any (c : NdC) (n : Gr.Nd) (v : Value) (l : List Gr.Nd) (w : World) (hn : NodeIs w c n) (hv : NodesAt w v l) (hs : Small l) (hf : n.frm.length ≤ 1000) : Calls Tryz.prog 66 #[.agg #[.int .i64 c.id, .int .i64 c.kind, .slice c.af c.nf c.cf, .slice c.ap c.np c.cp, .int .i64 c.par, .int .i64 c.r0, .int .i64 c.r1, .int .i64 c.r2, .int .i64 c.r3, .int .i64 c.r4, .int .i64 c.r5, .int .i64 c.r6, .int .i64 c.r7], v] w (Gives (.bool (nodeB l n)) w) := by
  have HK := Lib.hid fun W (g : Grew w W) => kind_any c n W (hn.grew g) hf
  have HR := Lib.hid fun W (g : Grew w W) => route_any c n W (hn.grew g)
  have HC := Lib.hid fun W (g : Grew w W) (B : Nat) (hc : W.cell? ⟨B, 0, none⟩ = some v) => containsFn_any c.vf n.frm 100 #[.pointer (some ⟨B, 0, none⟩)] (aboveB l) W (hn.f.grew g) enters100 (node1_pred v l B W (hv.grew g) hs (Pre.ofCell hc) hc)
  obtain ⟨id, kind, af, cf, ap, cp, par, r0, r1, r2, r3, r4, r5, r6, r7, rfl⟩ := hn.lit
  obtain ⟨a, cap, rfl, hm, -⟩ := hv.openC
  have hid := hn.id
  have hb : nodeB l n = (decide (0 ≤ id) && (decide (id < 8) && (kindB n && (routeB n && !n.frm.any (aboveB l))))) := by unfold nodeB; rw [hid]
  rw [hb]
  clear hb hid hn hv hs
  simp only at HK HR HC
  show Calls Tryz.prog 66 #[.agg #[.int .i64 id, .int .i64 kind, .slice af n.frm.length cf, .slice ap n.prog.length cp, .int .i64 par, .int .i64 r0, .int .i64 r1, .int .i64 r2, .int .i64 r3, .int .i64 r4, .int .i64 r5, .int .i64 r6, .int .i64 r7], .slice a l.length cap] w _
  generalize kindB n = kb at *
  generalize routeB n = rb at *
  generalize n.frm.any (aboveB l) = ab at *
  by_cases h0 : 0 ≤ id
  · rw [decide_eq_true h0, Bool.true_and]
    by_cases h8 : id < 8
    · rw [decide_eq_true h8, Bool.true_and]
      cases kb with
      | true =>
        rw [Bool.true_and]
        cases rb with
        | true =>
          rw [Bool.true_and]
          go_enter Tryz.func66, Tryz.ntmps66
          go_wp2_with (first
        | (go_at_call 101; refine (HK.out _ (by repeat (first | with_reducible exact Grew.refl _ | apply Grew.more | apply Grew.alloc | apply Grew.drew | apply Grew.drewN))).mono ?_; rintro e w1 ⟨rfl, R3, n3, rfl⟩)
        | (go_at_call 102; refine (HR.out _ (by repeat (first | with_reducible exact Grew.refl _ | apply Grew.more | apply Grew.alloc | apply Grew.drew | apply Grew.drewN))).mono ?_; rintro e w1 ⟨rfl, R4, n4, rfl⟩)
        | (go_at_call 38; refine (HC.out _ (by repeat (first | with_reducible exact Grew.refl _ | apply Grew.more | apply Grew.alloc | apply Grew.drew | apply Grew.drewN)) (w.heap.size + 1) (by simp [go_sem])).mono ?_; rintro e w1 ⟨rfl, R5, n5, rfl⟩))
          go_ret
          refine ⟨rfl, ?_⟩
          repeat (first | with_reducible exact Grew.refl _ | apply Grew.more | apply Grew.alloc | apply Grew.drew | apply Grew.drewN)
        | false =>
          rw [Bool.false_and]
          go_enter Tryz.func66, Tryz.ntmps66
          go_wp2_with (first
        | (go_at_call 101; refine (HK.out _ (by repeat (first | with_reducible exact Grew.refl _ | apply Grew.more | apply Grew.alloc | apply Grew.drew | apply Grew.drewN))).mono ?_; rintro e w1 ⟨rfl, R3, n3, rfl⟩)
        | (go_at_call 102; refine (HR.out _ (by repeat (first | with_reducible exact Grew.refl _ | apply Grew.more | apply Grew.alloc | apply Grew.drew | apply Grew.drewN))).mono ?_; rintro e w1 ⟨rfl, R4, n4, rfl⟩)
        | (go_at_call 38; refine (HC.out _ (by repeat (first | with_reducible exact Grew.refl _ | apply Grew.more | apply Grew.alloc | apply Grew.drew | apply Grew.drewN)) (w.heap.size + 1) (by simp [go_sem])).mono ?_; rintro e w1 ⟨rfl, R5, n5, rfl⟩))
          go_ret
          refine ⟨rfl, ?_⟩
          repeat (first | with_reducible exact Grew.refl _ | apply Grew.more | apply Grew.alloc | apply Grew.drew | apply Grew.drewN)
      | false =>
        rw [Bool.false_and]
        go_enter Tryz.func66, Tryz.ntmps66
        go_wp2_with (first
        | (go_at_call 101; refine (HK.out _ (by repeat (first | with_reducible exact Grew.refl _ | apply Grew.more | apply Grew.alloc | apply Grew.drew | apply Grew.drewN))).mono ?_; rintro e w1 ⟨rfl, R3, n3, rfl⟩)
        | (go_at_call 102; refine (HR.out _ (by repeat (first | with_reducible exact Grew.refl _ | apply Grew.more | apply Grew.alloc | apply Grew.drew | apply Grew.drewN))).mono ?_; rintro e w1 ⟨rfl, R4, n4, rfl⟩)
        | (go_at_call 38; refine (HC.out _ (by repeat (first | with_reducible exact Grew.refl _ | apply Grew.more | apply Grew.alloc | apply Grew.drew | apply Grew.drewN)) (w.heap.size + 1) (by simp [go_sem])).mono ?_; rintro e w1 ⟨rfl, R5, n5, rfl⟩))
        go_ret
        refine ⟨rfl, ?_⟩
        repeat (first | with_reducible exact Grew.refl _ | apply Grew.more | apply Grew.alloc | apply Grew.drew | apply Grew.drewN)
    · rw [decide_eq_false h8, Bool.false_and]
      go_enter Tryz.func66, Tryz.ntmps66
      go_wp2
      go_ret
      refine ⟨rfl, ?_⟩
      repeat (first | with_reducible exact Grew.refl _ | apply Grew.more | apply Grew.alloc | apply Grew.drew | apply Grew.drewN)
  · rw [decide_eq_false h0, Bool.false_and]
    go_enter Tryz.func66, Tryz.ntmps66
    go_wp2
    go_ret
    refine ⟨rfl, ?_⟩
    repeat (first | with_reducible exact Grew.refl _ | apply Grew.more | apply Grew.alloc | apply Grew.drew | apply Grew.drewN)
end Go.Proofs.YtepfdekppnobaaaGreat

/-! The library's stable sort at nodes, up to 19 of them. -/
namespace Go.Proofs.YtepfdekppnobaaaGreat
set_option linter.unusedSimpArgs false
set_option linter.unusedVariables false
open Go.RowKit Ga
set_option maxRecDepth 100000

def cmpId (x y : NdC) : Int := if x.id < y.id then -1 else if y.id < x.id then 1 else 0
theorem cmp_any (x y : NdC) (W : World) : Calls Tryz.prog 72 #[.agg #[.int .i64 x.id, .int .i64 x.kind, .slice x.af x.nf x.cf, .slice x.ap x.np x.cp, .int .i64 x.par, .int .i64 x.r0, .int .i64 x.r1, .int .i64 x.r2, .int .i64 x.r3, .int .i64 x.r4, .int .i64 x.r5, .int .i64 x.r6, .int .i64 x.r7], .agg #[.int .i64 y.id, .int .i64 y.kind, .slice y.af y.nf y.cf, .slice y.ap y.np y.cp, .int .i64 y.par, .int .i64 y.r0, .int .i64 y.r1, .int .i64 y.r2, .int .i64 y.r3, .int .i64 y.r4, .int .i64 y.r5, .int .i64 y.r6, .int .i64 y.r7]] W fun e w' => e = .returned (.int .i64 (cmpId x y)) ∧ ∃ q os', w' = Sort.grow (W.drewN q) os' := by
  obtain ⟨xi, xk, xaf, xnf, xcf, xap, xnp, xcp, xpar, x0, x1, x2, x3, x4, x5, x6, x7⟩ := x
  obtain ⟨yi, yk, yaf, ynf, ycf, yap, ynp, ycp, ypar, y0, y1, y2, y3, y4, y5, y6, y7⟩ := y
  unfold cmpId
  simp only
  by_cases h1 : xi < yi
  · rw [if_pos h1]
    go_enter Tryz.func72, Tryz.ntmps72
    go_wp2
    go_ret
    exact ⟨rfl, 0, _, by rw [Sort.alloc_eq_grow, Sort.alloc_eq_grow, Sort.grow_grow]; rfl⟩
  · rw [if_neg h1]
    by_cases h2 : yi < xi
    · rw [if_pos h2]
      go_enter Tryz.func72, Tryz.ntmps72
      go_wp2
      go_ret
      exact ⟨rfl, 0, _, by rw [Sort.alloc_eq_grow, Sort.alloc_eq_grow, Sort.grow_grow]; rfl⟩
    · rw [if_neg h2]
      go_enter Tryz.func72, Tryz.ntmps72
      go_wp2
      go_ret
      exact ⟨rfl, 0, _, by rw [Sort.alloc_eq_grow, Sort.alloc_eq_grow, Sort.grow_grow]; rfl⟩
def NodesOwn (base : Nat) (w : World) (v : Value) (lc : List NdC) : Prop := OwnAt base 64 13 encNd w v lc
theorem infoNode : (Tryz.prog.info? 64).map (fun i => (i.zero, i.size, i.bytes)) = some (some (.agg #[.int .i64 0, .int .i64 0, .slice none 0 0, .slice none 0 0, .int .i64 0, .int .i64 0, .int .i64 0, .int .i64 0, .int .i64 0, .int .i64 0, .int .i64 0, .int .i64 0, .int .i64 0]), 13, 136) := by kernel_rfl
theorem enters72 : ∀ args w, (callFunc 72 args).run Tryz.prog w = .ok (.enter 72 args) w := enters_of Tryz.func72 (by kernel_rfl) rfl

theorem flat_flatK (lc : List NdC) (j : Nat) (hj : j < lc.length * 13) : (lc.flatMap encNd)[j]? = some ((Sort.flatK encNd 13 lc.toArray)[j]!) := by
  have hi : j / 13 < lc.length := by omega
  rw [Sort.get_flatK encNd 13 lc.toArray j (by simpa using hj)]
  have e1 : lc.toArray[j / 13]! = lc[j / 13] := by rw [getElem!_pos lc.toArray (j / 13) (by simpa using hi)]; simp
  rw [e1]
  have hm : j % 13 < (encNd lc[j / 13]).length := by rw [encNd_len]; omega
  have h2 : (encNd lc[j / 13])[j % 13]? = some ((encNd lc[j / 13])[j % 13]!) := by rw [List.getElem?_eq_getElem hm, getElem!_pos (encNd lc[j / 13]) (j % 13) hm]
  have h3 := flat_get encNd_len lc (j / 13) lc[j / 13] (List.getElem?_eq_getElem hi) (j % 13) _ h2
  rw [show j / 13 * 13 + j % 13 = j by omega] at h3
  exact h3
theorem own_holdsK {base : Nat} {W : World} {b cap n : Nat} {lc : List NdC} (h : NodesOwn base W (.slice (some ⟨b, 0, none⟩) n cap) lc) : Sort.HoldsK encNd 13 W b 0 lc.toArray ∧ base ≤ b ∧ b < W.heap.size := by
  obtain ⟨h1, h2⟩ := h
  rcases h2 with ⟨h, _⟩ | ⟨g, cap', cur, hv, hb, hh, hc, hm, hs, ht⟩
  · cases h
  · cases hv
    refine ⟨fun j hj => ?_, hb, (Array.getElem?_eq_some_iff.1 hh).1⟩
    rw [Sort.size_flatK] at hj
    have hj' : j < lc.length * 13 := by simpa using hj
    rw [Nat.zero_add, cell_of_heap hh, frozen_of_heap hh]
    refine ⟨?_, rfl⟩
    have h3 := flat_flatK lc j hj'
    rw [← ht, List.getElem?_take, if_pos hj'] at h3
    simpa using h3
/-- .. and what the sort leaves -/
theorem own_ofSort {base : Nat} {W : World} {b cap n m : Nat} {lc lc' : List NdC} {os : Array Obj} (h : NodesOwn base W (.slice (some ⟨b, 0, none⟩) n cap) lc) (hl : lc'.length = lc.length) :
    NodesOwn base (Go.Proofs.sortWorldK encNd 13 W b 0 m lc'.toArray os) (.slice (some ⟨b, 0, none⟩) n cap) lc' ∧ (∀ q, q < W.heap.size → q ≠ b → (Go.Proofs.sortWorldK encNd 13 W b 0 m lc'.toArray os).heap[q]? = W.heap[q]?) ∧ W.heap.size ≤ (Go.Proofs.sortWorldK encNd 13 W b 0 m lc'.toArray os).heap.size := by
  obtain ⟨h1, h2⟩ := h
  rcases h2 with ⟨h, _⟩ | ⟨g, cap', cur, hv, hb, hh, hc, hm, hs, ht⟩
  · cases h
  · cases hv
    have hblk : b < W.heap.size := (Array.getElem?_eq_some_iff.1 hh).1
    have hat : ∀ q, q < W.heap.size → (Go.Proofs.sortWorldK encNd 13 W b 0 m lc'.toArray os).heap[q]? = (Sort.putRowK encNd 13 (Sort.ahead W m) b 0 lc'.toArray).heap[q]? := by
      intro q hq
      unfold sortWorldK Sort.grow
      simp only
      rw [Array.getElem?_append_left]
      show q < (Sort.putRow id _ _ _ _).heap.size
      rw [Sort.size_putRow]
      exact hq
    have hself : (Go.Proofs.sortWorldK encNd 13 W b 0 m lc'.toArray os).heap[b]? = some (.cells (Sort.putCells id 0 (Sort.flatK encNd 13 lc'.toArray) cur) 64) := by
      rw [hat b hblk]
      unfold Sort.putRowK Sort.putRow Sort.mapBlock
      simp only [Array.getElem?_modify, if_true]
      rw [show (Sort.ahead W m).heap = W.heap from rfl]
      have hh' : W.heap[b]? = some (.cells cur 64) := hh
      rw [hh']
      rfl
    have hps : (Sort.putCells id 0 (Sort.flatK encNd 13 lc'.toArray) cur).size = cur.size := by unfold Sort.putCells; rw [Array.size_mapIdx]
    refine ⟨⟨by rw [flat_length encNd_len], .inr ⟨b, cap, _, by rw [hl], hb, hself, by rw [hl]; exact hc, hm, by rw [hps]; exact hs, ?_⟩⟩, fun q hq hne => ?_, ?_⟩
    · refine List.ext_getElem? fun j => ?_
      by_cases hj : j < lc'.length * 13
      · rw [List.getElem?_take, if_pos hj, flat_flatK lc' j hj]
        have hjc : j < cur.size := by
          rw [hs]
          have : lc'.length * 13 ≤ cap * 13 := Nat.mul_le_mul_right 13 (by rw [hl]; exact hc)
          omega
        unfold Sort.putCells
        rw [Array.getElem?_toList, Array.getElem?_mapIdx, Array.getElem?_eq_getElem hjc]
        simp only [Option.map_some, Nat.zero_le, true_and, Nat.zero_add, Sort.size_flatK, Nat.sub_zero, id]
        rw [if_pos (by simpa using hj)]
      · rw [List.getElem?_take, if_neg hj, List.getElem?_eq_none (by rw [flat_length encNd_len]; omega)]
    · rw [hat q hq]
      unfold Sort.putRowK Sort.putRow Sort.mapBlock
      simp only [Array.getElem?_modify]
      rw [if_neg (fun e => hne e.symm)]
      rfl
    · unfold sortWorldK Sort.grow Sort.putRowK
      simp only [Array.size_append, Sort.size_putRow]
      exact Nat.le_add_right _ _

theorem swoId : Sort.SWO (ltOf cmpId) := by
  refine ⟨fun x => ?_, fun x y z h1 h2 => ?_, fun x y z h1 h2 => ?_⟩
  · unfold ltOf cmpId; simp
  · unfold ltOf cmpId at *
    simp only [decide_eq_true_eq] at *
    split at h1 <;> split at h2 <;> first | omega | (rw [if_pos (by omega)]; omega) | (split at h1 <;> split at h2 <;> omega)
  · unfold ltOf cmpId at *
    simp only [decide_eq_false_iff_not] at *
    split at h1 <;> split at h2 <;> first | omega | (rw [if_neg (by omega)]; split <;> omega)
def sortC (lc : List NdC) : List NdC := (Sort.insertionSort (ltOf cmpId) lc.toArray 0 lc.length).toList
theorem sortC_ok (lc : List NdC) : (sortC lc).Perm lc ∧ (sortC lc).Pairwise fun a b => a.id ≤ b.id := by
  have h := Sort.insertionSort_holds (lt := ltOf cmpId) swoId lc.toArray 0 lc.length (Nat.zero_le _) (by simp)
  obtain ⟨⟨h1, h2, h3⟩, h4⟩ := h
  have hsz : (Sort.insertionSort (ltOf cmpId) lc.toArray 0 lc.length).size = lc.length := by rw [h1]; simp
  unfold sortC
  generalize Sort.insertionSort (ltOf cmpId) lc.toArray 0 lc.length = d at *
  constructor
  · have e1 : d.extract 0 lc.length = d := by rw [← hsz]; simp
    have e2 : lc.toArray.extract 0 lc.length = lc.toArray := by
      simp
    rw [e1, e2] at h3
    exact h3
  · rw [List.pairwise_iff_getElem]
    intro i j hi hj hij
    have hi' : i < d.size := by simpa using hi
    have hj' : j < d.size := by simpa using hj
    have h5 := h4 i j (Nat.zero_le _) hij (by omega)
    rw [getElem!_pos d i hi', getElem!_pos d j hj'] at h5
    simp only [Array.getElem_toList]
    unfold ltOf cmpId at h5
    simp only [decide_eq_false_iff_not] at h5
    split at h5
    · omega
    · omega
def SortPost (base : Nat) (W : World) (v : Value) (lc : List NdC) (e : Ending) (w' : World) : Prop :=
  e = .returned (.tuple #[]) ∧ ∃ lc', NodesOwn base w' v lc' ∧ lc'.Perm lc ∧ (lc'.Pairwise fun a b => a.id ≤ b.id) ∧ (∀ q, q < W.heap.size → v.ownBlock ≠ some q → w'.heap[q]? = W.heap[q]?) ∧ W.heap.size ≤ w'.heap.size ∧ (∀ w0, Grew w0 W → w0.heap.size ≤ base → Grew w0 w')
theorem SortPost.none (base : Nat) (W : World) (v : Value) (h : NodesOwn base W v []) : SortPost base W v [] (.returned (.tuple #[])) W :=
  ⟨rfl, [], h, List.Perm.refl _, List.Pairwise.nil, fun _ _ _ => rfl, Nat.le_refl _, fun _ g _ => g⟩
set_option maxHeartbeats 2000000 in
theorem insNodes_any (base : Nat) (W : World) (v : Value) (lc : List NdC) (h : NodesOwn base W v lc) (hl : lc.length ≤ 1000) :
    Calls Tryz.prog 133 #[v, .int .i64 0, .int .i64 lc.length, .func (.func 72) #[] #[]] W (SortPost base W v lc) := by
  rcases h.form with ⟨rfl, hn⟩ | ⟨b, cap, rfl, hb, hc, hm⟩
  · subst hn
    have HS := Lib.hid (SortPost.none base W _ h)
    clear h
    show Calls Tryz.prog _ #[.slice none 0 0, .int .i64 0, .int .i64 0, .func (.func 72) #[] #[]] W _
    go_enter Tryz.func133, Tryz.ntmps133
    go_wp2
    go_loopg [8] 0 (fun gg s8 wr => s8 = .int .i64 1 ∧ wr = W)
    case atStart => exact ⟨rfl, rfl⟩
    case round =>
      obtain ⟨rfl, rfl⟩ := hrel
      go_wp2
      go_end0
      exact HS.out
  · obtain ⟨hh, hb1, hb2⟩ := own_holdsK h
    have hcon := AnyQ.insertionSortCmpFunc Tryz.insNode 13 Tryz.isAgg64 Tryz.sizeOf64 encNd encNd_len encNd_one cmpId 72 #[] b 0 cap 0 lc.length lc.toArray W enters72 (fun m os dk _ x y => cmp_any x y _) hh hb2 (Nat.zero_le _) (by simp) (by simp; omega)
    have hcon2 : Calls Tryz.prog 133 #[.slice (some ⟨b, 0, none⟩) lc.length cap, .int .i64 0, .int .i64 lc.length, .func (.func 72) #[] #[]] W _ := hcon
    refine hcon2.mono fun e w' ⟨he, n, os, hw⟩ => ?_
    obtain ⟨p1, p2⟩ := sortC_ok lc
    have hw2 : w' = sortWorldK encNd 13 W b 0 n (sortC lc).toArray os := hw
    obtain ⟨q1, q2, q3⟩ := own_ofSort (n := lc.length) (cap := cap) (m := n) (os := os) h p1.length_eq
    rw [← hw2] at q1 q2 q3
    refine ⟨he, sortC lc, q1, p1, p2, fun q hq hne => q2 q hq fun e => hne (by rw [e]; rfl), q3, fun w0 g hb0 => ?_⟩
    rw [hw2]
    unfold sortWorldK Sort.putRowK
    exact grewOs (grewRow (grewAhead g _) (by omega)) _
end Go.Proofs.YtepfdekppnobaaaGreat
