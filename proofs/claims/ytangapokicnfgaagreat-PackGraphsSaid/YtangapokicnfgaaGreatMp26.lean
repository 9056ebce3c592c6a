import Derived.Test.YtangapokicnfgaaGreatMp18
import Derived.Test.YtangapokicnfgaaGreatMp25
/-! Insertion sort, as the library does it: plain laws. -/
namespace Gr
set_option linter.unusedSimpArgs false
set_option linter.unusedVariables false
section
variable {α : Type} (key : α → Int)
/-- two that stand side by side change places -/
def swapAt (l : List α) (j : Nat) : List α := match l[j]?, l[j + 1]? with
  | some x, some y => (l.set j y).set (j + 1) x
  | _, _ => l
theorem swapAt_eq {l : List α} {j : Nat} (h : j + 1 < l.length) : swapAt l j = (l.set j (l[j + 1]'h)).set (j + 1) (l[j]'(by omega)) := by
  unfold swapAt
  rw [List.getElem?_eq_getElem (show j < l.length by omega), List.getElem?_eq_getElem h]
theorem swapAt_len (l : List α) (j : Nat) : (swapAt l j).length = l.length := by
  unfold swapAt
  split
  · rw [List.length_set, List.length_set]
  · rfl
theorem swapAt_perm : ∀ (l : List α) (j : Nat), (swapAt l j).Perm l
  | [], j => by unfold swapAt; simp
  | [x], 0 => by unfold swapAt; simp
  | x :: y :: l, 0 => by
    unfold swapAt
    simp
    exact List.Perm.swap ..
  | x :: l, j + 1 => by
    have h := swapAt_perm l j
    have e : swapAt (x :: l) (j + 1) = x :: swapAt l j := by
      unfold swapAt
      simp only [List.getElem?_cons_succ]
      cases l[j]? <;> cases l[j + 1]? <;> simp
    rw [e]
    exact h.cons x
theorem swapAt_get {l : List α} {j : Nat} (h : j + 1 < l.length) (a : Nat) (ha : a < l.length) : (swapAt l j)[a]'(by rw [swapAt_len]; exact ha) = if a = j then l[j + 1]'h else if a = j + 1 then l[j]'(by omega) else l[a] := by
  have e := swapAt_eq h
  have e2 : (swapAt l j)[a]? = some (if a = j then l[j + 1]'h else if a = j + 1 then l[j]'(by omega) else l[a]) := by
    rw [e, List.getElem?_set, List.length_set, List.getElem?_set]
    by_cases h1 : a = j + 1
    · subst h1
      rw [if_pos rfl, if_pos h, if_neg (by omega), if_pos rfl]
    · rw [if_neg (fun q => h1 q.symm)]
      by_cases h2 : a = j
      · subst h2
        rw [if_pos rfl, if_pos (by omega), if_pos rfl]
      · rw [if_neg (fun q => h2 q.symm), if_neg h2, if_neg h1, List.getElem?_eq_getElem ha]
  rw [List.getElem?_eq_getElem (by rw [swapAt_len]; exact ha)] at e2
  exact Option.some.inj e2
/-- the first n stand by their keys -/
def Upto (l : List α) (n : Nat) : Prop := ∀ (a b : Nat) (ha : a < l.length) (hb : b < l.length), a < b → b < n → key l[a] ≤ key l[b]
/-- while the one at j is let down: all up to i but it stand by their keys; it is less than those above -/
structure Down (l : List α) (i j : Nat) : Prop where
  ji : j ≤ i
  il : i < l.length
  so : ∀ (a b : Nat) (ha : a < l.length) (hb : b < l.length), a < b → b ≤ i → a ≠ j → b ≠ j → key l[a] ≤ key l[b]
  lt : ∀ (b : Nat) (hj : j < l.length) (hb : b < l.length), j < b → b ≤ i → key l[j] < key l[b]
variable {key}
theorem Down.start {l : List α} {i : Nat} (h : Upto key l i) (hi : i < l.length) : Down key l i i :=
  ⟨Nat.le_refl _, hi, fun a b ha hb hab hbi _ hbj => h a b ha hb hab (by omega), fun b _ hb h1 h2 => by omega⟩
theorem Down.stop {l : List α} {i j : Nat} (h : Down key l i j) (hs : j = 0 ∨ ∃ (h1 : j - 1 < l.length) (h2 : j < l.length), key l[j - 1] ≤ key l[j]) : Upto key l (i + 1) := by
  intro a b ha hb hab hbi
  have hjl : j < l.length := by have := h.ji; have := h.il; omega
  by_cases hbj : b = j
  · subst hbj
    rcases hs with rfl | ⟨h1, h2, h3⟩
    · omega
    · by_cases e : a = b - 1
      · subst e
        exact h3
      · exact Int.le_trans (h.so a (b - 1) ha h1 (by omega) (by omega) (by omega) (by omega)) h3
  · by_cases haj : a = j
    · subst haj
      exact Int.le_of_lt (h.lt b ha hb hab (by omega))
    · exact h.so a b ha hb hab (by omega) haj hbj
theorem Down.step {l : List α} {i j : Nat} (h : Down key l i (j + 1)) (h1 : j < l.length) (h2 : j + 1 < l.length) (hlt : key l[j + 1] < key l[j]) : Down key (swapAt l j) i j := by
  have hji := h.ji
  refine ⟨by omega, by rw [swapAt_len]; exact h.il, fun a b ha hb hab hbi haj hbj => ?_, fun b hj hb hab hbi => ?_⟩
  · rw [swapAt_len] at ha hb
    rw [swapAt_get h2 a ha, swapAt_get h2 b hb, if_neg haj, if_neg hbj]
    by_cases e1 : a = j + 1
    · rw [if_pos e1, if_neg (by omega)]
      exact h.so j b h1 hb (by omega) hbi (by omega) (by omega)
    · rw [if_neg e1]
      by_cases e2 : b = j + 1
      · rw [if_pos e2]
        exact h.so a j ha h1 (by omega) (by omega) e1 (by omega)
      · rw [if_neg e2]
        exact h.so a b ha hb hab hbi e1 e2
  · rw [swapAt_len] at hj hb
    rw [swapAt_get h2 j hj, swapAt_get h2 b hb, if_pos rfl, if_neg (by omega)]
    by_cases e2 : b = j + 1
    · rw [if_pos e2]
      exact hlt
    · rw [if_neg e2]
      exact h.lt b h2 hb (by omega) hbi
end
theorem Upto.sorted {l : List Nd} (h : Upto (·.id) l l.length) : l.Pairwise fun a b => a.id ≤ b.id :=
  List.pairwise_iff_getElem.2 fun i j hi hj hij => h i j hi hj hij hj
end Gr

/-! The library's stable sort at nodes, up to 19 of them. -/
namespace Go.Proofs.YtangapokicnfgaaGreat
set_option linter.unusedSimpArgs false
set_option linter.unusedVariables false
open Go.RowKit Ga
set_option maxRecDepth 100000

def cmpId (x y : NdC) : Int := if x.id < y.id then -1 else if y.id < x.id then 1 else 0
theorem cmp_any (x y : NdC) (W : World) : Calls Tryz.prog 115 #[.agg #[.int .i64 x.id, .int .i64 x.kind, .slice x.af x.nf x.cf, .slice x.ap x.np x.cp, .int .i64 x.par, .int .i64 x.r0, .int .i64 x.r1, .int .i64 x.r2, .int .i64 x.r3, .int .i64 x.r4, .int .i64 x.r5, .int .i64 x.r6, .int .i64 x.r7], .agg #[.int .i64 y.id, .int .i64 y.kind, .slice y.af y.nf y.cf, .slice y.ap y.np y.cp, .int .i64 y.par, .int .i64 y.r0, .int .i64 y.r1, .int .i64 y.r2, .int .i64 y.r3, .int .i64 y.r4, .int .i64 y.r5, .int .i64 y.r6, .int .i64 y.r7]] W fun e w' => e = .returned (.int .i64 (cmpId x y)) ∧ ∃ q os', w' = Sort.grow (W.drewN q) os' := by
  obtain ⟨xi, xk, xaf, xnf, xcf, xap, xnp, xcp, xpar, x0, x1, x2, x3, x4, x5, x6, x7⟩ := x
  obtain ⟨yi, yk, yaf, ynf, ycf, yap, ynp, ycp, ypar, y0, y1, y2, y3, y4, y5, y6, y7⟩ := y
  unfold cmpId
  simp only
  by_cases h1 : xi < yi
  · rw [if_pos h1]
    go_enter Tryz.func115, Tryz.ntmps115
    go_wp2
    go_ret
    exact ⟨rfl, 0, _, by rw [Sort.alloc_eq_grow, Sort.alloc_eq_grow, Sort.grow_grow]; rfl⟩
  · rw [if_neg h1]
    by_cases h2 : yi < xi
    · rw [if_pos h2]
      go_enter Tryz.func115, Tryz.ntmps115
      go_wp2
      go_ret
      exact ⟨rfl, 0, _, by rw [Sort.alloc_eq_grow, Sort.alloc_eq_grow, Sort.grow_grow]; rfl⟩
    · rw [if_neg h2]
      go_enter Tryz.func115, Tryz.ntmps115
      go_wp2
      go_ret
      exact ⟨rfl, 0, _, by rw [Sort.alloc_eq_grow, Sort.alloc_eq_grow, Sort.grow_grow]; rfl⟩
def NodesOwn (base : Nat) (w : World) (v : Value) (lc : List NdC) : Prop := OwnAt base 45 13 encNd w v lc
theorem infoNode : (Tryz.prog.info? 45).map (fun i => (i.zero, i.size, i.bytes)) = some (some (.agg #[.int .i64 0, .int .i64 0, .slice none 0 0, .slice none 0 0, .int .i64 0, .int .i64 0, .int .i64 0, .int .i64 0, .int .i64 0, .int .i64 0, .int .i64 0, .int .i64 0, .int .i64 0]), 13, 136) := by kernel_rfl
theorem enters115 : ∀ args w, (callFunc 115 args).run Tryz.prog w = .ok (.enter 115 args) w := enters_of Tryz.func115 (by kernel_rfl) rfl

theorem flat_flatK (lc : List NdC) (j : Nat) (hj : j < lc.length * 13) : (lc.flatMap encNd)[j]? = some ((Sort.flatK encNd 13 lc.toArray)[j]!) := by
  have hi : j / 13 < lc.length := by omega
  rw [Sort.get_flatK encNd 13 lc.toArray j (by simpa using hj)]
  have e1 : lc.toArray[j / 13]! = lc[j / 13] := by rw [getElem!_pos lc.toArray (j / 13) (by simpa using hi)]; simp
  rw [e1]
  have hm : j % 13 < (encNd lc[j / 13]).length := by rw [encNd_len]; omega
  have h2 : (encNd lc[j / 13])[j % 13]? = some ((encNd lc[j / 13])[j % 13]!) := by rw [List.getElem?_eq_getElem hm, getElem!_pos (encNd lc[j / 13]) (j % 13) hm]
  have h3 := flat_get encNd_len lc (j / 13) lc[j / 13] (List.getElem?_eq_getElem hi) (j % 13) _ h2
  rw [show j / 13 * 13 + j % 13 = j by omega] at h3
  exact h3
theorem own_holdsK {base : Nat} {W : World} {b cap n : Nat} {lc : List NdC} (h : NodesOwn base W (.slice (some ⟨b, 0, none⟩) n cap) lc) : Sort.HoldsK encNd 13 W b 0 lc.toArray ∧ base ≤ b ∧ b < W.heap.size := by
  obtain ⟨h1, h2⟩ := h
  rcases h2 with ⟨h, _⟩ | ⟨g, cap', cur, hv, hb, hh, hc, hm, hs, ht⟩
  · cases h
  · cases hv
    refine ⟨fun j hj => ?_, hb, (Array.getElem?_eq_some_iff.1 hh).1⟩
    rw [Sort.size_flatK] at hj
    have hj' : j < lc.length * 13 := by simpa using hj
    rw [Nat.zero_add, cell_of_heap hh, frozen_of_heap hh]
    refine ⟨?_, rfl⟩
    have h3 := flat_flatK lc j hj'
    rw [← ht, List.getElem?_take, if_pos hj'] at h3
    simpa using h3
/-- .. and what the sort leaves -/
theorem own_ofSort {base : Nat} {W : World} {b cap n m : Nat} {lc lc' : List NdC} {os : Array Obj} (h : NodesOwn base W (.slice (some ⟨b, 0, none⟩) n cap) lc) (hl : lc'.length = lc.length) :
    NodesOwn base (Go.Proofs.sortWorldK encNd 13 W b 0 m lc'.toArray os) (.slice (some ⟨b, 0, none⟩) n cap) lc' ∧ (∀ q, q < W.heap.size → q ≠ b → (Go.Proofs.sortWorldK encNd 13 W b 0 m lc'.toArray os).heap[q]? = W.heap[q]?) ∧ W.heap.size ≤ (Go.Proofs.sortWorldK encNd 13 W b 0 m lc'.toArray os).heap.size := by
  obtain ⟨h1, h2⟩ := h
  rcases h2 with ⟨h, _⟩ | ⟨g, cap', cur, hv, hb, hh, hc, hm, hs, ht⟩
  · cases h
  · cases hv
    have hblk : b < W.heap.size := (Array.getElem?_eq_some_iff.1 hh).1
    have hat : ∀ q, q < W.heap.size → (Go.Proofs.sortWorldK encNd 13 W b 0 m lc'.toArray os).heap[q]? = (Sort.putRowK encNd 13 (Sort.ahead W m) b 0 lc'.toArray).heap[q]? := by
      intro q hq
      unfold sortWorldK Sort.grow
      simp only
      rw [Array.getElem?_append_left]
      show q < (Sort.putRow id _ _ _ _).heap.size
      rw [Sort.size_putRow]
      exact hq
    have hself : (Go.Proofs.sortWorldK encNd 13 W b 0 m lc'.toArray os).heap[b]? = some (.cells (Sort.putCells id 0 (Sort.flatK encNd 13 lc'.toArray) cur) 45) := by
      rw [hat b hblk]
      unfold Sort.putRowK Sort.putRow Sort.mapBlock
      simp only [Array.getElem?_modify, if_true]
      rw [show (Sort.ahead W m).heap = W.heap from rfl]
      have hh' : W.heap[b]? = some (.cells cur 45) := hh
      rw [hh']
      rfl
    have hps : (Sort.putCells id 0 (Sort.flatK encNd 13 lc'.toArray) cur).size = cur.size := by unfold Sort.putCells; rw [Array.size_mapIdx]
    refine ⟨⟨by rw [flat_length encNd_len], .inr ⟨b, cap, _, by rw [hl], hb, hself, by rw [hl]; exact hc, hm, by rw [hps]; exact hs, ?_⟩⟩, fun q hq hne => ?_, ?_⟩
    · refine List.ext_getElem? fun j => ?_
      by_cases hj : j < lc'.length * 13
      · rw [List.getElem?_take, if_pos hj, flat_flatK lc' j hj]
        have hjc : j < cur.size := by
          rw [hs]
          have : lc'.length * 13 ≤ cap * 13 := Nat.mul_le_mul_right 13 (by rw [hl]; exact hc)
          omega
        unfold Sort.putCells
        rw [Array.getElem?_toList, Array.getElem?_mapIdx, Array.getElem?_eq_getElem hjc]
        simp only [Option.map_some, Nat.zero_le, true_and, Nat.zero_add, Sort.size_flatK, Nat.sub_zero, id]
        rw [if_pos (by simpa using hj)]
      · rw [List.getElem?_take, if_neg hj, List.getElem?_eq_none (by rw [flat_length encNd_len]; omega)]
    · rw [hat q hq]
      unfold Sort.putRowK Sort.putRow Sort.mapBlock
      simp only [Array.getElem?_modify]
      rw [if_neg (fun e => hne e.symm)]
      rfl
    · unfold sortWorldK Sort.grow Sort.putRowK
      simp only [Array.size_append, Sort.size_putRow]
      exact Nat.le_add_right _ _

theorem swoId : Sort.SWO (ltOf cmpId) := by
  refine ⟨fun x => ?_, fun x y z h1 h2 => ?_, fun x y z h1 h2 => ?_⟩
  · unfold ltOf cmpId; simp
  · unfold ltOf cmpId at *
    simp only [decide_eq_true_eq] at *
    split at h1 <;> split at h2 <;> first | omega | (rw [if_pos (by omega)]; omega) | (split at h1 <;> split at h2 <;> omega)
  · unfold ltOf cmpId at *
    simp only [decide_eq_false_iff_not] at *
    split at h1 <;> split at h2 <;> first | omega | (rw [if_neg (by omega)]; split <;> omega)
def sortC (lc : List NdC) : List NdC := (Sort.insertionSort (ltOf cmpId) lc.toArray 0 lc.length).toList
theorem sortC_ok (lc : List NdC) : (sortC lc).Perm lc ∧ (sortC lc).Pairwise fun a b => a.id ≤ b.id := by
  have h := Sort.insertionSort_holds (lt := ltOf cmpId) swoId lc.toArray 0 lc.length (Nat.zero_le _) (by simp)
  obtain ⟨⟨h1, h2, h3⟩, h4⟩ := h
  have hsz : (Sort.insertionSort (ltOf cmpId) lc.toArray 0 lc.length).size = lc.length := by rw [h1]; simp
  unfold sortC
  generalize Sort.insertionSort (ltOf cmpId) lc.toArray 0 lc.length = d at *
  constructor
  · have e1 : d.extract 0 lc.length = d := by rw [← hsz]; simp
    have e2 : lc.toArray.extract 0 lc.length = lc.toArray := by
      simp
    rw [e1, e2] at h3
    exact h3
  · rw [List.pairwise_iff_getElem]
    intro i j hi hj hij
    have hi' : i < d.size := by simpa using hi
    have hj' : j < d.size := by simpa using hj
    have h5 := h4 i j (Nat.zero_le _) hij (by omega)
    rw [getElem!_pos d i hi', getElem!_pos d j hj'] at h5
    simp only [Array.getElem_toList]
    unfold ltOf cmpId at h5
    simp only [decide_eq_false_iff_not] at h5
    split at h5
    · omega
    · omega
def SortPost (base : Nat) (W : World) (v : Value) (lc : List NdC) (e : Ending) (w' : World) : Prop :=
  e = .returned (.tuple #[]) ∧ ∃ lc', NodesOwn base w' v lc' ∧ lc'.Perm lc ∧ (lc'.Pairwise fun a b => a.id ≤ b.id) ∧ (∀ q, q < W.heap.size → v.ownBlock ≠ some q → w'.heap[q]? = W.heap[q]?) ∧ W.heap.size ≤ w'.heap.size ∧ (∀ w0, Grew w0 W → w0.heap.size ≤ base → Grew w0 w')
theorem SortPost.none (base : Nat) (W : World) (v : Value) (h : NodesOwn base W v []) : SortPost base W v [] (.returned (.tuple #[])) W :=
  ⟨rfl, [], h, List.Perm.refl _, List.Pairwise.nil, fun _ _ _ => rfl, Nat.le_refl _, fun _ g _ => g⟩
set_option maxHeartbeats 2000000 in
theorem insNodes_any (base : Nat) (W : World) (v : Value) (lc : List NdC) (h : NodesOwn base W v lc) (hl : lc.length ≤ 1000) :
    Calls Tryz.prog 152 #[v, .int .i64 0, .int .i64 lc.length, .func (.func 115) #[] #[]] W (SortPost base W v lc) := by
  rcases h.form with ⟨rfl, hn⟩ | ⟨b, cap, rfl, hb, hc, hm⟩
  · subst hn
    have HS := Lib.hid (SortPost.none base W _ h)
    clear h
    show Calls Tryz.prog _ #[.slice none 0 0, .int .i64 0, .int .i64 0, .func (.func 115) #[] #[]] W _
    go_enter Tryz.func152, Tryz.ntmps152
    go_wp2
    go_loopg [8] 0 (fun gg s8 wr => s8 = .int .i64 1 ∧ wr = W)
    case atStart => exact ⟨rfl, rfl⟩
    case round =>
      obtain ⟨rfl, rfl⟩ := hrel
      go_wp2
      go_end0
      exact HS.out
  · obtain ⟨hh, hb1, hb2⟩ := own_holdsK h
    have hcon := AnyQ.insertionSortCmpFunc Tryz.insNode 13 Tryz.isAgg45 Tryz.sizeOf45 encNd encNd_len encNd_one cmpId 115 #[] b 0 cap 0 lc.length lc.toArray W enters115 (fun m os dk _ x y => cmp_any x y _) hh hb2 (Nat.zero_le _) (by simp) (by simp; omega)
    have hcon2 : Calls Tryz.prog 152 #[.slice (some ⟨b, 0, none⟩) lc.length cap, .int .i64 0, .int .i64 lc.length, .func (.func 115) #[] #[]] W _ := hcon
    refine hcon2.mono fun e w' ⟨he, n, os, hw⟩ => ?_
    obtain ⟨p1, p2⟩ := sortC_ok lc
    have hw2 : w' = sortWorldK encNd 13 W b 0 n (sortC lc).toArray os := hw
    obtain ⟨q1, q2, q3⟩ := own_ofSort (n := lc.length) (cap := cap) (m := n) (os := os) h p1.length_eq
    rw [← hw2] at q1 q2 q3
    refine ⟨he, sortC lc, q1, p1, p2, fun q hq hne => q2 q hq fun e => hne (by rw [e]; rfl), q3, fun w0 g hb0 => ?_⟩
    rw [hw2]
    unfold sortWorldK Sort.putRowK
    exact grewOs (grewRow (grewAhead g _) (by omega)) _
end Go.Proofs.YtangapokicnfgaaGreat

/-! The library's stable sort at nodes, up to 19 of them; graph.Norm. -/
namespace Go.Proofs.YtangapokicnfgaaGreat
set_option linter.unusedSimpArgs false
set_option linter.unusedVariables false
open Go.RowKit Ga
set_option maxRecDepth 100000

set_option maxHeartbeats 2000000 in
theorem stableNodes_any (base : Nat) (W : World) (v : Value) (lc : List NdC) (h : NodesOwn base W v lc) (hl : lc.length ≤ 19) :
    Calls Tryz.prog 131 #[v, .int .i64 lc.length, .func (.func 115) #[] #[]] W (SortPost base W v lc) := by
  have HI := Lib.hid (insNodes_any base W v lc h (by omega))
  obtain ⟨a, cap, rfl⟩ := (OwnAt.rows h encNd_len).len
  clear h
  have h19 : (lc.length : Int) ≤ 19 := by omega
  generalize lc.length = ln at *
  go_enter Tryz.func131, Tryz.ntmps131
  go_wp2
  go_loopg [7, 8] 0 (fun gg s7 s8 wr => s7 = .int .i64 0 ∧ s8 = .int .i64 20 ∧ wr = W)
  case atStart => exact ⟨rfl, rfl, rfl⟩
  case round =>
    obtain ⟨rfl, rfl, rfl⟩ := hrel
    go_wp2_with (go_at_call 152; refine HI.out.mono ?_; rintro e w1 ⟨rfl, hp⟩; (have HP := Lib.hid hp); clear hp)
    go_loopg [6] 0 (fun gg s6 wr => s6 = .int .i64 20 ∧ wr = w1)
    case atStart => exact ⟨rfl, rfl⟩
    case round =>
      obtain ⟨rfl, rfl⟩ := hrel
      go_wp2
      go_end0
      exact ⟨rfl, HP.out⟩
theorem sortNodes_any (base : Nat) (W : World) (v : Value) (lc : List NdC) (h : NodesOwn base W v lc) (hl : lc.length ≤ 19) :
    Calls Tryz.prog 114 #[v, .func (.func 115) #[] #[]] W (SortPost base W v lc) := by
  have HI := Lib.hid (stableNodes_any base W v lc h hl)
  have hm := (OwnAt.rows h encNd_len)
  obtain ⟨a, cap, rfl⟩ := (OwnAt.rows h encNd_len).len
  clear h hm
  go_enter Tryz.func114, Tryz.ntmps114
  go_wp2_with (go_at_call 131; refine HI.out.mono ?_; rintro e w1 ⟨rfl, hp⟩; (have HP := Lib.hid hp); clear hp)
  go_end0
  exact ⟨rfl, HP.out⟩
end Go.Proofs.YtangapokicnfgaaGreat
