import Derived.Test.YtlgbipfpnfphjaaGreatDoorGb11
import Derived.Test.YtlgbipfpnfphjaaGreatDoorGb12
import Derived.Test.YtlgbipfpnfphjaaGreatDoorGb5
import Derived.Test.YtlgbipfpnfphjaaGreatDoorGb13
import Derived.ScopeJumps
import Derived.Laws.EntriesVeiled
import Derived.Scope
import Derived.Test.YtlgbipfpnfphjaaGreatDoorGb2
/-! graph.route, kind, node. -/
namespace Go.Proofs.YtlgbipfpnfphjaaGreatDoor
set_option linter.unusedSimpArgs false
set_option linter.unusedVariables false
open Go.RowKit Ga
set_option maxRecDepth 100000

end Go.Proofs.YtlgbipfpnfphjaaGreatDoor

/-! graph.node. -/
namespace Go.Proofs.YtlgbipfpnfphjaaGreatDoor
set_option linter.unusedSimpArgs false
set_option linter.unusedVariables false
open Go.RowKit Ga
set_option maxRecDepth 100000

end Go.Proofs.YtlgbipfpnfphjaaGreatDoor

/-! The library's stable sort at nodes, up to 19 of them. -/
namespace Go.Proofs.YtlgbipfpnfphjaaGreatDoor
set_option linter.unusedSimpArgs false
set_option linter.unusedVariables false
open Go.RowKit Ga
set_option maxRecDepth 100000

def cmpId (x y : NdC) : Int := if x.id < y.id then -1 else if y.id < x.id then 1 else 0
theorem cmp_any (x y : NdC) (W : World) : Calls Tryz.prog 140 #[.agg #[.int .i64 x.id, .int .i64 x.kind, .slice x.af x.nf x.cf, .slice x.ap x.np x.cp, .int .i64 x.par, .int .i64 x.r0, .int .i64 x.r1, .int .i64 x.r2, .int .i64 x.r3, .int .i64 x.r4, .int .i64 x.r5, .int .i64 x.r6, .int .i64 x.r7], .agg #[.int .i64 y.id, .int .i64 y.kind, .slice y.af y.nf y.cf, .slice y.ap y.np y.cp, .int .i64 y.par, .int .i64 y.r0, .int .i64 y.r1, .int .i64 y.r2, .int .i64 y.r3, .int .i64 y.r4, .int .i64 y.r5, .int .i64 y.r6, .int .i64 y.r7]] W fun e w' => e = .returned (.int .i64 (cmpId x y)) ∧ ∃ q os', w' = Sort.grow (W.drewN q) os' := by
  obtain ⟨xi, xk, xaf, xnf, xcf, xap, xnp, xcp, xpar, x0, x1, x2, x3, x4, x5, x6, x7⟩ := x
  obtain ⟨yi, yk, yaf, ynf, ycf, yap, ynp, ycp, ypar, y0, y1, y2, y3, y4, y5, y6, y7⟩ := y
  unfold cmpId
  simp only
  by_cases h1 : xi < yi
  · rw [if_pos h1]
    go_enter Tryz.func140, Tryz.ntmps140
    go_wp2
    go_ret
    exact ⟨rfl, 0, _, by rw [Sort.alloc_eq_grow, Sort.alloc_eq_grow, Sort.grow_grow]; rfl⟩
  · rw [if_neg h1]
    by_cases h2 : yi < xi
    · rw [if_pos h2]
      go_enter Tryz.func140, Tryz.ntmps140
      go_wp2
      go_ret
      exact ⟨rfl, 0, _, by rw [Sort.alloc_eq_grow, Sort.alloc_eq_grow, Sort.grow_grow]; rfl⟩
    · rw [if_neg h2]
      go_enter Tryz.func140, Tryz.ntmps140
      go_wp2
      go_ret
      exact ⟨rfl, 0, _, by rw [Sort.alloc_eq_grow, Sort.alloc_eq_grow, Sort.grow_grow]; rfl⟩
def NodesOwn (base : Nat) (w : World) (v : Value) (lc : List NdC) : Prop := OwnAt base 49 13 encNd w v lc
theorem infoNode : (Tryz.prog.info? 49).map (fun i => (i.zero, i.size, i.bytes)) = some (some (.agg #[.int .i64 0, .int .i64 0, .slice none 0 0, .slice none 0 0, .int .i64 0, .int .i64 0, .int .i64 0, .int .i64 0, .int .i64 0, .int .i64 0, .int .i64 0, .int .i64 0, .int .i64 0]), 13, 136) := by kernel_rfl
theorem enters140 : ∀ args w, (callFunc 140 args).run Tryz.prog w = .ok (.enter 140 args) w := enters_of Tryz.func140 (by kernel_rfl) rfl

theorem flat_flatK (lc : List NdC) (j : Nat) (hj : j < lc.length * 13) : (lc.flatMap encNd)[j]? = some ((Sort.flatK encNd 13 lc.toArray)[j]!) := by
  have hi : j / 13 < lc.length := by omega
  rw [Sort.get_flatK encNd 13 lc.toArray j (by simpa using hj)]
  have e1 : lc.toArray[j / 13]! = lc[j / 13] := by rw [getElem!_pos lc.toArray (j / 13) (by simpa using hi)]; simp
  rw [e1]
  have hm : j % 13 < (encNd lc[j / 13]).length := by rw [encNd_len]; omega
  have h2 : (encNd lc[j / 13])[j % 13]? = some ((encNd lc[j / 13])[j % 13]!) := by rw [List.getElem?_eq_getElem hm, getElem!_pos (encNd lc[j / 13]) (j % 13) hm]
  have h3 := flat_get encNd_len lc (j / 13) lc[j / 13] (List.getElem?_eq_getElem hi) (j % 13) _ h2
  rw [show j / 13 * 13 + j % 13 = j by omega] at h3
  exact h3
theorem own_holdsK {base : Nat} {W : World} {b cap n : Nat} {lc : List NdC} (h : NodesOwn base W (.slice (some ⟨b, 0, none⟩) n cap) lc) : Sort.HoldsK encNd 13 W b 0 lc.toArray ∧ base ≤ b ∧ b < W.heap.size := by
  obtain ⟨h1, h2⟩ := h
  rcases h2 with ⟨h, _⟩ | ⟨g, cap', cur, hv, hb, hh, hc, hm, hs, ht⟩
  · cases h
  · cases hv
    refine ⟨fun j hj => ?_, hb, (Array.getElem?_eq_some_iff.1 hh).1⟩
    rw [Sort.size_flatK] at hj
    have hj' : j < lc.length * 13 := by simpa using hj
    rw [Nat.zero_add, cell_of_heap hh, frozen_of_heap hh]
    refine ⟨?_, rfl⟩
    have h3 := flat_flatK lc j hj'
    rw [← ht, List.getElem?_take, if_pos hj'] at h3
    simpa using h3
/-- .. and what the sort leaves -/
theorem own_ofSort {base : Nat} {W : World} {b cap n m : Nat} {lc lc' : List NdC} {os : Array Obj} (h : NodesOwn base W (.slice (some ⟨b, 0, none⟩) n cap) lc) (hl : lc'.length = lc.length) :
    NodesOwn base (Go.Proofs.sortWorldK encNd 13 W b 0 m lc'.toArray os) (.slice (some ⟨b, 0, none⟩) n cap) lc' ∧ (∀ q, q < W.heap.size → q ≠ b → (Go.Proofs.sortWorldK encNd 13 W b 0 m lc'.toArray os).heap[q]? = W.heap[q]?) ∧ W.heap.size ≤ (Go.Proofs.sortWorldK encNd 13 W b 0 m lc'.toArray os).heap.size := by
  obtain ⟨h1, h2⟩ := h
  rcases h2 with ⟨h, _⟩ | ⟨g, cap', cur, hv, hb, hh, hc, hm, hs, ht⟩
  · cases h
  · cases hv
    have hblk : b < W.heap.size := (Array.getElem?_eq_some_iff.1 hh).1
    have hat : ∀ q, q < W.heap.size → (Go.Proofs.sortWorldK encNd 13 W b 0 m lc'.toArray os).heap[q]? = (Sort.putRowK encNd 13 (Sort.ahead W m) b 0 lc'.toArray).heap[q]? := by
      intro q hq
      unfold sortWorldK Sort.grow
      simp only
      rw [Array.getElem?_append_left]
      show q < (Sort.putRow id _ _ _ _).heap.size
      rw [Sort.size_putRow]
      exact hq
    have hself : (Go.Proofs.sortWorldK encNd 13 W b 0 m lc'.toArray os).heap[b]? = some (.cells (Sort.putCells id 0 (Sort.flatK encNd 13 lc'.toArray) cur) 49) := by
      rw [hat b hblk]
      unfold Sort.putRowK Sort.putRow Sort.mapBlock
      simp only [Array.getElem?_modify, if_true]
      rw [show (Sort.ahead W m).heap = W.heap from rfl]
      have hh' : W.heap[b]? = some (.cells cur 49) := hh
      rw [hh']
      rfl
    have hps : (Sort.putCells id 0 (Sort.flatK encNd 13 lc'.toArray) cur).size = cur.size := by unfold Sort.putCells; rw [Array.size_mapIdx]
    refine ⟨⟨by rw [flat_length encNd_len], .inr ⟨b, cap, _, by rw [hl], hb, hself, by rw [hl]; exact hc, hm, by rw [hps]; exact hs, ?_⟩⟩, fun q hq hne => ?_, ?_⟩
    · refine List.ext_getElem? fun j => ?_
      by_cases hj : j < lc'.length * 13
      · rw [List.getElem?_take, if_pos hj, flat_flatK lc' j hj]
        have hjc : j < cur.size := by
          rw [hs]
          have : lc'.length * 13 ≤ cap * 13 := Nat.mul_le_mul_right 13 (by rw [hl]; exact hc)
          omega
        unfold Sort.putCells
        rw [Array.getElem?_toList, Array.getElem?_mapIdx, Array.getElem?_eq_getElem hjc]
        simp only [Option.map_some, Nat.zero_le, true_and, Nat.zero_add, Sort.size_flatK, Nat.sub_zero, id]
        rw [if_pos (by simpa using hj)]
      · rw [List.getElem?_take, if_neg hj, List.getElem?_eq_none (by rw [flat_length encNd_len]; omega)]
    · rw [hat q hq]
      unfold Sort.putRowK Sort.putRow Sort.mapBlock
      simp only [Array.getElem?_modify]
      rw [if_neg (fun e => hne e.symm)]
      rfl
    · unfold sortWorldK Sort.grow Sort.putRowK
      simp only [Array.size_append, Sort.size_putRow]
      exact Nat.le_add_right _ _

theorem swoId : Sort.SWO (ltOf cmpId) := by
  refine ⟨fun x => ?_, fun x y z h1 h2 => ?_, fun x y z h1 h2 => ?_⟩
  · unfold ltOf cmpId; simp
  · unfold ltOf cmpId at *
    simp only [decide_eq_true_eq] at *
    split at h1 <;> split at h2 <;> first | omega | (rw [if_pos (by omega)]; omega) | (split at h1 <;> split at h2 <;> omega)
  · unfold ltOf cmpId at *
    simp only [decide_eq_false_iff_not] at *
    split at h1 <;> split at h2 <;> first | omega | (rw [if_neg (by omega)]; split <;> omega)
def sortC (lc : List NdC) : List NdC := (Sort.insertionSort (ltOf cmpId) lc.toArray 0 lc.length).toList
theorem sortC_ok (lc : List NdC) : (sortC lc).Perm lc ∧ (sortC lc).Pairwise fun a b => a.id ≤ b.id := by
  have h := Sort.insertionSort_holds (lt := ltOf cmpId) swoId lc.toArray 0 lc.length (Nat.zero_le _) (by simp)
  obtain ⟨⟨h1, h2, h3⟩, h4⟩ := h
  have hsz : (Sort.insertionSort (ltOf cmpId) lc.toArray 0 lc.length).size = lc.length := by rw [h1]; simp
  unfold sortC
  generalize Sort.insertionSort (ltOf cmpId) lc.toArray 0 lc.length = d at *
  constructor
  · have e1 : d.extract 0 lc.length = d := by rw [← hsz]; simp
    have e2 : lc.toArray.extract 0 lc.length = lc.toArray := by
      simp
    rw [e1, e2] at h3
    exact h3
  · rw [List.pairwise_iff_getElem]
    intro i j hi hj hij
    have hi' : i < d.size := by simpa using hi
    have hj' : j < d.size := by simpa using hj
    have h5 := h4 i j (Nat.zero_le _) hij (by omega)
    rw [getElem!_pos d i hi', getElem!_pos d j hj'] at h5
    simp only [Array.getElem_toList]
    unfold ltOf cmpId at h5
    simp only [decide_eq_false_iff_not] at h5
    split at h5
    · omega
    · omega
def SortPost (base : Nat) (W : World) (v : Value) (lc : List NdC) (e : Ending) (w' : World) : Prop :=
  e = .returned (.tuple #[]) ∧ ∃ lc', NodesOwn base w' v lc' ∧ lc'.Perm lc ∧ (lc'.Pairwise fun a b => a.id ≤ b.id) ∧ (∀ q, q < W.heap.size → v.ownBlock ≠ some q → w'.heap[q]? = W.heap[q]?) ∧ W.heap.size ≤ w'.heap.size ∧ (∀ w0, Grew w0 W → w0.heap.size ≤ base → Grew w0 w')
theorem SortPost.none (base : Nat) (W : World) (v : Value) (h : NodesOwn base W v []) : SortPost base W v [] (.returned (.tuple #[])) W :=
  ⟨rfl, [], h, List.Perm.refl _, List.Pairwise.nil, fun _ _ _ => rfl, Nat.le_refl _, fun _ g _ => g⟩
set_option maxHeartbeats 2000000 in
theorem insNodes_any (base : Nat) (W : World) (v : Value) (lc : List NdC) (h : NodesOwn base W v lc) (hl : lc.length ≤ 1000) :
    Calls Tryz.prog 191 #[v, .int .i64 0, .int .i64 lc.length, .func (.func 140) #[] #[]] W (SortPost base W v lc) := by
  rcases h.form with ⟨rfl, hn⟩ | ⟨b, cap, rfl, hb, hc, hm⟩
  · subst hn
    have HS := Lib.hid (SortPost.none base W _ h)
    clear h
    show Calls Tryz.prog _ #[.slice none 0 0, .int .i64 0, .int .i64 0, .func (.func 140) #[] #[]] W _
    go_enter Tryz.func191, Tryz.ntmps191
    go_wp2
    go_loopg [8] 0 (fun gg s8 wr => s8 = .int .i64 1 ∧ wr = W)
    case atStart => exact ⟨rfl, rfl⟩
    case round =>
      obtain ⟨rfl, rfl⟩ := hrel
      go_wp2
      go_end0
      exact HS.out
  · obtain ⟨hh, hb1, hb2⟩ := own_holdsK h
    have hcon := AnyQ.insertionSortCmpFunc Tryz.insNode 13 Tryz.isAgg49 Tryz.sizeOf49 encNd encNd_len encNd_one cmpId 140 #[] b 0 cap 0 lc.length lc.toArray W enters140 (fun m os dk _ x y => cmp_any x y _) hh hb2 (Nat.zero_le _) (by simp) (by simp; omega)
    have hcon2 : Calls Tryz.prog 191 #[.slice (some ⟨b, 0, none⟩) lc.length cap, .int .i64 0, .int .i64 lc.length, .func (.func 140) #[] #[]] W _ := hcon
    refine hcon2.mono fun e w' ⟨he, n, os, hw⟩ => ?_
    obtain ⟨p1, p2⟩ := sortC_ok lc
    have hw2 : w' = sortWorldK encNd 13 W b 0 n (sortC lc).toArray os := hw
    obtain ⟨q1, q2, q3⟩ := own_ofSort (n := lc.length) (cap := cap) (m := n) (os := os) h p1.length_eq
    rw [← hw2] at q1 q2 q3
    refine ⟨he, sortC lc, q1, p1, p2, fun q hq hne => q2 q hq fun e => hne (by rw [e]; rfl), q3, fun w0 g hb0 => ?_⟩
    rw [hw2]
    unfold sortWorldK Sort.putRowK
    exact grewOs (grewRow (grewAhead g _) (by omega)) _
end Go.Proofs.YtlgbipfpnfphjaaGreatDoor

/-! The library's stable sort at nodes, up to 19 of them; graph.Norm. -/
namespace Go.Proofs.YtlgbipfpnfphjaaGreatDoor
set_option linter.unusedSimpArgs false
set_option linter.unusedVariables false
open Go.RowKit Ga
set_option maxRecDepth 100000

set_option maxHeartbeats 2000000 in
theorem stableNodes_any (base : Nat) (W : World) (v : Value) (lc : List NdC) (h : NodesOwn base W v lc) (hl : lc.length ≤ 19) :
    Calls Tryz.prog 170 #[v, .int .i64 lc.length, .func (.func 140) #[] #[]] W (SortPost base W v lc) := by
  have HI := Lib.hid (insNodes_any base W v lc h (by omega))
  obtain ⟨a, cap, rfl⟩ := (OwnAt.rows h encNd_len).len
  clear h
  have h19 : (lc.length : Int) ≤ 19 := by omega
  generalize lc.length = ln at *
  go_enter Tryz.func170, Tryz.ntmps170
  go_wp2
  go_loopg [7, 8] 0 (fun gg s7 s8 wr => s7 = .int .i64 0 ∧ s8 = .int .i64 20 ∧ wr = W)
  case atStart => exact ⟨rfl, rfl, rfl⟩
  case round =>
    obtain ⟨rfl, rfl, rfl⟩ := hrel
    go_wp2_with (go_at_call 191; refine HI.out.mono ?_; rintro e w1 ⟨rfl, hp⟩; (have HP := Lib.hid hp); clear hp)
    go_loopg [6] 0 (fun gg s6 wr => s6 = .int .i64 20 ∧ wr = w1)
    case atStart => exact ⟨rfl, rfl⟩
    case round =>
      obtain ⟨rfl, rfl⟩ := hrel
      go_wp2
      go_end0
      exact ⟨rfl, HP.out⟩
theorem sortNodes_any (base : Nat) (W : World) (v : Value) (lc : List NdC) (h : NodesOwn base W v lc) (hl : lc.length ≤ 19) :
    Calls Tryz.prog 139 #[v, .func (.func 140) #[] #[]] W (SortPost base W v lc) := by
  have HI := Lib.hid (stableNodes_any base W v lc h hl)
  have hm := (OwnAt.rows h encNd_len)
  obtain ⟨a, cap, rfl⟩ := (OwnAt.rows h encNd_len).len
  clear h hm
  go_enter Tryz.func139, Tryz.ntmps139
  go_wp2_with (go_at_call 170; refine HI.out.mono ?_; rintro e w1 ⟨rfl, hp⟩; (have HP := Lib.hid hp); clear hp)
  go_end0
  exact ⟨rfl, HP.out⟩
end Go.Proofs.YtlgbipfpnfphjaaGreatDoor

/-! graph.Norm. -/
namespace Go.Proofs.YtlgbipfpnfphjaaGreatDoor
set_option linter.unusedSimpArgs false
set_option linter.unusedVariables false
open Go.RowKit Ga
set_option maxRecDepth 100000

/-- two lists, side by side -/
def Rel {α β : Type} (R : α → β → Prop) : List α → List β → Prop
  | [], [] => True
  | a :: xs, b :: ys => R a b ∧ Rel R xs ys
  | _, _ => False
theorem Rel.len {α β : Type} {R : α → β → Prop} : ∀ {xs : List α} {ys : List β}, Rel R xs ys → xs.length = ys.length
  | [], [], _ => rfl
  | a :: xs, b :: ys, h => by rw [List.length_cons, List.length_cons, Rel.len h.2]
  | [], _ :: _, h => h.elim
  | _ :: _, [], h => h.elim
theorem Rel.get {α β : Type} {R : α → β → Prop} : ∀ {xs : List α} {ys : List β}, Rel R xs ys → ∀ (i : Nat) (a : α) (b : β), xs[i]? = some a → ys[i]? = some b → R a b
  | [], [], _, i, a, b, h1, _ => by simp at h1
  | a :: xs, b :: ys, h, 0, x, y, h1, h2 => by simp at h1 h2; subst h1 h2; exact h.1
  | a :: xs, b :: ys, h, i + 1, x, y, h1, h2 => Rel.get h.2 i x y (by simpa using h1) (by simpa using h2)
  | [], _ :: _, h, _, _, _, _, _ => h.elim
  | _ :: _, [], h, _, _, _, _, _ => h.elim
theorem Rel.snoc {α β : Type} {R : α → β → Prop} : ∀ {xs : List α} {ys : List β}, Rel R xs ys → ∀ {a : α} {b : β}, R a b → Rel R (xs ++ [a]) (ys ++ [b])
  | [], [], _, a, b, h => ⟨h, trivial⟩
  | a :: xs, b :: ys, h, x, y, h2 => ⟨h.1, Rel.snoc h.2 h2⟩
  | [], _ :: _, h, _, _, _ => h.elim
  | _ :: _, [], h, _, _, _ => h.elim
theorem Rel.mono {α β : Type} {R S : α → β → Prop} (hm : ∀ a b, R a b → S a b) : ∀ {xs : List α} {ys : List β}, Rel R xs ys → Rel S xs ys
  | [], [], _ => trivial
  | a :: xs, b :: ys, h => ⟨hm a b h.1, Rel.mono hm h.2⟩
  | [], _ :: _, h => h.elim
  | _ :: _, [], h => h.elim
theorem Rel.perm {α β : Type} {R : α → β → Prop} {xs' xs : List α} (hp : xs'.Perm xs) : ∀ {ys : List β}, Rel R xs ys → ∃ ys', Rel R xs' ys' ∧ ys'.Perm ys := by
  induction hp with
  | nil => intro ys h; cases ys with
    | nil => exact ⟨[], trivial, List.Perm.refl _⟩
    | cons => exact h.elim
  | cons x _ ih => intro ys h; cases ys with
    | nil => exact h.elim
    | cons b ys =>
      obtain ⟨ys', h1, h2⟩ := ih h.2
      exact ⟨b :: ys', ⟨h.1, h1⟩, h2.cons b⟩
  | swap x y t => intro ys h; cases ys with
    | nil => exact h.elim
    | cons b ys => cases ys with
      | nil => exact h.2.elim
      | cons c ys => exact ⟨c :: b :: ys, ⟨h.2.1, h.1, h.2.2⟩, List.Perm.swap ..⟩
  | trans _ _ ih1 ih2 =>
    intro ys h
    obtain ⟨b2, h1, h2⟩ := ih2 h
    obtain ⟨b1, h3, h4⟩ := ih1 h1
    exact ⟨b1, h3, h4.trans h2⟩
/-- the nodes behind the cells: in memory behind 'base' -/
def NodesIn (base : Nat) (w : World) (lc : List NdC) (l : List Gr.Nd) : Prop := Rel (fun c n => NodeIs w c n ∧ OwnsNd base w c n) lc l
theorem NodesIn.at {base : Nat} {w : World} {v : Value} {lc : List NdC} {l : List Gr.Nd} (h : NodesIn base w lc l) (ho : NodesOwn base w v lc) : NodesAt w v l :=
  ⟨lc, OwnAt.rows ho encNd_len, Rel.len h, fun i c n h1 h2 => (Rel.get h i c n h1 h2).1⟩
theorem OwnsNd.to2 {base : Nat} {w w' : World} {c : NdC} {n : Gr.Nd} (o : OwnsNd base w c n) (hb : ∀ (q : Nat) (cs : Array Value) (t : TypeId), w.heap[q]? = some (.cells cs t) → base ≤ q → t ≠ 49 → w'.heap[q]? = w.heap[q]?) : OwnsNd base w' c n := by
  refine ⟨OwnAt.same o.1 fun b h => ?_, OwnAt.same o.2 fun b h => ?_⟩
  · obtain ⟨h1, cs, h2⟩ := OwnAt.block o.1 h
    exact hb b cs _ h2 h1 (by decide)
  · obtain ⟨h1, cs, h2⟩ := OwnAt.block o.2 h
    exact hb b cs _ h2 h1 (by decide)
theorem NodesIn.keep {base : Nat} {w w' : World} {v : Value} {lc lv : List NdC} {l : List Gr.Nd} (h : NodesIn base w lc l) (ho : NodesOwn base w v lv) (hk : ∀ q, q < w.heap.size → v.ownBlock ≠ some q → w'.heap[q]? = w.heap[q]?) : NodesIn base w' lc l :=
  Rel.mono (fun c n ⟨h1, h2⟩ => by
    have h3 : OwnsNd base w' c n := h2.to2 fun q cs t hq hb hne => hk q (heap_lt hq) (OwnAt.other ho hq hne)
    exact ⟨h3.is h1, h3⟩) h
theorem NodesIn.grew {base : Nat} {w w' : World} {lc : List NdC} {l : List Gr.Nd} (h : NodesIn base w lc l) (g : Grew w w') : NodesIn base w' lc l :=
  Rel.mono (fun c n ⟨h1, h2⟩ => ⟨h1.grew g, h2.grew g⟩) h
theorem nd_at (W : World) (x : NdC) (t : TypeId) (b : Nat) {c : Array Value} (hc : c = (encNd x).toArray) (hb : b = W.heap.size) : ∀ j u, (([x] : List NdC).flatMap encNd)[j]? = some u → (W.alloc (.cells c t)).cell? ⟨b, j, none⟩ = some u := by
  subst hc
  intro j u hu
  rw [new_cells W _ t b hb j]
  simpa using hu
/-- the same nodes by their numbers, in memory of the call's own -/
def NormGives (l : List Gr.Nd) (w : World) (e : Ending) (w' : World) : Prop := ∃ v lc l', e = .returned v ∧ NodesOwn w.heap.size w' v lc ∧ NodesIn w.heap.size w' lc l' ∧ l'.Perm l ∧ (l'.Pairwise fun a b => a.id ≤ b.id) ∧ Grew w w'
theorem norm_made {w W w' : World} {v : Value} {lc : List NdC} {l : List Gr.Nd} {e : Ending} (h : SortPost w.heap.size W v lc e w') (hn : NodesIn w.heap.size W lc l) (ho : NodesOwn w.heap.size W v lc) (g : Grew w W) : NormGives l w (.returned v) w' := by
  obtain ⟨-, lc', h1, h2, h3, h4, h5, h6⟩ := h
  have hk := NodesIn.keep hn ho h4
  obtain ⟨l', h7, h8⟩ := Rel.perm h2 hk
  refine ⟨v, lc', l', rfl, h1, h7, h8, ?_, h6 w g (Nat.le_refl _)⟩
  rw [List.pairwise_iff_getElem] at h3 ⊢
  intro i j hi hj hij
  have hl := Rel.len h7
  have := h3 i j (by omega) (by omega) hij
  have e1 := (Rel.get h7 i _ _ (List.getElem?_eq_getElem (by omega)) (List.getElem?_eq_getElem hi)).1.id
  have e2 := (Rel.get h7 j _ _ (List.getElem?_eq_getElem (by omega)) (List.getElem?_eq_getElem hj)).1.id
  rw [e1, e2]
  exact this
theorem norm_round {w wr W4 W W' : World} {v v' : Value} {lc : List NdC} {c : NdC} {l : List Gr.Nd} {y : Gr.Nd} {base : Nat} (gw : Grew w wr) (ho : NodesOwn w.heap.size wr v lc) (hn : NodesIn w.heap.size wr lc l) (g1 : Grew wr W) (h9 : NodeIs W4 c y) (o9 : OwnsNd base W4 c y) (hb : w.heap.size ≤ base) (g2 : Grew W4 W)
    (hA : Appended w 49 13 encNd W v (lc ++ [c]) v' W') : Grew w W' ∧ NodesOwn w.heap.size W' v' (lc ++ [c]) ∧ NodesIn w.heap.size W' (lc ++ [c]) (l ++ [y]) := by
  obtain ⟨a1, a2, a3, a4, a5⟩ := hA
  have ho' : NodesOwn w.heap.size W v lc := OwnAt.grew ho g1
  have h5 : OwnsNd w.heap.size W' c y := ((o9.grew g2).low hb).to2 fun q cs t hq _ hne => a4 q (heap_lt hq) (OwnAt.other ho' hq hne)
  exact ⟨a1, a2, Rel.snoc ((hn.grew g1).keep ho' a4) ⟨h5.is h9, h5⟩⟩
set_option maxHeartbeats 8000000 in
theorem norm_any (v : Value) (l : List Gr.Nd) (w : World) (hv : NodesAt w v l) (hs : Small l) (hl : l.length ≤ 19) : Calls Tryz.prog 105 #[v] w (NormGives l w) := by
  have HV := Lib.hid hv
  have HS := Lib.hid hs
  obtain ⟨a, cap, rfl, hm, -⟩ := hv.openC
  clear hv hs
  go_enter Tryz.func105, Tryz.ntmps105
  go_wp2
  go_loopg [3, 8] l.length (fun gg s3 s8 wr => ∃ (k : Nat) (lc : List NdC) (vk : Value), k ≤ l.length ∧ l.length - k ≤ gg ∧ s8 = .int .i64 k ∧ vk = s3 ∧ Hid (Grew w wr) ∧ Hid (NodesOwn w.heap.size wr vk lc) ∧ Hid (NodesIn w.heap.size wr lc (l.take k)))
  case atStart => exact ⟨0, [], _, Nat.zero_le _, by omega, rfl, rfl, Lib.hid (by repeat (first | with_reducible exact Grew.refl _ | apply Grew.more | apply Grew.alloc | apply Grew.drew | apply Grew.drewN)), Lib.hid (OwnAt.nil _), Lib.hid trivial⟩
  case round =>
    obtain ⟨k, lc, vk, hk, hgg, rfl, rfl, HG, HO, HN⟩ := hrel
    by_cases hlt : k < l.length
    · obtain ⟨a', cap', e, -, hx⟩ := (HV.out.grew HG.out).openC
      cases e
      obtain ⟨b, off, c, rfl, hb, hn, c0, c1, c2, c3, c4, c5, c6, c7, c8, c9, c10, c11, c12⟩ := hx k hlt
      obtain ⟨s1, s2⟩ := HS.out _ (List.getElem_mem hlt)
      have htk : l.take (k + 1) = l.take k ++ [l[k]] := List.take_succ_eq_append_getElem hlt
      have HT := Lib.hid htk
      have hlc := Rel.len HN.out
      rw [List.length_take, Nat.min_eq_left hk] at hlc
      have HLC := Lib.hid hlc
      clear hx htk hlc
      generalize hy : l[k] = y at *
      have HNc := Lib.hid hn
      have HOW := Lib.hid fun W (g : Grew wr W) => own_any c y W (HNc.out.grew g) s1 s2
      obtain ⟨cid, kind, af, cf, ap, cp, par, r0, r1, r2, r3, r4, r5, r6, r7, rfl⟩ := HNc.out.lit
      simp only at c0 c1 c2 c3 c4 c5 c6 c7 c8 c9 c10 c11 c12
      clear hy hn
      go_wp2_with (first
        | (go_at_call 138; refine (HOW.out _ (by repeat (first | with_reducible exact Grew.refl _ | apply Grew.more | apply Grew.alloc | apply Grew.drew | apply Grew.drewN))).mono ?_; rintro e w1 ⟨c9, rfl, hn9, ho9, R4, n4, rfl⟩; obtain ⟨cid9, kind9, af9, cf9, ap9, cp9, par9, s0, s1, s2, s3, s4, s5, s6, s7, rfl⟩ := hn9.lit; (have HN9 := Lib.hid hn9); (have HO9 := Lib.hid ho9); clear hn9 ho9)
        | (at_builtin; refine wpList_ownK (w0 := w) rfl (.tmp 12) (.tmp 15) 68 _ _ _ _ [⟨cid9, kind9, af9, y.frm.length, cf9, ap9, y.prog.length, cp9, par9, s0, s1, s2, s3, s4, s5, s6, s7⟩] rfl Tryz.underlying68 infoNode rfl (by decide) encNd_len encNd_one rfl (OwnAt.grew HO.out (by repeat (first | with_reducible exact Grew.refl _ | apply Grew.more | apply Grew.alloc | apply Grew.drew | apply Grew.drewN))) (HG.out.trans (by repeat (first | with_reducible exact Grew.refl _ | apply Grew.more | apply Grew.alloc | apply Grew.drew | apply Grew.drewN))) rfl (nd_at _ _ _ _ rfl (by simp [go_sem])) (by rw [HLC.out]; simp; omega) (by decide) (by simp) ?_; intro v5 W5 hA; (have HA := Lib.hid hA); clear hA))
      have hr := norm_round HG.out HO.out HN.out (by repeat (first | with_reducible exact Grew.refl _ | apply Grew.more | apply Grew.alloc | apply Grew.drew | apply Grew.drewN)) HN9.out HO9.out (by have := HG.out.below.size; simp [World.size_alloc]; omega) (by repeat (first | with_reducible exact Grew.refl _ | apply Grew.more | apply Grew.alloc | apply Grew.drew | apply Grew.drewN)) HA.out
      rw [← HT.out] at hr
      obtain ⟨q1, q2, q3⟩ := hr
      have Q1 := Lib.hid q1
      have Q2 := Lib.hid q2
      have Q3 := Lib.hid q3
      clear q1 q2 q3
      go_roundg (l.length - (k + 1))
      case measure => omega
      case rel => exact ⟨k + 1, _, _, by omega, by omega, by go_num, rfl, Q1, Q2, Q3⟩
    · obtain rfl : k = l.length := by omega
      have hn := HN.out
      rw [List.take_length] at hn
      have hlc := Rel.len hn
      have HSN := Lib.hid (sortNodes_any w.heap.size wr vk lc HO.out (by omega))
      have HN2 := Lib.hid hn
      obtain ⟨a3, cap3, rfl⟩ := (OwnAt.rows HO.out encNd_len).len
      clear hn hlc
      go_wp2_with (go_at_call 139; refine HSN.out.mono ?_; rintro e w1 hp; (have he := hp.1); subst he; (have HP := Lib.hid hp); clear hp)
      go_ret
      exact norm_made HP.out HN2.out HO.out HG.out
end Go.Proofs.YtlgbipfpnfphjaaGreatDoor

/-! graph.sort: its two closures; the world of a round. -/
namespace Go.Proofs.YtlgbipfpnfphjaaGreatDoor
set_option linter.unusedSimpArgs false
set_option linter.unusedVariables false
open Go.RowKit Ga
set_option maxRecDepth 100000

end Go.Proofs.YtlgbipfpnfphjaaGreatDoor

/-! graph.sort. -/
namespace Go.Proofs.YtlgbipfpnfphjaaGreatDoor
set_option linter.unusedSimpArgs false
set_option linter.unusedVariables false
open Go.RowKit Ga
set_option maxRecDepth 100000

def frame76 (vn : Value) (B C : Nat) (u : Nat → Value) : Act := { tmps := #[vn, u 1, .slice none 0 0, .pointer (some ⟨B, 0, none⟩), .pointer (some ⟨C, 0, none⟩), u 5, u 6, u 7, u 8, u 9, u 10, u 11, u 12, u 13, u 14, u 15, u 16, u 17, u 18, u 19, u 20, u 21, u 22, u 23, u 24, u 25, u 26, u 27, u 28, u 29, u 30, u 31, u 32, u 33, u 34], defers := [] }
theorem arr35 (t : Array Value) (h : t.size = 35) : t = #[t.getD 0 undef, t.getD 1 undef, t.getD 2 undef, t.getD 3 undef, t.getD 4 undef, t.getD 5 undef, t.getD 6 undef, t.getD 7 undef, t.getD 8 undef, t.getD 9 undef, t.getD 10 undef, t.getD 11 undef, t.getD 12 undef, t.getD 13 undef, t.getD 14 undef, t.getD 15 undef, t.getD 16 undef, t.getD 17 undef, t.getD 18 undef, t.getD 19 undef, t.getD 20 undef, t.getD 21 undef, t.getD 22 undef, t.getD 23 undef, t.getD 24 undef, t.getD 25 undef, t.getD 26 undef, t.getD 27 undef, t.getD 28 undef, t.getD 29 undef, t.getD 30 undef, t.getD 31 undef, t.getD 32 undef, t.getD 33 undef, t.getD 34 undef] := by
  have e : t = (Array.range 35).map fun i => t.getD i undef := by
    refine Array.ext (by simp [h]) fun i h1 h2 => ?_
    simp only [Array.getElem_map, Array.getElem_range]
    rw [Array.getD_eq_getD_getElem?, Array.getElem?_eq_getElem h1]
    rfl
  have e2 : Array.range 35 = #[0, 1, 2, 3, 4, 5, 6, 7, 8, 9, 10, 11, 12, 13, 14, 15, 16, 17, 18, 19, 20, 21, 22, 23, 24, 25, 26, 27, 28, 29, 30, 31, 32, 33, 34] := by decide +kernel
  rw [e2] at e
  exact e.trans (by simp)
structure Frame76 (vn : Value) (B C : Nat) (a : Act) : Prop where
  n : a.tmps.size = 35
  d : a.defers = []
  v : a.tmps[0]? = some vn
  r : a.tmps[2]? = some (.slice none 0 0)
  b : a.tmps[3]? = some (.pointer (some ⟨B, 0, none⟩))
  c : a.tmps[4]? = some (.pointer (some ⟨C, 0, none⟩))
theorem Frame76.get {vn : Value} {B C : Nat} {a : Act} (h : Frame76 vn B C a) : ∃ u, a = frame76 vn B C u := by
  obtain ⟨t, d⟩ := a
  obtain ⟨h1, h2, h3, h4, h5, h6⟩ := h
  simp only at h1 h2 h3 h4 h5 h6
  refine ⟨fun i => t.getD i undef, ?_⟩
  have e := arr35 t h1
  have g : ∀ i v, t[i]? = some v → t.getD i undef = v := fun i v h => by rw [Array.getD_eq_getD_getElem?, h]; rfl
  rw [g 0 _ h3, g 2 _ h4, g 3 _ h5, g 4 _ h6] at e
  unfold frame76
  rw [← e, h2]
theorem infoInt1 : (Tryz.prog.info? 3).map (fun i => (i.zero, i.size, i.bytes)) = some (some (.int .i64 0), 1, 8) := by kernel_rfl
theorem encN_one (x : Int) : ∀ u ∈ encN x, u.oneCell' = true := by intro u hu; simp [encN] at hu; subst hu; rfl
theorem int_at (W : World) (x : Int) (t : TypeId) (b : Nat) {c : Array Value} (hc : c = #[.int .i64 x]) (hb : b = W.heap.size) : ∀ j u, (([x] : List Int).flatMap encN)[j]? = some u → (W.alloc (.cells c t)).cell? ⟨b, j, none⟩ = some u := by
  subst hc
  intro j u hu
  rw [new_cells W _ t b hb j]
  simpa [encN] using hu
end Go.Proofs.YtlgbipfpnfphjaaGreatDoor

/-! graph.Check tells what the document calls right. -/
namespace Go.Proofs.YtlgbipfpnfphjaaGreatDoor
set_option linter.unusedSimpArgs false
set_option linter.unusedVariables false
open Go.RowKit Ga
set_option maxRecDepth 100000

end Go.Proofs.YtlgbipfpnfphjaaGreatDoor

/-! forebayref08.Check, cut: the frame, the code from a region on. -/
namespace Go.Proofs.YtlgbipfpnfphjaaGreatDoor
set_option linter.unusedSimpArgs false
set_option linter.unusedVariables false
open Go.RowKit Ga
set_option maxRecDepth 100000

end Go.Proofs.YtlgbipfpnfphjaaGreatDoor

/-! forebayref08.Check, cut: the routes. -/
namespace Go.Proofs.YtlgbipfpnfphjaaGreatDoor
set_option linter.unusedSimpArgs false
set_option linter.unusedVariables false
open Go.RowKit Ga
set_option maxRecDepth 100000

theorem enc_route (c : NdC) (g : Nat) (h : g < 8) : (encNd c).toArray[5 + g]? = some (.int .i64 ([c.r0, c.r1, c.r2, c.r3, c.r4, c.r5, c.r6, c.r7] : List Int)[g]) := by
  rcases (show g = 0 ∨ g = 1 ∨ g = 2 ∨ g = 3 ∨ g = 4 ∨ g = 5 ∨ g = 6 ∨ g = 7 by omega) with rfl | rfl | rfl | rfl | rfl | rfl | rfl | rfl <;> rfl
end Go.Proofs.YtlgbipfpnfphjaaGreatDoor

/-! forebayref08.Check, cut: how many Froms; the program. -/
namespace Go.Proofs.YtlgbipfpnfphjaaGreatDoor
set_option linter.unusedSimpArgs false
set_option linter.unusedVariables false
open Go.RowKit Ga
set_option maxRecDepth 100000

end Go.Proofs.YtlgbipfpnfphjaaGreatDoor

/-! forebayref08.Check, cut: each From. -/
namespace Go.Proofs.YtlgbipfpnfphjaaGreatDoor
set_option linter.unusedSimpArgs false
set_option linter.unusedVariables false
open Go.RowKit Ga
set_option maxRecDepth 100000

end Go.Proofs.YtlgbipfpnfphjaaGreatDoor

/-! forebayref08.Check, cut: none above itself. -/
namespace Go.Proofs.YtlgbipfpnfphjaaGreatDoor
set_option linter.unusedSimpArgs false
set_option linter.unusedVariables false
open Go.RowKit Ga
set_option maxRecDepth 100000

end Go.Proofs.YtlgbipfpnfphjaaGreatDoor

/-! forebayref08.Check. -/
namespace Go.Proofs.YtlgbipfpnfphjaaGreatDoor
set_option linter.unusedSimpArgs false
set_option linter.unusedVariables false
open Go.RowKit Ga
set_option maxRecDepth 100000

end Go.Proofs.YtlgbipfpnfphjaaGreatDoor
