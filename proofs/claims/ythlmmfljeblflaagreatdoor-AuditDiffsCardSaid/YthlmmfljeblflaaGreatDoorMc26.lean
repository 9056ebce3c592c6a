import Derived.Test.YthlmmfljeblflaaGreatDoorMc25
import Derived.Test.YthlmmfljeblflaaGreatDoorMc6
import Derived.Test.YthlmmfljeblflaaGreatDoorMc13
import Derived.Deep.RegionHeld3
import Derived.Test.YthlmmfljeblflaaGreatDoorMc5
import Derived.ScopeJumps
import Derived.Laws.EntriesVeiled
import Derived.Scope
import Derived.Test.YthlmmfljeblflaaGreatDoorMc10
import Derived.Test.YthlmmfljeblflaaGreatDoorMc7
import Derived.Deep.LoopGhost
import Derived.Maps.RangeWalk
import Derived.Test.YthlmmfljeblflaaGreatDoorMc9
import Derived.Deep.QuietTactic
import Derived.BigQuiet
/-! The library's stable sort at nodes, up to 19 of them. -/
namespace Go.Proofs.YthlmmfljeblflaaGreatDoor
set_option linter.unusedSimpArgs false
set_option linter.unusedVariables false
open Go.RowKit Ga
set_option maxRecDepth 100000

def cmpId (x y : NdC) : Int := if x.id < y.id then -1 else if y.id < x.id then 1 else 0
theorem cmp_any (x y : NdC) (W : World) : Calls Tryz.prog 67 #[.agg #[.int .i64 x.id, .int .i64 x.kind, .slice x.af x.nf x.cf, .slice x.ap x.np x.cp, .int .i64 x.par, .int .i64 x.r0, .int .i64 x.r1, .int .i64 x.r2, .int .i64 x.r3, .int .i64 x.r4, .int .i64 x.r5, .int .i64 x.r6, .int .i64 x.r7], .agg #[.int .i64 y.id, .int .i64 y.kind, .slice y.af y.nf y.cf, .slice y.ap y.np y.cp, .int .i64 y.par, .int .i64 y.r0, .int .i64 y.r1, .int .i64 y.r2, .int .i64 y.r3, .int .i64 y.r4, .int .i64 y.r5, .int .i64 y.r6, .int .i64 y.r7]] W fun e w' => e = .returned (.int .i64 (cmpId x y)) ∧ ∃ q os', w' = Sort.grow (W.drewN q) os' := by
  obtain ⟨xi, xk, xaf, xnf, xcf, xap, xnp, xcp, xpar, x0, x1, x2, x3, x4, x5, x6, x7⟩ := x
  obtain ⟨yi, yk, yaf, ynf, ycf, yap, ynp, ycp, ypar, y0, y1, y2, y3, y4, y5, y6, y7⟩ := y
  unfold cmpId
  simp only
  by_cases h1 : xi < yi
  · rw [if_pos h1]
    go_enter Tryz.func67, Tryz.ntmps67
    go_wp2
    go_ret
    exact ⟨rfl, 0, _, by rw [Sort.alloc_eq_grow, Sort.alloc_eq_grow, Sort.grow_grow]; rfl⟩
  · rw [if_neg h1]
    by_cases h2 : yi < xi
    · rw [if_pos h2]
      go_enter Tryz.func67, Tryz.ntmps67
      go_wp2
      go_ret
      exact ⟨rfl, 0, _, by rw [Sort.alloc_eq_grow, Sort.alloc_eq_grow, Sort.grow_grow]; rfl⟩
    · rw [if_neg h2]
      go_enter Tryz.func67, Tryz.ntmps67
      go_wp2
      go_ret
      exact ⟨rfl, 0, _, by rw [Sort.alloc_eq_grow, Sort.alloc_eq_grow, Sort.grow_grow]; rfl⟩
def NodesOwn (base : Nat) (w : World) (v : Value) (lc : List NdC) : Prop := OwnAt base 41 13 encNd w v lc
theorem infoNode : (Tryz.prog.info? 41).map (fun i => (i.zero, i.size, i.bytes)) = some (some (.agg #[.int .i64 0, .int .i64 0, .slice none 0 0, .slice none 0 0, .int .i64 0, .int .i64 0, .int .i64 0, .int .i64 0, .int .i64 0, .int .i64 0, .int .i64 0, .int .i64 0, .int .i64 0]), 13, 136) := by kernel_rfl
theorem enters67 : ∀ args w, (callFunc 67 args).run Tryz.prog w = .ok (.enter 67 args) w := enters_of Tryz.func67 (by kernel_rfl) rfl

theorem flat_flatK (lc : List NdC) (j : Nat) (hj : j < lc.length * 13) : (lc.flatMap encNd)[j]? = some ((Sort.flatK encNd 13 lc.toArray)[j]!) := by
  have hi : j / 13 < lc.length := by omega
  rw [Sort.get_flatK encNd 13 lc.toArray j (by simpa using hj)]
  have e1 : lc.toArray[j / 13]! = lc[j / 13] := by rw [getElem!_pos lc.toArray (j / 13) (by simpa using hi)]; simp
  rw [e1]
  have hm : j % 13 < (encNd lc[j / 13]).length := by rw [encNd_len]; omega
  have h2 : (encNd lc[j / 13])[j % 13]? = some ((encNd lc[j / 13])[j % 13]!) := by rw [List.getElem?_eq_getElem hm, getElem!_pos (encNd lc[j / 13]) (j % 13) hm]
  have h3 := flat_get encNd_len lc (j / 13) lc[j / 13] (List.getElem?_eq_getElem hi) (j % 13) _ h2
  rw [show j / 13 * 13 + j % 13 = j by omega] at h3
  exact h3
theorem own_holdsK {base : Nat} {W : World} {b cap n : Nat} {lc : List NdC} (h : NodesOwn base W (.slice (some ⟨b, 0, none⟩) n cap) lc) : Sort.HoldsK encNd 13 W b 0 lc.toArray ∧ base ≤ b ∧ b < W.heap.size := by
  obtain ⟨h1, h2⟩ := h
  rcases h2 with ⟨h, _⟩ | ⟨g, cap', cur, hv, hb, hh, hc, hm, hs, ht⟩
  · cases h
  · cases hv
    refine ⟨fun j hj => ?_, hb, (Array.getElem?_eq_some_iff.1 hh).1⟩
    rw [Sort.size_flatK] at hj
    have hj' : j < lc.length * 13 := by simpa using hj
    rw [Nat.zero_add, cell_of_heap hh, frozen_of_heap hh]
    refine ⟨?_, rfl⟩
    have h3 := flat_flatK lc j hj'
    rw [← ht, List.getElem?_take, if_pos hj'] at h3
    simpa using h3
/-- .. and what the sort leaves -/
theorem own_ofSort {base : Nat} {W : World} {b cap n m : Nat} {lc lc' : List NdC} {os : Array Obj} (h : NodesOwn base W (.slice (some ⟨b, 0, none⟩) n cap) lc) (hl : lc'.length = lc.length) :
    NodesOwn base (Go.Proofs.sortWorldK encNd 13 W b 0 m lc'.toArray os) (.slice (some ⟨b, 0, none⟩) n cap) lc' ∧ (∀ q, q < W.heap.size → q ≠ b → (Go.Proofs.sortWorldK encNd 13 W b 0 m lc'.toArray os).heap[q]? = W.heap[q]?) ∧ W.heap.size ≤ (Go.Proofs.sortWorldK encNd 13 W b 0 m lc'.toArray os).heap.size := by
  obtain ⟨h1, h2⟩ := h
  rcases h2 with ⟨h, _⟩ | ⟨g, cap', cur, hv, hb, hh, hc, hm, hs, ht⟩
  · cases h
  · cases hv
    have hblk : b < W.heap.size := (Array.getElem?_eq_some_iff.1 hh).1
    have hat : ∀ q, q < W.heap.size → (Go.Proofs.sortWorldK encNd 13 W b 0 m lc'.toArray os).heap[q]? = (Sort.putRowK encNd 13 (Sort.ahead W m) b 0 lc'.toArray).heap[q]? := by
      intro q hq
      unfold sortWorldK Sort.grow
      simp only
      rw [Array.getElem?_append_left]
      show q < (Sort.putRow id _ _ _ _).heap.size
      rw [Sort.size_putRow]
      exact hq
    have hself : (Go.Proofs.sortWorldK encNd 13 W b 0 m lc'.toArray os).heap[b]? = some (.cells (Sort.putCells id 0 (Sort.flatK encNd 13 lc'.toArray) cur) 41) := by
      rw [hat b hblk]
      unfold Sort.putRowK Sort.putRow Sort.mapBlock
      simp only [Array.getElem?_modify, if_true]
      rw [show (Sort.ahead W m).heap = W.heap from rfl]
      have hh' : W.heap[b]? = some (.cells cur 41) := hh
      rw [hh']
      rfl
    have hps : (Sort.putCells id 0 (Sort.flatK encNd 13 lc'.toArray) cur).size = cur.size := by unfold Sort.putCells; rw [Array.size_mapIdx]
    refine ⟨⟨by rw [flat_length encNd_len], .inr ⟨b, cap, _, by rw [hl], hb, hself, by rw [hl]; exact hc, hm, by rw [hps]; exact hs, ?_⟩⟩, fun q hq hne => ?_, ?_⟩
    · refine List.ext_getElem? fun j => ?_
      by_cases hj : j < lc'.length * 13
      · rw [List.getElem?_take, if_pos hj, flat_flatK lc' j hj]
        have hjc : j < cur.size := by
          rw [hs]
          have : lc'.length * 13 ≤ cap * 13 := Nat.mul_le_mul_right 13 (by rw [hl]; exact hc)
          omega
        unfold Sort.putCells
        rw [Array.getElem?_toList, Array.getElem?_mapIdx, Array.getElem?_eq_getElem hjc]
        simp only [Option.map_some, Nat.zero_le, true_and, Nat.zero_add, Sort.size_flatK, Nat.sub_zero, id]
        rw [if_pos (by simpa using hj)]
      · rw [List.getElem?_take, if_neg hj, List.getElem?_eq_none (by rw [flat_length encNd_len]; omega)]
    · rw [hat q hq]
      unfold Sort.putRowK Sort.putRow Sort.mapBlock
      simp only [Array.getElem?_modify]
      rw [if_neg (fun e => hne e.symm)]
      rfl
    · unfold sortWorldK Sort.grow Sort.putRowK
      simp only [Array.size_append, Sort.size_putRow]
      exact Nat.le_add_right _ _

theorem swoId : Sort.SWO (ltOf cmpId) := by
  refine ⟨fun x => ?_, fun x y z h1 h2 => ?_, fun x y z h1 h2 => ?_⟩
  · unfold ltOf cmpId; simp
  · unfold ltOf cmpId at *
    simp only [decide_eq_true_eq] at *
    split at h1 <;> split at h2 <;> first | omega | (rw [if_pos (by omega)]; omega) | (split at h1 <;> split at h2 <;> omega)
  · unfold ltOf cmpId at *
    simp only [decide_eq_false_iff_not] at *
    split at h1 <;> split at h2 <;> first | omega | (rw [if_neg (by omega)]; split <;> omega)
def sortC (lc : List NdC) : List NdC := (Sort.insertionSort (ltOf cmpId) lc.toArray 0 lc.length).toList
theorem sortC_ok (lc : List NdC) : (sortC lc).Perm lc ∧ (sortC lc).Pairwise fun a b => a.id ≤ b.id := by
  have h := Sort.insertionSort_holds (lt := ltOf cmpId) swoId lc.toArray 0 lc.length (Nat.zero_le _) (by simp)
  obtain ⟨⟨h1, h2, h3⟩, h4⟩ := h
  have hsz : (Sort.insertionSort (ltOf cmpId) lc.toArray 0 lc.length).size = lc.length := by rw [h1]; simp
  unfold sortC
  generalize Sort.insertionSort (ltOf cmpId) lc.toArray 0 lc.length = d at *
  constructor
  · have e1 : d.extract 0 lc.length = d := by rw [← hsz]; simp
    have e2 : lc.toArray.extract 0 lc.length = lc.toArray := by
      simp
    rw [e1, e2] at h3
    exact h3
  · rw [List.pairwise_iff_getElem]
    intro i j hi hj hij
    have hi' : i < d.size := by simpa using hi
    have hj' : j < d.size := by simpa using hj
    have h5 := h4 i j (Nat.zero_le _) hij (by omega)
    rw [getElem!_pos d i hi', getElem!_pos d j hj'] at h5
    simp only [Array.getElem_toList]
    unfold ltOf cmpId at h5
    simp only [decide_eq_false_iff_not] at h5
    split at h5
    · omega
    · omega
def SortPost (base : Nat) (W : World) (v : Value) (lc : List NdC) (e : Ending) (w' : World) : Prop :=
  e = .returned (.tuple #[]) ∧ ∃ lc', NodesOwn base w' v lc' ∧ lc'.Perm lc ∧ (lc'.Pairwise fun a b => a.id ≤ b.id) ∧ (∀ q, q < W.heap.size → v.ownBlock ≠ some q → w'.heap[q]? = W.heap[q]?) ∧ W.heap.size ≤ w'.heap.size ∧ (∀ w0, Grew w0 W → w0.heap.size ≤ base → Grew w0 w')
theorem SortPost.none (base : Nat) (W : World) (v : Value) (h : NodesOwn base W v []) : SortPost base W v [] (.returned (.tuple #[])) W :=
  ⟨rfl, [], h, List.Perm.refl _, List.Pairwise.nil, fun _ _ _ => rfl, Nat.le_refl _, fun _ g _ => g⟩
set_option maxHeartbeats 2000000 in
theorem insNodes_any (base : Nat) (W : World) (v : Value) (lc : List NdC) (h : NodesOwn base W v lc) (hl : lc.length ≤ 1000) :
    Calls Tryz.prog 137 #[v, .int .i64 0, .int .i64 lc.length, .func (.func 67) #[] #[]] W (SortPost base W v lc) := by
  rcases h.form with ⟨rfl, hn⟩ | ⟨b, cap, rfl, hb, hc, hm⟩
  · subst hn
    have HS := Lib.hid (SortPost.none base W _ h)
    clear h
    show Calls Tryz.prog _ #[.slice none 0 0, .int .i64 0, .int .i64 0, .func (.func 67) #[] #[]] W _
    go_enter Tryz.func137, Tryz.ntmps137
    go_wp2
    go_loopg [8] 0 (fun gg s8 wr => s8 = .int .i64 1 ∧ wr = W)
    case atStart => exact ⟨rfl, rfl⟩
    case round =>
      obtain ⟨rfl, rfl⟩ := hrel
      go_wp2
      go_end0
      exact HS.out
  · obtain ⟨hh, hb1, hb2⟩ := own_holdsK h
    have hcon := AnyQ.insertionSortCmpFunc Tryz.insNode 13 Tryz.isAgg41 Tryz.sizeOf41 encNd encNd_len encNd_one cmpId 67 #[] b 0 cap 0 lc.length lc.toArray W enters67 (fun m os dk _ x y => cmp_any x y _) hh hb2 (Nat.zero_le _) (by simp) (by simp; omega)
    have hcon2 : Calls Tryz.prog 137 #[.slice (some ⟨b, 0, none⟩) lc.length cap, .int .i64 0, .int .i64 lc.length, .func (.func 67) #[] #[]] W _ := hcon
    refine hcon2.mono fun e w' ⟨he, n, os, hw⟩ => ?_
    obtain ⟨p1, p2⟩ := sortC_ok lc
    have hw2 : w' = sortWorldK encNd 13 W b 0 n (sortC lc).toArray os := hw
    obtain ⟨q1, q2, q3⟩ := own_ofSort (n := lc.length) (cap := cap) (m := n) (os := os) h p1.length_eq
    rw [← hw2] at q1 q2 q3
    refine ⟨he, sortC lc, q1, p1, p2, fun q hq hne => q2 q hq fun e => hne (by rw [e]; rfl), q3, fun w0 g hb0 => ?_⟩
    rw [hw2]
    unfold sortWorldK Sort.putRowK
    exact grewOs (grewRow (grewAhead g _) (by omega)) _
end Go.Proofs.YthlmmfljeblflaaGreatDoor

/-! The library's stable sort at nodes, up to 19 of them; graph.Norm. -/
namespace Go.Proofs.YthlmmfljeblflaaGreatDoor
set_option linter.unusedSimpArgs false
set_option linter.unusedVariables false
open Go.RowKit Ga
set_option maxRecDepth 100000

set_option maxHeartbeats 2000000 in
theorem stableNodes_any (base : Nat) (W : World) (v : Value) (lc : List NdC) (h : NodesOwn base W v lc) (hl : lc.length ≤ 19) :
    Calls Tryz.prog 103 #[v, .int .i64 lc.length, .func (.func 67) #[] #[]] W (SortPost base W v lc) := by
  have HI := Lib.hid (insNodes_any base W v lc h (by omega))
  obtain ⟨a, cap, rfl⟩ := (OwnAt.rows h encNd_len).len
  clear h
  have h19 : (lc.length : Int) ≤ 19 := by omega
  generalize lc.length = ln at *
  go_enter Tryz.func103, Tryz.ntmps103
  go_wp2
  go_loopg [7, 8] 0 (fun gg s7 s8 wr => s7 = .int .i64 0 ∧ s8 = .int .i64 20 ∧ wr = W)
  case atStart => exact ⟨rfl, rfl, rfl⟩
  case round =>
    obtain ⟨rfl, rfl, rfl⟩ := hrel
    go_wp2_with (go_at_call 137; refine HI.out.mono ?_; rintro e w1 ⟨rfl, hp⟩; (have HP := Lib.hid hp); clear hp)
    go_loopg [6] 0 (fun gg s6 wr => s6 = .int .i64 20 ∧ wr = w1)
    case atStart => exact ⟨rfl, rfl⟩
    case round =>
      obtain ⟨rfl, rfl⟩ := hrel
      go_wp2
      go_end0
      exact ⟨rfl, HP.out⟩
theorem sortNodes_any (base : Nat) (W : World) (v : Value) (lc : List NdC) (h : NodesOwn base W v lc) (hl : lc.length ≤ 19) :
    Calls Tryz.prog 66 #[v, .func (.func 67) #[] #[]] W (SortPost base W v lc) := by
  have HI := Lib.hid (stableNodes_any base W v lc h hl)
  have hm := (OwnAt.rows h encNd_len)
  obtain ⟨a, cap, rfl⟩ := (OwnAt.rows h encNd_len).len
  clear h hm
  go_enter Tryz.func66, Tryz.ntmps66
  go_wp2_with (go_at_call 103; refine HI.out.mono ?_; rintro e w1 ⟨rfl, hp⟩; (have HP := Lib.hid hp); clear hp)
  go_end0
  exact ⟨rfl, HP.out⟩
end Go.Proofs.YthlmmfljeblflaaGreatDoor

/-! graph.Norm. -/
namespace Go.Proofs.YthlmmfljeblflaaGreatDoor
set_option linter.unusedSimpArgs false
set_option linter.unusedVariables false
open Go.RowKit Ga
set_option maxRecDepth 100000

/-- two lists, side by side -/
def Rel {α β : Type} (R : α → β → Prop) : List α → List β → Prop
  | [], [] => True
  | a :: xs, b :: ys => R a b ∧ Rel R xs ys
  | _, _ => False
theorem Rel.len {α β : Type} {R : α → β → Prop} : ∀ {xs : List α} {ys : List β}, Rel R xs ys → xs.length = ys.length
  | [], [], _ => rfl
  | a :: xs, b :: ys, h => by rw [List.length_cons, List.length_cons, Rel.len h.2]
  | [], _ :: _, h => h.elim
  | _ :: _, [], h => h.elim
theorem Rel.get {α β : Type} {R : α → β → Prop} : ∀ {xs : List α} {ys : List β}, Rel R xs ys → ∀ (i : Nat) (a : α) (b : β), xs[i]? = some a → ys[i]? = some b → R a b
  | [], [], _, i, a, b, h1, _ => by simp at h1
  | a :: xs, b :: ys, h, 0, x, y, h1, h2 => by simp at h1 h2; subst h1 h2; exact h.1
  | a :: xs, b :: ys, h, i + 1, x, y, h1, h2 => Rel.get h.2 i x y (by simpa using h1) (by simpa using h2)
  | [], _ :: _, h, _, _, _, _, _ => h.elim
  | _ :: _, [], h, _, _, _, _, _ => h.elim
theorem Rel.snoc {α β : Type} {R : α → β → Prop} : ∀ {xs : List α} {ys : List β}, Rel R xs ys → ∀ {a : α} {b : β}, R a b → Rel R (xs ++ [a]) (ys ++ [b])
  | [], [], _, a, b, h => ⟨h, trivial⟩
  | a :: xs, b :: ys, h, x, y, h2 => ⟨h.1, Rel.snoc h.2 h2⟩
  | [], _ :: _, h, _, _, _ => h.elim
  | _ :: _, [], h, _, _, _ => h.elim
theorem Rel.mono {α β : Type} {R S : α → β → Prop} (hm : ∀ a b, R a b → S a b) : ∀ {xs : List α} {ys : List β}, Rel R xs ys → Rel S xs ys
  | [], [], _ => trivial
  | a :: xs, b :: ys, h => ⟨hm a b h.1, Rel.mono hm h.2⟩
  | [], _ :: _, h => h.elim
  | _ :: _, [], h => h.elim
theorem Rel.perm {α β : Type} {R : α → β → Prop} {xs' xs : List α} (hp : xs'.Perm xs) : ∀ {ys : List β}, Rel R xs ys → ∃ ys', Rel R xs' ys' ∧ ys'.Perm ys := by
  induction hp with
  | nil => intro ys h; cases ys with
    | nil => exact ⟨[], trivial, List.Perm.refl _⟩
    | cons => exact h.elim
  | cons x _ ih => intro ys h; cases ys with
    | nil => exact h.elim
    | cons b ys =>
      obtain ⟨ys', h1, h2⟩ := ih h.2
      exact ⟨b :: ys', ⟨h.1, h1⟩, h2.cons b⟩
  | swap x y t => intro ys h; cases ys with
    | nil => exact h.elim
    | cons b ys => cases ys with
      | nil => exact h.2.elim
      | cons c ys => exact ⟨c :: b :: ys, ⟨h.2.1, h.1, h.2.2⟩, List.Perm.swap ..⟩
  | trans _ _ ih1 ih2 =>
    intro ys h
    obtain ⟨b2, h1, h2⟩ := ih2 h
    obtain ⟨b1, h3, h4⟩ := ih1 h1
    exact ⟨b1, h3, h4.trans h2⟩
/-- the nodes behind the cells: in memory behind 'base' -/
def NodesIn (base : Nat) (w : World) (lc : List NdC) (l : List Gr.Nd) : Prop := Rel (fun c n => NodeIs w c n ∧ OwnsNd base w c n) lc l
theorem NodesIn.at {base : Nat} {w : World} {v : Value} {lc : List NdC} {l : List Gr.Nd} (h : NodesIn base w lc l) (ho : NodesOwn base w v lc) : NodesAt w v l :=
  ⟨lc, OwnAt.rows ho encNd_len, Rel.len h, fun i c n h1 h2 => (Rel.get h i c n h1 h2).1⟩
theorem OwnsNd.to2 {base : Nat} {w w' : World} {c : NdC} {n : Gr.Nd} (o : OwnsNd base w c n) (hb : ∀ (q : Nat) (cs : Array Value) (t : TypeId), w.heap[q]? = some (.cells cs t) → base ≤ q → t ≠ 41 → w'.heap[q]? = w.heap[q]?) : OwnsNd base w' c n := by
  refine ⟨OwnAt.same o.1 fun b h => ?_, OwnAt.same o.2 fun b h => ?_⟩
  · obtain ⟨h1, cs, h2⟩ := OwnAt.block o.1 h
    exact hb b cs _ h2 h1 (by decide)
  · obtain ⟨h1, cs, h2⟩ := OwnAt.block o.2 h
    exact hb b cs _ h2 h1 (by decide)
theorem NodesIn.keep {base : Nat} {w w' : World} {v : Value} {lc lv : List NdC} {l : List Gr.Nd} (h : NodesIn base w lc l) (ho : NodesOwn base w v lv) (hk : ∀ q, q < w.heap.size → v.ownBlock ≠ some q → w'.heap[q]? = w.heap[q]?) : NodesIn base w' lc l :=
  Rel.mono (fun c n ⟨h1, h2⟩ => by
    have h3 : OwnsNd base w' c n := h2.to2 fun q cs t hq hb hne => hk q (heap_lt hq) (OwnAt.other ho hq hne)
    exact ⟨h3.is h1, h3⟩) h
theorem NodesIn.grew {base : Nat} {w w' : World} {lc : List NdC} {l : List Gr.Nd} (h : NodesIn base w lc l) (g : Grew w w') : NodesIn base w' lc l :=
  Rel.mono (fun c n ⟨h1, h2⟩ => ⟨h1.grew g, h2.grew g⟩) h
theorem nd_at (W : World) (x : NdC) (t : TypeId) (b : Nat) {c : Array Value} (hc : c = (encNd x).toArray) (hb : b = W.heap.size) : ∀ j u, (([x] : List NdC).flatMap encNd)[j]? = some u → (W.alloc (.cells c t)).cell? ⟨b, j, none⟩ = some u := by
  subst hc
  intro j u hu
  rw [new_cells W _ t b hb j]
  simpa using hu
/-- the same nodes by their numbers, in memory of the call's own -/
def NormGives (l : List Gr.Nd) (w : World) (e : Ending) (w' : World) : Prop := ∃ v lc l', e = .returned v ∧ NodesOwn w.heap.size w' v lc ∧ NodesIn w.heap.size w' lc l' ∧ l'.Perm l ∧ (l'.Pairwise fun a b => a.id ≤ b.id) ∧ Grew w w'
theorem norm_made {w W w' : World} {v : Value} {lc : List NdC} {l : List Gr.Nd} {e : Ending} (h : SortPost w.heap.size W v lc e w') (hn : NodesIn w.heap.size W lc l) (ho : NodesOwn w.heap.size W v lc) (g : Grew w W) : NormGives l w (.returned v) w' := by
  obtain ⟨-, lc', h1, h2, h3, h4, h5, h6⟩ := h
  have hk := NodesIn.keep hn ho h4
  obtain ⟨l', h7, h8⟩ := Rel.perm h2 hk
  refine ⟨v, lc', l', rfl, h1, h7, h8, ?_, h6 w g (Nat.le_refl _)⟩
  rw [List.pairwise_iff_getElem] at h3 ⊢
  intro i j hi hj hij
  have hl := Rel.len h7
  have := h3 i j (by omega) (by omega) hij
  have e1 := (Rel.get h7 i _ _ (List.getElem?_eq_getElem (by omega)) (List.getElem?_eq_getElem hi)).1.id
  have e2 := (Rel.get h7 j _ _ (List.getElem?_eq_getElem (by omega)) (List.getElem?_eq_getElem hj)).1.id
  rw [e1, e2]
  exact this
theorem norm_round {w wr W4 W W' : World} {v v' : Value} {lc : List NdC} {c : NdC} {l : List Gr.Nd} {y : Gr.Nd} {base : Nat} (gw : Grew w wr) (ho : NodesOwn w.heap.size wr v lc) (hn : NodesIn w.heap.size wr lc l) (g1 : Grew wr W) (h9 : NodeIs W4 c y) (o9 : OwnsNd base W4 c y) (hb : w.heap.size ≤ base) (g2 : Grew W4 W)
    (hA : Appended w 41 13 encNd W v (lc ++ [c]) v' W') : Grew w W' ∧ NodesOwn w.heap.size W' v' (lc ++ [c]) ∧ NodesIn w.heap.size W' (lc ++ [c]) (l ++ [y]) := by
  obtain ⟨a1, a2, a3, a4, a5⟩ := hA
  have ho' : NodesOwn w.heap.size W v lc := OwnAt.grew ho g1
  have h5 : OwnsNd w.heap.size W' c y := ((o9.grew g2).low hb).to2 fun q cs t hq _ hne => a4 q (heap_lt hq) (OwnAt.other ho' hq hne)
  exact ⟨a1, a2, Rel.snoc ((hn.grew g1).keep ho' a4) ⟨h5.is h9, h5⟩⟩
set_option maxHeartbeats 8000000 in
theorem norm_any (v : Value) (l : List Gr.Nd) (w : World) (hv : NodesAt w v l) (hs : Small l) (hl : l.length ≤ 19) : Calls Tryz.prog 33 #[v] w (NormGives l w) := by
  have HV := Lib.hid hv
  have HS := Lib.hid hs
  obtain ⟨a, cap, rfl, hm, -⟩ := hv.openC
  clear hv hs
  go_enter Tryz.func33, Tryz.ntmps33
  go_wp2
  go_loopg [3, 8] l.length (fun gg s3 s8 wr => ∃ (k : Nat) (lc : List NdC) (vk : Value), k ≤ l.length ∧ l.length - k ≤ gg ∧ s8 = .int .i64 k ∧ vk = s3 ∧ Hid (Grew w wr) ∧ Hid (NodesOwn w.heap.size wr vk lc) ∧ Hid (NodesIn w.heap.size wr lc (l.take k)))
  case atStart => exact ⟨0, [], _, Nat.zero_le _, by omega, rfl, rfl, Lib.hid (by repeat (first | with_reducible exact Grew.refl _ | apply Grew.more | apply Grew.alloc | apply Grew.drew | apply Grew.drewN)), Lib.hid (OwnAt.nil _), Lib.hid trivial⟩
  case round =>
    obtain ⟨k, lc, vk, hk, hgg, rfl, rfl, HG, HO, HN⟩ := hrel
    by_cases hlt : k < l.length
    · obtain ⟨a', cap', e, -, hx⟩ := (HV.out.grew HG.out).openC
      cases e
      obtain ⟨b, off, c, rfl, hb, hn, c0, c1, c2, c3, c4, c5, c6, c7, c8, c9, c10, c11, c12⟩ := hx k hlt
      obtain ⟨s1, s2⟩ := HS.out _ (List.getElem_mem hlt)
      have htk : l.take (k + 1) = l.take k ++ [l[k]] := List.take_succ_eq_append_getElem hlt
      have HT := Lib.hid htk
      have hlc := Rel.len HN.out
      rw [List.length_take, Nat.min_eq_left hk] at hlc
      have HLC := Lib.hid hlc
      clear hx htk hlc
      generalize hy : l[k] = y at *
      have HNc := Lib.hid hn
      have HOW := Lib.hid fun W (g : Grew wr W) => own_any c y W (HNc.out.grew g) s1 s2
      obtain ⟨cid, kind, af, cf, ap, cp, par, r0, r1, r2, r3, r4, r5, r6, r7, rfl⟩ := HNc.out.lit
      simp only at c0 c1 c2 c3 c4 c5 c6 c7 c8 c9 c10 c11 c12
      clear hy hn
      go_wp2_with (first
        | (go_at_call 65; refine (HOW.out _ (by repeat (first | with_reducible exact Grew.refl _ | apply Grew.more | apply Grew.alloc | apply Grew.drew | apply Grew.drewN))).mono ?_; rintro e w1 ⟨c9, rfl, hn9, ho9, R4, n4, rfl⟩; obtain ⟨cid9, kind9, af9, cf9, ap9, cp9, par9, s0, s1, s2, s3, s4, s5, s6, s7, rfl⟩ := hn9.lit; (have HN9 := Lib.hid hn9); (have HO9 := Lib.hid ho9); clear hn9 ho9)
        | (at_builtin; refine wpList_ownK (w0 := w) rfl (.tmp 12) (.tmp 15) 30 _ _ _ _ [⟨cid9, kind9, af9, y.frm.length, cf9, ap9, y.prog.length, cp9, par9, s0, s1, s2, s3, s4, s5, s6, s7⟩] rfl Tryz.underlying30 infoNode rfl (by decide) encNd_len encNd_one rfl (OwnAt.grew HO.out (by repeat (first | with_reducible exact Grew.refl _ | apply Grew.more | apply Grew.alloc | apply Grew.drew | apply Grew.drewN))) (HG.out.trans (by repeat (first | with_reducible exact Grew.refl _ | apply Grew.more | apply Grew.alloc | apply Grew.drew | apply Grew.drewN))) rfl (nd_at _ _ _ _ rfl (by simp [go_sem])) (by rw [HLC.out]; simp; omega) (by decide) (by simp) ?_; intro v5 W5 hA; (have HA := Lib.hid hA); clear hA))
      have hr := norm_round HG.out HO.out HN.out (by repeat (first | with_reducible exact Grew.refl _ | apply Grew.more | apply Grew.alloc | apply Grew.drew | apply Grew.drewN)) HN9.out HO9.out (by have := HG.out.below.size; simp [World.size_alloc]; omega) (by repeat (first | with_reducible exact Grew.refl _ | apply Grew.more | apply Grew.alloc | apply Grew.drew | apply Grew.drewN)) HA.out
      rw [← HT.out] at hr
      obtain ⟨q1, q2, q3⟩ := hr
      have Q1 := Lib.hid q1
      have Q2 := Lib.hid q2
      have Q3 := Lib.hid q3
      clear q1 q2 q3
      go_roundg (l.length - (k + 1))
      case measure => omega
      case rel => exact ⟨k + 1, _, _, by omega, by omega, by go_num, rfl, Q1, Q2, Q3⟩
    · obtain rfl : k = l.length := by omega
      have hn := HN.out
      rw [List.take_length] at hn
      have hlc := Rel.len hn
      have HSN := Lib.hid (sortNodes_any w.heap.size wr vk lc HO.out (by omega))
      have HN2 := Lib.hid hn
      obtain ⟨a3, cap3, rfl⟩ := (OwnAt.rows HO.out encNd_len).len
      clear hn hlc
      go_wp2_with (go_at_call 66; refine HSN.out.mono ?_; rintro e w1 hp; (have he := hp.1); subst he; (have HP := Lib.hid hp); clear hp)
      go_ret
      exact norm_made HP.out HN2.out HO.out HG.out
end Go.Proofs.YthlmmfljeblflaaGreatDoor

/-! plan.Clean. -/
namespace Go.Proofs.YthlmmfljeblflaaGreatDoor
set_option linter.unusedSimpArgs false
set_option linter.unusedVariables false
open Go.RowKit Ga
set_option maxRecDepth 100000

end Go.Proofs.YthlmmfljeblflaaGreatDoor

/-! plan.Clean, kind 1. -/
namespace Go.Proofs.YthlmmfljeblflaaGreatDoor
set_option linter.unusedSimpArgs false
set_option linter.unusedVariables false
open Go.RowKit Ga
set_option maxRecDepth 100000

end Go.Proofs.YthlmmfljeblflaaGreatDoor

/-! plan.Clean, kind 2. -/
namespace Go.Proofs.YthlmmfljeblflaaGreatDoor
set_option linter.unusedSimpArgs false
set_option linter.unusedVariables false
open Go.RowKit Ga
set_option maxRecDepth 100000

end Go.Proofs.YthlmmfljeblflaaGreatDoor

/-! plan.Clean, kind 5. -/
namespace Go.Proofs.YthlmmfljeblflaaGreatDoor
set_option linter.unusedSimpArgs false
set_option linter.unusedVariables false
open Go.RowKit Ga
set_option maxRecDepth 100000

end Go.Proofs.YthlmmfljeblflaaGreatDoor

/-! plan.Clean, whatever the step. -/
namespace Go.Proofs.YthlmmfljeblflaaGreatDoor
set_option linter.unusedSimpArgs false
set_option linter.unusedVariables false
open Go.RowKit Ga
set_option maxRecDepth 100000

end Go.Proofs.YthlmmfljeblflaaGreatDoor

/-! graph.sort: its two closures; the world of a round. -/
namespace Go.Proofs.YthlmmfljeblflaaGreatDoor
set_option linter.unusedSimpArgs false
set_option linter.unusedVariables false
open Go.RowKit Ga
set_option maxRecDepth 100000

theorem enters101 : ∀ args w, (callFunc 101 args).run Tryz.prog w = .ok (.enter 101 args) w := enters_of Tryz.func101 (by kernel_rfl) rfl
theorem enters102 : ∀ args w, (callFunc 102 args).run Tryz.prog w = .ok (.enter 102 args) w := enters_of Tryz.func102 (by kernel_rfl) rfl
theorem sort1_pred (out : List Int) (v : Value) (B : Nat) (w : World) (hv : IntsAt w v out) (hB : Pre B w) (hc : w.cell? ⟨B, 0, none⟩ = some v) : PredI 101 #[.pointer (some ⟨B, 0, none⟩)] (fun x => decide (x ∈ out)) w := by
  intro W x g
  obtain ⟨R, N, rfl⟩ := g
  have HC := Lib.hid fun W (g : Grew w W) => containsI_any v out x W (hv.grew g)
  obtain ⟨a, cap, rfl⟩ := hv.len
  clear hv
  show Calls Tryz.prog 101 #[.int .i64 x, .pointer (some ⟨B, 0, none⟩)] _ (Gives (.bool (decide (x ∈ out))) _)
  generalize decide (x ∈ out) = r at *
  go_enter Tryz.func101, Tryz.ntmps101
  go_wp2_with (go_at_call 61; refine (HC.out _ (by repeat (first | with_reducible exact Grew.refl _ | apply Grew.more | apply Grew.alloc | apply Grew.drew | apply Grew.drewN))).mono ?_; rintro e w1 ⟨rfl, hw1⟩; obtain rfl := hw1)
  go_ret
  refine ⟨rfl, ?_⟩
  repeat (first | with_reducible exact Grew.refl _ | apply Grew.more | apply Grew.alloc | apply Grew.drew | apply Grew.drewN)
theorem sort2_pred (out : List Int) (v : Value) (B C : Nat) (w : World) (hv : IntsAt w v out) (hB : Pre B w) (hc : w.cell? ⟨B, 0, none⟩ = some v) (hC : Pre C w) (hcC : w.cell? ⟨C, 0, none⟩ = some (.func (.func 101) #[] #[.pointer (some ⟨B, 0, none⟩)])) : PredI 102 #[.pointer (some ⟨C, 0, none⟩)] (fun x => !decide (x ∈ out)) w := by
  intro W x g
  have HS := Lib.hid (sort1_pred out v B w hv hB hc)
  obtain ⟨R, N, rfl⟩ := g
  have eg := enters101
  clear hv hc hB
  show Calls Tryz.prog 102 #[.int .i64 x, .pointer (some ⟨C, 0, none⟩)] _ (Gives (.bool (!decide (x ∈ out))) _)
  generalize hq : (fun x => decide (x ∈ out)) = p at *
  have hp : decide (x ∈ out) = p x := by rw [← hq]
  rw [hp]
  clear hq hp
  generalize hr : p x = r
  have HR := Lib.hid hr
  clear hr
  go_enter Tryz.func102, Tryz.ntmps102
  go_wp2_with (go_at_fn 101; refine (HS.out _ x (by repeat (first | with_reducible exact Grew.refl _ | apply Grew.more | apply Grew.alloc | apply Grew.drew | apply Grew.drewN))).mono ?_; rintro e w1 ⟨rfl, R3, n3, rfl⟩; rw [HR.out])
  go_ret
  refine ⟨rfl, ?_⟩
  repeat (first | with_reducible exact Grew.refl _ | apply Grew.more | apply Grew.alloc | apply Grew.drew | apply Grew.drewN)

/-- a world of the sort's: w: the one that came in; w1: the one behind Norm; B: the cell of what stands; C: the cell of the closure -/
structure SortAt (w w1 : World) (B C : Nat) (W : World) (v : Value) (out : List Int) : Prop where
  keep : Keep B w1 W
  g : Grew w W
  own : OwnAt w.heap.size 3 1 encN W v out
  hi : ∀ q, v.ownBlock = some q → w1.heap.size ≤ q
  b : W.heap[B]? = some (.cells #[v] 29)
  c : W.heap[C]? = some (.cells #[.func (.func 101) #[] #[.pointer (some ⟨B, 0, none⟩)]] 156)
  bl : w.heap.size ≤ B
theorem SortAt.grew {w w1 : World} {B C : Nat} {W W' : World} {v : Value} {out : List Int} (h : SortAt w w1 B C W v out) (g : Grew W W') : SortAt w w1 B C W' v out :=
  ⟨h.keep.trans (Keep.ofGrew g), h.g.trans g, h.own.grew g, h.hi, grew_heap g h.b, grew_heap g h.c, h.bl⟩
theorem SortAt.push {w w1 : World} {B C : Nat} {W W' : World} {v v' : Value} {out : List Int} {x : Int} (h : SortAt w w1 B C W v out) (hA : Appended w 3 1 encN W v (out ++ [x]) v' W') :
    W'.heap[B]? = some (.cells #[v] 29) ∧ SortAt w w1 B C (W'.setCell ⟨B, 0, none⟩ v') v' (out ++ [x]) := by
  obtain ⟨a1, a2, a3, a4, a5⟩ := hA
  have hB : W'.heap[B]? = some (.cells #[v] 29) := by rw [a4 B (heap_lt h.b) (OwnAt.other h.own h.b (by decide))]; exact h.b
  have hC : W'.heap[C]? = some (.cells #[.func (.func 101) #[] #[.pointer (some ⟨B, 0, none⟩)]] 156) := by rw [a4 C (heap_lt h.c) (OwnAt.other h.own h.c (by decide))]; exact h.c
  have hne : B ≠ C := fun e => by
    rw [e, hC] at hB
    cases hB
  have hk : Keep B w1 W' := ⟨Nat.le_trans h.keep.1 a3, fun q hq hn => (a4 q (Nat.lt_of_lt_of_le hq h.keep.1) fun e => by have := h.hi q e; omega).trans (h.keep.2 q hq hn)⟩
  refine ⟨hB, ⟨hk.trans (Keep.set _), a1.set h.bl _, OwnAt.same a2 fun b hb => set_other fun e => ?_, fun q hq => ?_, by rw [set_self hB]; rfl, by rw [set_other hne]; exact hC, h.bl⟩⟩
  · subst e
    exact OwnAt.other a2 hB (by decide) hb
  · rcases a5 q hq with h1 | h1
    · exact h.hi q h1
    · exact Nat.le_trans h.keep.1 h1
/-- the nodes stand as they stood -/
theorem SortAt.nodes {w w1 : World} {B C base : Nat} {W : World} {v vn : Value} {out : List Int} {lc : List NdC} {l : List Gr.Nd} (h : SortAt w w1 B C W v out) (ho : NodesOwn base w1 vn lc) (hn : NodesIn base w1 lc l) (hB : ∃ c, w1.heap[B]? = some (.cells c 29)) : NodesAt W vn l := by
  obtain ⟨cB, hB⟩ := hB
  have hk := h.keep
  have hne : ∀ (q : Nat) (cs : Array Value) (t : TypeId), w1.heap[q]? = some (.cells cs t) → t ≠ 29 → q ≠ B := fun q cs t hq ht e => by
    subst e
    rw [hB] at hq
    cases hq
    exact ht rfl
  have ho2 : NodesOwn base W vn lc := OwnAt.same ho fun b hb => by
    obtain ⟨_, cs, h2⟩ := OwnAt.block ho hb
    exact hk.2 b (heap_lt h2) (hne b cs _ h2 (by decide))
  have hn2 : NodesIn base W lc l := Rel.mono (fun c n ⟨h1, h2⟩ => by
    have h3 : OwnsNd base W c n := by
      refine ⟨OwnAt.same h2.1 fun b hb => ?_, OwnAt.same h2.2 fun b hb => ?_⟩
      · obtain ⟨_, cs, h4⟩ := OwnAt.block h2.1 hb
        exact hk.2 b (heap_lt h4) (hne b cs _ h4 (by decide))
      · obtain ⟨_, cs, h4⟩ := OwnAt.block h2.2 hb
        exact hk.2 b (heap_lt h4) (hne b cs _ h4 (by decide))
    exact ⟨h3.is h1, h3⟩) hn
  exact hn2.at ho2
def standP (out : List Int) (n : Gr.Nd) : Bool := !out.contains n.id && n.frm.all fun f => out.contains f
theorem standP_eq (out : List Int) (n : Gr.Nd) : standP out n = (!decide (n.id ∈ out) && !n.frm.any fun f => !decide (f ∈ out)) := by
  unfold standP
  rw [List.not_any_eq_all_not]
  simp
theorem standP_next (l : List Gr.Nd) (out : List Int) : Gr.nextS l out = (l.find? (standP out)).map (·.id) := rfl
def sliceLen : Value → Nat
  | .slice _ n _ => n
  | _ => 0
end Go.Proofs.YthlmmfljeblflaaGreatDoor

/-! What the library's sorts leave of a slice of one's own, whatever its elements. -/
namespace Go.Proofs.YthlmmfljeblflaaGreatDoor
set_option linter.unusedSimpArgs false
set_option linter.unusedVariables false
open Go.RowKit Ga
set_option maxRecDepth 100000

section
variable {α : Type} [Inhabited α] {enc : α → List Value} {k : Nat} {e : TypeId}
end
end Go.Proofs.YthlmmfljeblflaaGreatDoor

/-! The library's sort at entries, as cell uses it. -/
namespace Go.Proofs.YthlmmfljeblflaaGreatDoor
set_option linter.unusedSimpArgs false
set_option linter.unusedVariables false
open Go.RowKit Ga
set_option maxRecDepth 100000

/-- an entry whose place is one -/
abbrev Sm := { x : Tab.En // There x }
instance : Inhabited Sm := ⟨⟨⟨0, 0, (0, 0), (0, 0)⟩, ⟨by decide, by decide⟩, ⟨by decide, by decide⟩⟩⟩
end Go.Proofs.YthlmmfljeblflaaGreatDoor

/-! cell: some, All. -/
namespace Go.Proofs.YthlmmfljeblflaaGreatDoor
set_option linter.unusedSimpArgs false
set_option linter.unusedVariables false
open Go.RowKit Ga
set_option maxRecDepth 100000

theorem un_eq {m : List Tab.En} (hu : m.Pairwise fun a b => Tab.num a ≠ Tab.num b) {x y : Tab.En} (hx : x ∈ m) (hy : y ∈ m) (h : Tab.num x = Tab.num y) : x = y := by
  obtain ⟨i, hi, rfl⟩ := List.mem_iff_getElem.1 hx
  obtain ⟨j, hj, rfl⟩ := List.mem_iff_getElem.1 hy
  have hp := List.pairwise_iff_getElem.1 hu
  rcases Nat.lt_trichotomy i j with h3 | h3 | h3
  · exact absurd h (hp i j hi hj h3)
  · subst h3; rfl
  · exact absurd h.symm (hp j i hj hi h3)
/-- what has come up so far -/
structure Seen (D : DataW Unit) (m lo : List Tab.En) (left : Lit → Bool) : Prop where
  un : lo.Pairwise fun a b => Tab.num a ≠ Tab.num b
  sub : ∀ x ∈ lo, x ∈ m
  all : ∀ x ∈ m, ∀ kl, keyOf Tryz.prog 134 (ceK x.node x.key) = some kl → left kl = false → x ∈ lo
  out : ∀ x ∈ lo, ∀ kl, keyOf Tryz.prog 134 (ceK x.node x.key) = some kl → left kl = false
  has : ∀ kl, left kl = true → Maps.has D kl = true
theorem Seen.start {D : DataW Unit} {m : List Tab.En} (h : TabD D m) : Seen D m [] (Maps.has D) :=
  ⟨List.Pairwise.nil, fun x hx => (by cases hx), fun x hx kl hk hl => (by rw [(h.at' x hx kl hk).1] at hl; cases hl), fun x hx => (by cases hx), fun kl h => h⟩
theorem Seen.next {D : DataW Unit} {m lo : List Tab.En} {left : Lit → Bool} (h : Seen D m lo left) (hD : TabD D m) {n k : Int} {c0 c1 : Val} {kl : Lit} {y : DataW Unit × List MemPlace} (hk : keyOf Tryz.prog 134 (ceK n k) = some kl) (hl : left kl = true) (hR : ceR (cev c0 c1) = some y) (hat : ∀ zd, D.atKey kl zd = y.1) :
    Seen D m (lo ++ [⟨n, k, c0, c1⟩]) (fun z => left z && !z.sameKey kl) := by
  obtain ⟨p, hp, hpk⟩ := hD.has kl (h.has kl hl)
  obtain ⟨e1, e2⟩ := ceK_inj (cell_law.inj hpk hk)
  have h3 := (hD.at' p hp kl hpk).2 (.agg [])
  rw [hat, ← Option.some.inj hR] at h3
  obtain ⟨e3, e4⟩ := ceDat_inj h3
  obtain ⟨pn, pk, p0, p1⟩ := p
  simp only at e1 e2 e3 e4
  subst e1 e2 e3 e4
  have hself : kl.sameKey kl = true := WideAt.sameKey_self (cell_law.key hk)
  refine ⟨?_, fun x hx => ?_, fun x hx k2 hk2 hl2 => ?_, fun x hx k2 hk2 => ?_, fun k2 hk2 => ?_⟩
  · rw [List.pairwise_append]
    refine ⟨h.un, List.pairwise_singleton _ _, fun a ha b hb e => ?_⟩
    rw [List.mem_singleton] at hb
    subst hb
    obtain ⟨ka, hka⟩ := (hD.there a (h.sub a ha)).kl
    have h5 := h.out a ha ka hka
    rw [(key_other (hD.there a (h.sub a ha)) (hD.there _ hp) hka hk).2 e, hl] at h5
    cases h5
  · rcases List.mem_append.1 hx with h1 | h1
    · exact h.sub x h1
    · rw [List.mem_singleton] at h1
      subst h1
      exact hp
  · cases hq : left k2
    · exact List.mem_append_left _ (h.all x hx k2 hk2 hq)
    · rw [hq] at hl2
      have h6 : k2.sameKey kl = true := by simpa using hl2
      have h7 : k2 = kl := WideAt.sameKey_eq h6
      subst h7
      have h8 := un_eq hD.un hx hp ((key_other (hD.there x hx) (hD.there _ hp) hk2 hk).1 rfl)
      rw [h8]
      exact List.mem_append_right _ (List.mem_singleton.2 rfl)
  · rcases List.mem_append.1 hx with h1 | h1
    · rw [h.out x h1 k2 hk2]
      rfl
    · rw [List.mem_singleton] at h1
      subst h1
      have h9 : k2 = kl := Option.some.inj (hk2.symm.trans hk)
      subst h9
      rw [hself]
      simp
  · simp only [Bool.and_eq_true] at hk2
    exact h.has k2 hk2.1
theorem Seen.done {D : DataW Unit} {m lo : List Tab.En} {left : Lit → Bool} (h : Seen D m lo left) (hD : TabD D m) (h0 : ∀ kl, left kl = false) : lo.Perm m := by
  have hn : ∀ {l : List Tab.En}, (l.Pairwise fun a b => Tab.num a ≠ Tab.num b) → l.Nodup := fun hp => by
    rw [List.nodup_iff_pairwise_ne]
    exact hp.imp fun h e => h (by rw [e])
  rw [List.perm_ext_iff_of_nodup (hn h.un) (hn hD.un)]
  intro x
  refine ⟨h.sub x, fun hx => ?_⟩
  obtain ⟨kl, hk⟩ := (hD.there x hx).kl
  exact h.all x hx kl hk (h0 kl)
end Go.Proofs.YthlmmfljeblflaaGreatDoor

/-! What tables do, in plain lists. -/
namespace Go.Proofs.YthlmmfljeblflaaGreatDoor
set_option linter.unusedSimpArgs false
set_option linter.unusedVariables false
open Go.RowKit Ga
set_option maxRecDepth 100000

/-- unlike places -/
abbrev UnE (m : List Tab.En) : Prop := m.Pairwise fun a b => Tab.num a ≠ Tab.num b
abbrev SoE (m : List Tab.En) : Prop := m.Pairwise fun a b => Tab.num a ≤ Tab.num b
/-- by places there is just one order -/
theorem so_unique {m s s' : List Tab.En} (hu : UnE m) (h1 : s.Perm m) (h2 : s'.Perm m) (o1 : SoE s) (o2 : SoE s') : s = s' := by
  refine List.Perm.eq_of_pairwise (le := fun a b => Tab.num a ≤ Tab.num b) (fun a b ha hb e1 e2 => ?_) o1 o2 (h1.trans h2.symm)
  exact un_eq hu (h1.mem_iff.1 ha) (h2.mem_iff.1 hb) (by omega)
/-- is it asked for? -/
def ofP (nd : Int) (gs : List Int) (x : Tab.En) : Bool := decide (x.node = nd) && decide (x.key % 8 ∈ gs)
end Go.Proofs.YthlmmfljeblflaaGreatDoor

/-! cell: Group, Of. -/
namespace Go.Proofs.YthlmmfljeblflaaGreatDoor
set_option linter.unusedSimpArgs false
set_option linter.unusedVariables false
open Go.RowKit Ga
set_option maxRecDepth 100000

end Go.Proofs.YthlmmfljeblflaaGreatDoor

/-! What a table answers, and that this makes it up. -/
namespace Go.Proofs.YthlmmfljeblflaaGreatDoor
set_option linter.unusedSimpArgs false
set_option linter.unusedVariables false
open Go.RowKit Ga
set_option maxRecDepth 100000

/-- what is kept at a place -/
def getT (m : List Tab.En) (n k : Int) : Val × Val := match m.find? fun x => Tab.num x == n * 64 + k with
  | none => ((0, 0), (0, 0))
  | some x => (x.c0, x.c1)
theorem getT_no {m : List Tab.En} {n k : Int} (h : ∀ x ∈ m, Tab.num x ≠ n * 64 + k) : getT m n k = ((0, 0), (0, 0)) := by
  unfold getT
  rw [List.find?_eq_none.2 fun x hx => by simpa using h x hx]
theorem getT_is {m : List Tab.En} (hu : UnE m) {x : Tab.En} (hx : x ∈ m) {n k : Int} (h : Tab.num x = n * 64 + k) : getT m n k = (x.c0, x.c1) := by
  unfold getT
  cases hf : m.find? fun x => Tab.num x == n * 64 + k with
  | none =>
    have := List.find?_eq_none.1 hf x hx
    simp [h] at this
  | some y =>
    have h1 := List.find?_some hf
    have h2 := List.mem_of_find?_eq_some hf
    have h3 : Tab.num y = n * 64 + k := by simpa using h1
    rw [un_eq hu h2 hx (h3.trans h.symm)]
theorem getT_cases (m : List Tab.En) (n k : Int) : (∃ x ∈ m, Tab.num x = n * 64 + k ∧ getT m n k = (x.c0, x.c1)) ∨ ((∀ x ∈ m, Tab.num x ≠ n * 64 + k) ∧ getT m n k = ((0, 0), (0, 0))) := by
  cases hf : m.find? fun x => Tab.num x == n * 64 + k with
  | none =>
    have := List.find?_eq_none.1 hf
    refine .inr ⟨fun x hx => by simpa using this x hx, ?_⟩
    unfold getT
    rw [hf]
  | some y =>
    have h1 := List.find?_some hf
    have h2 := List.mem_of_find?_eq_some hf
    refine .inl ⟨y, h2, by simpa using h1, ?_⟩
    unfold getT
    rw [hf]
theorem nz_no {x : Tab.En} (h : Tab.nz x = false) : x.c0 = (0, 0) ∧ x.c1 = (0, 0) := by
  unfold Tab.nz at h
  simpa using h
theorem nz_get {x : Tab.En} (h : Tab.nz x = true) : (x.c0, x.c1) ≠ (((0, 0), (0, 0)) : Val × Val) := by
  unfold Tab.nz at h
  intro e
  injection e with e1 e2
  rw [e1, e2] at h
  simp at h
theorem setT_mem {m : List Tab.En} {x y : Tab.En} (h : y ∈ Tab.setT m x) : y = x ∨ (y ∈ m ∧ Tab.num y ≠ Tab.num x) := by
  unfold Tab.setT at h
  split at h
  · rcases List.mem_cons.1 h with h | h
    · exact .inl h
    · exact .inr ⟨(List.mem_filter.1 h).1, by simpa using (List.mem_filter.1 h).2⟩
  · exact .inr ⟨(List.mem_filter.1 h).1, by simpa using (List.mem_filter.1 h).2⟩
theorem setT_un {m : List Tab.En} (h : UnE m) (x : Tab.En) : UnE (Tab.setT m x) := by
  unfold Tab.setT
  split
  · refine List.pairwise_cons.2 ⟨fun y hy e => ?_, h.filter _⟩
    have := (List.mem_filter.1 hy).2
    simp [e] at this
  · exact h.filter _
theorem getT_set {m : List Tab.En} (hu : UnE m) (x : Tab.En) (n k : Int) : getT (Tab.setT m x) n k = if Tab.num x = n * 64 + k then (x.c0, x.c1) else getT m n k := by
  split
  · rename_i h
    cases hz : Tab.nz x
    · obtain ⟨e1, e2⟩ := nz_no hz
      rw [e1, e2]
      refine getT_no fun y hy e => ?_
      unfold Tab.setT at hy
      rw [hz, if_neg (by simp)] at hy
      have := (List.mem_filter.1 hy).2
      simp [e, h] at this
    · refine getT_is (setT_un hu x) ?_ h
      unfold Tab.setT
      rw [if_pos hz]
      exact List.mem_cons_self ..
  · rename_i h
    rcases getT_cases m n k with ⟨y, hy, h1, h2⟩ | ⟨h1, h2⟩
    · rw [h2]
      refine getT_is (setT_un hu x) ?_ h1
      have hf : y ∈ m.filter fun y => Tab.num y != Tab.num x := List.mem_filter.2 ⟨hy, by rw [h1, bne_iff_ne]; exact fun e => h e.symm⟩
      unfold Tab.setT
      split
      · exact List.mem_cons_of_mem _ hf
      · exact hf
    · rw [h2]
      refine getT_no fun y hy e => ?_
      rcases setT_mem hy with rfl | ⟨h3, _⟩
      · exact h e
      · exact h1 y h3 e
/-- a table: unlike places, none empty, each one right -/
structure OkT (m : List Tab.En) : Prop where
  un : UnE m
  nz : ∀ x ∈ m, Tab.nz x = true
  ok : ∀ x ∈ m, okEn x = true
theorem okEn_there {x : Tab.En} (h : okEn x = true) : There x := by
  unfold okEn at h
  rw [Bool.and_eq_true] at h
  exact thereB_iff.1 h.1
theorem OkT.there {m : List Tab.En} (h : OkT m) : ∀ x ∈ m, There x := fun x hx => okEn_there (h.ok x hx)
theorem OkT.nil : OkT [] := ⟨List.Pairwise.nil, fun x hx => (by cases hx), fun x hx => (by cases hx)⟩
theorem OkT.set {m : List Tab.En} (h : OkT m) {x : Tab.En} (hx : okEn x = true) : OkT (Tab.setT m x) := by
  refine ⟨setT_un h.un x, fun y hy => ?_, fun y hy => ?_⟩
  · unfold Tab.setT at hy
    split at hy
    · rcases List.mem_cons.1 hy with rfl | h2
      · assumption
      · exact h.nz y (List.mem_filter.1 h2).1
    · exact h.nz y (List.mem_filter.1 hy).1
  · rcases setT_mem hy with rfl | ⟨h2, _⟩
    · exact hx
    · exact h.ok y h2
theorem OkT.filter {m : List Tab.En} (h : OkT m) (p : Tab.En → Bool) : OkT (m.filter p) := ⟨h.un.filter _, fun x hx => h.nz x (List.mem_filter.1 hx).1, fun x hx => h.ok x (List.mem_filter.1 hx).1⟩
theorem OkT.new {l : List Tab.En} (h : newOk l = true) : OkT (Tab.newT l) := by
  have ho := Tab.newT_ok l
  unfold newOk at h
  rw [List.all_eq_true] at h
  exact ⟨ho.un, ho.nz, fun x hx => h x (ho.sub x hx)⟩
/-- who answers alike keeps alike -/
theorem OkT.perm {m m' : List Tab.En} (h : OkT m) (h' : OkT m') (he : ∀ n k : Int, 0 ≤ n → n < 8 → 0 ≤ k → k < 64 → getT m n k = getT m' n k) : m.Perm m' := by
  have hn : ∀ {l : List Tab.En}, UnE l → l.Nodup := fun hp => by
    rw [List.nodup_iff_pairwise_ne]
    exact hp.imp fun h e => h (by rw [e])
  have half : ∀ {m m' : List Tab.En}, OkT m → OkT m' → (∀ n k : Int, 0 ≤ n → n < 8 → 0 ≤ k → k < 64 → getT m n k = getT m' n k) → ∀ x ∈ m, x ∈ m' := by
    intro m m' h h' he x hx
    have ht := h.there x hx
    unfold There at ht
    have e1 := getT_is h.un hx (n := x.node) (k := x.key) rfl
    have e2 := he x.node x.key (by omega) (by omega) (by omega) (by omega)
    rcases getT_cases m' x.node x.key with ⟨y, hy, h1, h2⟩ | ⟨h1, h2⟩
    · have hy' := h'.there y hy
      obtain ⟨q1, q2⟩ := (hy'.inj (h.there x hx)).1 (h1.trans rfl)
      rw [e1, h2] at e2
      injection e2 with e3 e4
      obtain ⟨a, b, c, d⟩ := x
      obtain ⟨a', b', c', d'⟩ := y
      simp only at q1 q2 e3 e4
      subst q1 q2 e3 e4
      exact hy
    · rw [e1, h2] at e2
      exact absurd e2 (nz_get (h.nz x hx))
  rw [List.perm_ext_iff_of_nodup (hn h.un) (hn h'.un)]
  exact fun x => ⟨half h h' he x, half h' h (fun n k a b c d => (he n k a b c d).symm) x⟩
end Go.Proofs.YthlmmfljeblflaaGreatDoor
