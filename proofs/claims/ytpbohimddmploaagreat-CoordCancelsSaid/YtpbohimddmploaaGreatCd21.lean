import Derived.Test.YtpbohimddmploaaGreatCd20
import Derived.Test.YtpbohimddmploaaGreatCd6
import Derived.Test.YtpbohimddmploaaGreatCd11
import Derived.ScopeJumps
import Derived.Laws.EntriesVeiled
import Derived.Scope
import Derived.Test.YtpbohimddmploaaGreatCd3
import Derived.Test.YtpbohimddmploaaGreatCd18
set_option linter.unusedSimpArgs false
set_option linter.unusedVariables false
set_option maxRecDepth 100000
set_option maxHeartbeats 64000000
namespace Go.Proofs.YtpbohimddmploaaGreat
open Go.RowKit Ga

def cmpId (x y : NdC) : Int := if x.id < y.id then -1 else if y.id < x.id then 1 else 0
theorem cmp_any (x y : NdC) (W : World) : Calls Tryz.prog 119 #[.agg #[.int .i64 x.id, .int .i64 x.kind, .slice x.af x.nf x.cf, .slice x.ap x.np x.cp, .int .i64 x.par, .int .i64 x.r0, .int .i64 x.r1, .int .i64 x.r2, .int .i64 x.r3, .int .i64 x.r4, .int .i64 x.r5, .int .i64 x.r6, .int .i64 x.r7], .agg #[.int .i64 y.id, .int .i64 y.kind, .slice y.af y.nf y.cf, .slice y.ap y.np y.cp, .int .i64 y.par, .int .i64 y.r0, .int .i64 y.r1, .int .i64 y.r2, .int .i64 y.r3, .int .i64 y.r4, .int .i64 y.r5, .int .i64 y.r6, .int .i64 y.r7]] W fun e w' => e = .returned (.int .i64 (cmpId x y)) ∧ ∃ q os', w' = Sort.grow (W.drewN q) os' := by
  obtain ⟨xi, xk, xaf, xnf, xcf, xap, xnp, xcp, xpar, x0, x1, x2, x3, x4, x5, x6, x7⟩ := x
  obtain ⟨yi, yk, yaf, ynf, ycf, yap, ynp, ycp, ypar, y0, y1, y2, y3, y4, y5, y6, y7⟩ := y
  unfold cmpId
  simp only
  by_cases h1 : xi < yi
  · rw [if_pos h1]
    go_enter Tryz.func119, Tryz.ntmps119
    go_wp2
    go_ret
    exact ⟨rfl, 0, _, by rw [Sort.alloc_eq_grow, Sort.alloc_eq_grow, Sort.grow_grow]; rfl⟩
  · rw [if_neg h1]
    by_cases h2 : yi < xi
    · rw [if_pos h2]
      go_enter Tryz.func119, Tryz.ntmps119
      go_wp2
      go_ret
      exact ⟨rfl, 0, _, by rw [Sort.alloc_eq_grow, Sort.alloc_eq_grow, Sort.grow_grow]; rfl⟩
    · rw [if_neg h2]
      go_enter Tryz.func119, Tryz.ntmps119
      go_wp2
      go_ret
      exact ⟨rfl, 0, _, by rw [Sort.alloc_eq_grow, Sort.alloc_eq_grow, Sort.grow_grow]; rfl⟩
def NodesOwn (base : Nat) (w : World) (v : Value) (lc : List NdC) : Prop := OwnAt base 56 13 encNd w v lc
theorem infoNode : (Tryz.prog.info? 56).map (fun i => (i.zero, i.size, i.bytes)) = some (some (.agg #[.int .i64 0, .int .i64 0, .slice none 0 0, .slice none 0 0, .int .i64 0, .int .i64 0, .int .i64 0, .int .i64 0, .int .i64 0, .int .i64 0, .int .i64 0, .int .i64 0, .int .i64 0]), 13, 136) := by kernel_rfl
theorem enters119 : ∀ args w, (callFunc 119 args).run Tryz.prog w = .ok (.enter 119 args) w := enters_of Tryz.func119 (by kernel_rfl) rfl

theorem flat_flatK (lc : List NdC) (j : Nat) (hj : j < lc.length * 13) : (lc.flatMap encNd)[j]? = some ((Sort.flatK encNd 13 lc.toArray)[j]!) := by
  have hi : j / 13 < lc.length := by omega
  rw [Sort.get_flatK encNd 13 lc.toArray j (by simpa using hj)]
  have e1 : lc.toArray[j / 13]! = lc[j / 13] := by rw [getElem!_pos lc.toArray (j / 13) (by simpa using hi)]; simp
  rw [e1]
  have hm : j % 13 < (encNd lc[j / 13]).length := by rw [encNd_len]; omega
  have h2 : (encNd lc[j / 13])[j % 13]? = some ((encNd lc[j / 13])[j % 13]!) := by rw [List.getElem?_eq_getElem hm, getElem!_pos (encNd lc[j / 13]) (j % 13) hm]
  have h3 := flat_get encNd_len lc (j / 13) lc[j / 13] (List.getElem?_eq_getElem hi) (j % 13) _ h2
  rw [show j / 13 * 13 + j % 13 = j by omega] at h3
  exact h3
theorem own_holdsK {base : Nat} {W : World} {b cap n : Nat} {lc : List NdC} (h : NodesOwn base W (.slice (some ⟨b, 0, none⟩) n cap) lc) : Sort.HoldsK encNd 13 W b 0 lc.toArray ∧ base ≤ b ∧ b < W.heap.size := by
  obtain ⟨h1, h2⟩ := h
  rcases h2 with ⟨h, _⟩ | ⟨g, cap', cur, hv, hb, hh, hc, hm, hs, ht⟩
  · cases h
  · cases hv
    refine ⟨fun j hj => ?_, hb, (Array.getElem?_eq_some_iff.1 hh).1⟩
    rw [Sort.size_flatK] at hj
    have hj' : j < lc.length * 13 := by simpa using hj
    rw [Nat.zero_add, cell_of_heap hh, frozen_of_heap hh]
    refine ⟨?_, rfl⟩
    have h3 := flat_flatK lc j hj'
    rw [← ht, List.getElem?_take, if_pos hj'] at h3
    simpa using h3
theorem own_ofSort {base : Nat} {W : World} {b cap n m : Nat} {lc lc' : List NdC} {os : Array Obj} (h : NodesOwn base W (.slice (some ⟨b, 0, none⟩) n cap) lc) (hl : lc'.length = lc.length) :
    NodesOwn base (Go.Proofs.sortWorldK encNd 13 W b 0 m lc'.toArray os) (.slice (some ⟨b, 0, none⟩) n cap) lc' ∧ (∀ q, q < W.heap.size → q ≠ b → (Go.Proofs.sortWorldK encNd 13 W b 0 m lc'.toArray os).heap[q]? = W.heap[q]?) ∧ W.heap.size ≤ (Go.Proofs.sortWorldK encNd 13 W b 0 m lc'.toArray os).heap.size := by
  obtain ⟨h1, h2⟩ := h
  rcases h2 with ⟨h, _⟩ | ⟨g, cap', cur, hv, hb, hh, hc, hm, hs, ht⟩
  · cases h
  · cases hv
    have hblk : b < W.heap.size := (Array.getElem?_eq_some_iff.1 hh).1
    have hat : ∀ q, q < W.heap.size → (Go.Proofs.sortWorldK encNd 13 W b 0 m lc'.toArray os).heap[q]? = (Sort.putRowK encNd 13 (Sort.ahead W m) b 0 lc'.toArray).heap[q]? := by
      intro q hq
      unfold sortWorldK Sort.grow
      simp only
      rw [Array.getElem?_append_left]
      show q < (Sort.putRow id _ _ _ _).heap.size
      rw [Sort.size_putRow]
      exact hq
    have hself : (Go.Proofs.sortWorldK encNd 13 W b 0 m lc'.toArray os).heap[b]? = some (.cells (Sort.putCells id 0 (Sort.flatK encNd 13 lc'.toArray) cur) 56) := by
      rw [hat b hblk]
      unfold Sort.putRowK Sort.putRow Sort.mapBlock
      simp only [Array.getElem?_modify, if_true]
      rw [show (Sort.ahead W m).heap = W.heap from rfl]
      have hh' : W.heap[b]? = some (.cells cur 56) := hh
      rw [hh']
      rfl
    have hps : (Sort.putCells id 0 (Sort.flatK encNd 13 lc'.toArray) cur).size = cur.size := by unfold Sort.putCells; rw [Array.size_mapIdx]
    refine ⟨⟨by rw [flat_length encNd_len], .inr ⟨b, cap, _, by rw [hl], hb, hself, by rw [hl]; exact hc, hm, by rw [hps]; exact hs, ?_⟩⟩, fun q hq hne => ?_, ?_⟩
    · refine List.ext_getElem? fun j => ?_
      by_cases hj : j < lc'.length * 13
      · rw [List.getElem?_take, if_pos hj, flat_flatK lc' j hj]
        have hjc : j < cur.size := by
          rw [hs]
          have : lc'.length * 13 ≤ cap * 13 := Nat.mul_le_mul_right 13 (by rw [hl]; exact hc)
          omega
        unfold Sort.putCells
        rw [Array.getElem?_toList, Array.getElem?_mapIdx, Array.getElem?_eq_getElem hjc]
        simp only [Option.map_some, Nat.zero_le, true_and, Nat.zero_add, Sort.size_flatK, Nat.sub_zero, id]
        rw [if_pos (by simpa using hj)]
      · rw [List.getElem?_take, if_neg hj, List.getElem?_eq_none (by rw [flat_length encNd_len]; omega)]
    · rw [hat q hq]
      unfold Sort.putRowK Sort.putRow Sort.mapBlock
      simp only [Array.getElem?_modify]
      rw [if_neg (fun e => hne e.symm)]
      rfl
    · unfold sortWorldK Sort.grow Sort.putRowK
      simp only [Array.size_append, Sort.size_putRow]
      exact Nat.le_add_right _ _

theorem swoId : Sort.SWO (ltOf cmpId) := by
  refine ⟨fun x => ?_, fun x y z h1 h2 => ?_, fun x y z h1 h2 => ?_⟩
  · unfold ltOf cmpId; simp
  · unfold ltOf cmpId at *
    simp only [decide_eq_true_eq] at *
    split at h1 <;> split at h2 <;> first | omega | (rw [if_pos (by omega)]; omega) | (split at h1 <;> split at h2 <;> omega)
  · unfold ltOf cmpId at *
    simp only [decide_eq_false_iff_not] at *
    split at h1 <;> split at h2 <;> first | omega | (rw [if_neg (by omega)]; split <;> omega)
def sortC (lc : List NdC) : List NdC := (Sort.insertionSort (ltOf cmpId) lc.toArray 0 lc.length).toList
theorem sortC_ok (lc : List NdC) : (sortC lc).Perm lc ∧ (sortC lc).Pairwise fun a b => a.id ≤ b.id := by
  have h := Sort.insertionSort_holds (lt := ltOf cmpId) swoId lc.toArray 0 lc.length (Nat.zero_le _) (by simp)
  obtain ⟨⟨h1, h2, h3⟩, h4⟩ := h
  have hsz : (Sort.insertionSort (ltOf cmpId) lc.toArray 0 lc.length).size = lc.length := by rw [h1]; simp
  unfold sortC
  generalize Sort.insertionSort (ltOf cmpId) lc.toArray 0 lc.length = d at *
  constructor
  · have e1 : d.extract 0 lc.length = d := by rw [← hsz]; simp
    have e2 : lc.toArray.extract 0 lc.length = lc.toArray := by
      simp
    rw [e1, e2] at h3
    exact h3
  · rw [List.pairwise_iff_getElem]
    intro i j hi hj hij
    have hi' : i < d.size := by simpa using hi
    have hj' : j < d.size := by simpa using hj
    have h5 := h4 i j (Nat.zero_le _) hij (by omega)
    rw [getElem!_pos d i hi', getElem!_pos d j hj'] at h5
    simp only [Array.getElem_toList]
    unfold ltOf cmpId at h5
    simp only [decide_eq_false_iff_not] at h5
    split at h5
    · omega
    · omega
def SortPost (base : Nat) (W : World) (v : Value) (lc : List NdC) (e : Ending) (w' : World) : Prop :=
  e = .returned (.tuple #[]) ∧ ∃ lc', NodesOwn base w' v lc' ∧ lc'.Perm lc ∧ (lc'.Pairwise fun a b => a.id ≤ b.id) ∧ (∀ q, q < W.heap.size → v.ownBlock ≠ some q → w'.heap[q]? = W.heap[q]?) ∧ W.heap.size ≤ w'.heap.size ∧ (∀ w0, Grew w0 W → w0.heap.size ≤ base → Grew w0 w')
theorem SortPost.none (base : Nat) (W : World) (v : Value) (h : NodesOwn base W v []) : SortPost base W v [] (.returned (.tuple #[])) W :=
  ⟨rfl, [], h, List.Perm.refl _, List.Pairwise.nil, fun _ _ _ => rfl, Nat.le_refl _, fun _ g _ => g⟩
theorem insNodes_any (base : Nat) (W : World) (v : Value) (lc : List NdC) (h : NodesOwn base W v lc) (hl : lc.length ≤ 1000) :
    Calls Tryz.prog 198 #[v, .int .i64 0, .int .i64 lc.length, .func (.func 119) #[] #[]] W (SortPost base W v lc) := by
  rcases h.form with ⟨rfl, hn⟩ | ⟨b, cap, rfl, hb, hc, hm⟩
  · subst hn
    have HS := Lib.hid (SortPost.none base W _ h)
    clear h
    show Calls Tryz.prog _ #[.slice none 0 0, .int .i64 0, .int .i64 0, .func (.func 119) #[] #[]] W _
    go_enter Tryz.func198, Tryz.ntmps198
    go_wp2
    go_loopg [8] 0 (fun gg s8 wr => s8 = .int .i64 1 ∧ wr = W)
    case atStart => exact ⟨rfl, rfl⟩
    case round =>
      obtain ⟨rfl, rfl⟩ := hrel
      go_wp2
      go_end0
      exact HS.out
  · obtain ⟨hh, hb1, hb2⟩ := own_holdsK h
    have hcon := AnyQ.insertionSortCmpFunc Tryz.insNode 13 Tryz.isAgg56 Tryz.sizeOf56 encNd encNd_len encNd_one cmpId 119 #[] b 0 cap 0 lc.length lc.toArray W enters119 (fun m os dk _ x y => cmp_any x y _) hh hb2 (Nat.zero_le _) (by simp) (by simp; omega)
    have hcon2 : Calls Tryz.prog 198 #[.slice (some ⟨b, 0, none⟩) lc.length cap, .int .i64 0, .int .i64 lc.length, .func (.func 119) #[] #[]] W _ := hcon
    refine hcon2.mono fun e w' ⟨he, n, os, hw⟩ => ?_
    obtain ⟨p1, p2⟩ := sortC_ok lc
    have hw2 : w' = sortWorldK encNd 13 W b 0 n (sortC lc).toArray os := hw
    obtain ⟨q1, q2, q3⟩ := own_ofSort (n := lc.length) (cap := cap) (m := n) (os := os) h p1.length_eq
    rw [← hw2] at q1 q2 q3
    refine ⟨he, sortC lc, q1, p1, p2, fun q hq hne => q2 q hq fun e => hne (by rw [e]; rfl), q3, fun w0 g hb0 => ?_⟩
    rw [hw2]
    unfold sortWorldK Sort.putRowK
    exact grewOs (grewRow (grewAhead g _) (by omega)) _

theorem stableNodes_any (base : Nat) (W : World) (v : Value) (lc : List NdC) (h : NodesOwn base W v lc) (hl : lc.length ≤ 19) :
    Calls Tryz.prog 164 #[v, .int .i64 lc.length, .func (.func 119) #[] #[]] W (SortPost base W v lc) := by
  have HI := Lib.hid (insNodes_any base W v lc h (by omega))
  obtain ⟨a, cap, rfl⟩ := (OwnAt.rows h encNd_len).len
  clear h
  have h19 : (lc.length : Int) ≤ 19 := by omega
  generalize lc.length = ln at *
  go_enter Tryz.func164, Tryz.ntmps164
  go_wp2
  go_loopg [7, 8] 0 (fun gg s7 s8 wr => s7 = .int .i64 0 ∧ s8 = .int .i64 20 ∧ wr = W)
  case atStart => exact ⟨rfl, rfl, rfl⟩
  case round =>
    obtain ⟨rfl, rfl, rfl⟩ := hrel
    go_wp2_with (go_at_call 198; refine HI.out.mono ?_; rintro e w1 ⟨rfl, hp⟩; (have HP := Lib.hid hp); clear hp)
    go_loopg [6] 0 (fun gg s6 wr => s6 = .int .i64 20 ∧ wr = w1)
    case atStart => exact ⟨rfl, rfl⟩
    case round =>
      obtain ⟨rfl, rfl⟩ := hrel
      go_wp2
      go_end0
      exact ⟨rfl, HP.out⟩
theorem sortNodes_any (base : Nat) (W : World) (v : Value) (lc : List NdC) (h : NodesOwn base W v lc) (hl : lc.length ≤ 19) :
    Calls Tryz.prog 118 #[v, .func (.func 119) #[] #[]] W (SortPost base W v lc) := by
  have HI := Lib.hid (stableNodes_any base W v lc h hl)
  have hm := (OwnAt.rows h encNd_len)
  obtain ⟨a, cap, rfl⟩ := (OwnAt.rows h encNd_len).len
  clear h hm
  go_enter Tryz.func118, Tryz.ntmps118
  go_wp2_with (go_at_call 164; refine HI.out.mono ?_; rintro e w1 ⟨rfl, hp⟩; (have HP := Lib.hid hp); clear hp)
  go_end0
  exact ⟨rfl, HP.out⟩

def Rel {α β : Type} (R : α → β → Prop) : List α → List β → Prop
  | [], [] => True
  | a :: xs, b :: ys => R a b ∧ Rel R xs ys
  | _, _ => False
theorem Rel.len {α β : Type} {R : α → β → Prop} : ∀ {xs : List α} {ys : List β}, Rel R xs ys → xs.length = ys.length
  | [], [], _ => rfl
  | a :: xs, b :: ys, h => by rw [List.length_cons, List.length_cons, Rel.len h.2]
  | [], _ :: _, h => h.elim
  | _ :: _, [], h => h.elim
theorem Rel.get {α β : Type} {R : α → β → Prop} : ∀ {xs : List α} {ys : List β}, Rel R xs ys → ∀ (i : Nat) (a : α) (b : β), xs[i]? = some a → ys[i]? = some b → R a b
  | [], [], _, i, a, b, h1, _ => by simp at h1
  | a :: xs, b :: ys, h, 0, x, y, h1, h2 => by simp at h1 h2; subst h1 h2; exact h.1
  | a :: xs, b :: ys, h, i + 1, x, y, h1, h2 => Rel.get h.2 i x y (by simpa using h1) (by simpa using h2)
  | [], _ :: _, h, _, _, _, _, _ => h.elim
  | _ :: _, [], h, _, _, _, _, _ => h.elim
theorem Rel.snoc {α β : Type} {R : α → β → Prop} : ∀ {xs : List α} {ys : List β}, Rel R xs ys → ∀ {a : α} {b : β}, R a b → Rel R (xs ++ [a]) (ys ++ [b])
  | [], [], _, a, b, h => ⟨h, trivial⟩
  | a :: xs, b :: ys, h, x, y, h2 => ⟨h.1, Rel.snoc h.2 h2⟩
  | [], _ :: _, h, _, _, _ => h.elim
  | _ :: _, [], h, _, _, _ => h.elim
theorem Rel.mono {α β : Type} {R S : α → β → Prop} (hm : ∀ a b, R a b → S a b) : ∀ {xs : List α} {ys : List β}, Rel R xs ys → Rel S xs ys
  | [], [], _ => trivial
  | a :: xs, b :: ys, h => ⟨hm a b h.1, Rel.mono hm h.2⟩
  | [], _ :: _, h => h.elim
  | _ :: _, [], h => h.elim
theorem Rel.perm {α β : Type} {R : α → β → Prop} {xs' xs : List α} (hp : xs'.Perm xs) : ∀ {ys : List β}, Rel R xs ys → ∃ ys', Rel R xs' ys' ∧ ys'.Perm ys := by
  induction hp with
  | nil => intro ys h; cases ys with
    | nil => exact ⟨[], trivial, List.Perm.refl _⟩
    | cons => exact h.elim
  | cons x _ ih => intro ys h; cases ys with
    | nil => exact h.elim
    | cons b ys =>
      obtain ⟨ys', h1, h2⟩ := ih h.2
      exact ⟨b :: ys', ⟨h.1, h1⟩, h2.cons b⟩
  | swap x y t => intro ys h; cases ys with
    | nil => exact h.elim
    | cons b ys => cases ys with
      | nil => exact h.2.elim
      | cons c ys => exact ⟨c :: b :: ys, ⟨h.2.1, h.1, h.2.2⟩, List.Perm.swap ..⟩
  | trans _ _ ih1 ih2 =>
    intro ys h
    obtain ⟨b2, h1, h2⟩ := ih2 h
    obtain ⟨b1, h3, h4⟩ := ih1 h1
    exact ⟨b1, h3, h4.trans h2⟩
def NodesIn (base : Nat) (w : World) (lc : List NdC) (l : List Gr.Nd) : Prop := Rel (fun c n => NodeIs w c n ∧ OwnsNd base w c n) lc l
theorem NodesIn.at {base : Nat} {w : World} {v : Value} {lc : List NdC} {l : List Gr.Nd} (h : NodesIn base w lc l) (ho : NodesOwn base w v lc) : NodesAt w v l :=
  ⟨lc, OwnAt.rows ho encNd_len, Rel.len h, fun i c n h1 h2 => (Rel.get h i c n h1 h2).1⟩
theorem OwnsNd.to2 {base : Nat} {w w' : World} {c : NdC} {n : Gr.Nd} (o : OwnsNd base w c n) (hb : ∀ (q : Nat) (cs : Array Value) (t : TypeId), w.heap[q]? = some (.cells cs t) → base ≤ q → t ≠ 56 → w'.heap[q]? = w.heap[q]?) : OwnsNd base w' c n := by
  refine ⟨OwnAt.same o.1 fun b h => ?_, OwnAt.same o.2 fun b h => ?_⟩
  · obtain ⟨h1, cs, h2⟩ := OwnAt.block o.1 h
    exact hb b cs _ h2 h1 (by decide)
  · obtain ⟨h1, cs, h2⟩ := OwnAt.block o.2 h
    exact hb b cs _ h2 h1 (by decide)
theorem NodesIn.keep {base : Nat} {w w' : World} {v : Value} {lc lv : List NdC} {l : List Gr.Nd} (h : NodesIn base w lc l) (ho : NodesOwn base w v lv) (hk : ∀ q, q < w.heap.size → v.ownBlock ≠ some q → w'.heap[q]? = w.heap[q]?) : NodesIn base w' lc l :=
  Rel.mono (fun c n ⟨h1, h2⟩ => by
    have h3 : OwnsNd base w' c n := h2.to2 fun q cs t hq hb hne => hk q (heap_lt hq) (OwnAt.other ho hq hne)
    exact ⟨h3.is h1, h3⟩) h
theorem NodesIn.grew {base : Nat} {w w' : World} {lc : List NdC} {l : List Gr.Nd} (h : NodesIn base w lc l) (g : Grew w w') : NodesIn base w' lc l :=
  Rel.mono (fun c n ⟨h1, h2⟩ => ⟨h1.grew g, h2.grew g⟩) h
theorem nd_at (W : World) (x : NdC) (t : TypeId) (b : Nat) {c : Array Value} (hc : c = (encNd x).toArray) (hb : b = W.heap.size) : ∀ j u, (([x] : List NdC).flatMap encNd)[j]? = some u → (W.alloc (.cells c t)).cell? ⟨b, j, none⟩ = some u := by
  subst hc
  intro j u hu
  rw [new_cells W _ t b hb j]
  simpa using hu
def NormGives (l : List Gr.Nd) (w : World) (e : Ending) (w' : World) : Prop := ∃ v lc l', e = .returned v ∧ NodesOwn w.heap.size w' v lc ∧ NodesIn w.heap.size w' lc l' ∧ l'.Perm l ∧ (l'.Pairwise fun a b => a.id ≤ b.id) ∧ Grew w w'
theorem norm_made {w W w' : World} {v : Value} {lc : List NdC} {l : List Gr.Nd} {e : Ending} (h : SortPost w.heap.size W v lc e w') (hn : NodesIn w.heap.size W lc l) (ho : NodesOwn w.heap.size W v lc) (g : Grew w W) : NormGives l w (.returned v) w' := by
  obtain ⟨-, lc', h1, h2, h3, h4, h5, h6⟩ := h
  have hk := NodesIn.keep hn ho h4
  obtain ⟨l', h7, h8⟩ := Rel.perm h2 hk
  refine ⟨v, lc', l', rfl, h1, h7, h8, ?_, h6 w g (Nat.le_refl _)⟩
  rw [List.pairwise_iff_getElem] at h3 ⊢
  intro i j hi hj hij
  have hl := Rel.len h7
  have := h3 i j (by omega) (by omega) hij
  have e1 := (Rel.get h7 i _ _ (List.getElem?_eq_getElem (by omega)) (List.getElem?_eq_getElem hi)).1.id
  have e2 := (Rel.get h7 j _ _ (List.getElem?_eq_getElem (by omega)) (List.getElem?_eq_getElem hj)).1.id
  rw [e1, e2]
  exact this
theorem norm_round {w wr W4 W W' : World} {v v' : Value} {lc : List NdC} {c : NdC} {l : List Gr.Nd} {y : Gr.Nd} {base : Nat} (gw : Grew w wr) (ho : NodesOwn w.heap.size wr v lc) (hn : NodesIn w.heap.size wr lc l) (g1 : Grew wr W) (h9 : NodeIs W4 c y) (o9 : OwnsNd base W4 c y) (hb : w.heap.size ≤ base) (g2 : Grew W4 W)
    (hA : Appended w 56 13 encNd W v (lc ++ [c]) v' W') : Grew w W' ∧ NodesOwn w.heap.size W' v' (lc ++ [c]) ∧ NodesIn w.heap.size W' (lc ++ [c]) (l ++ [y]) := by
  obtain ⟨a1, a2, a3, a4, a5⟩ := hA
  have ho' : NodesOwn w.heap.size W v lc := OwnAt.grew ho g1
  have h5 : OwnsNd w.heap.size W' c y := ((o9.grew g2).low hb).to2 fun q cs t hq _ hne => a4 q (heap_lt hq) (OwnAt.other ho' hq hne)
  exact ⟨a1, a2, Rel.snoc ((hn.grew g1).keep ho' a4) ⟨h5.is h9, h5⟩⟩
theorem norm_any (v : Value) (l : List Gr.Nd) (w : World) (hv : NodesAt w v l) (hs : Small l) (hl : l.length ≤ 19) : Calls Tryz.prog 58 #[v] w (NormGives l w) := by
  have HV := Lib.hid hv
  have HS := Lib.hid hs
  obtain ⟨a, cap, rfl, hm, -⟩ := hv.openC
  clear hv hs
  go_enter Tryz.func58, Tryz.ntmps58
  go_wp2
  go_loopg [3, 8] l.length (fun gg s3 s8 wr => ∃ (k : Nat) (lc : List NdC) (vk : Value), k ≤ l.length ∧ l.length - k ≤ gg ∧ s8 = .int .i64 k ∧ vk = s3 ∧ Hid (Grew w wr) ∧ Hid (NodesOwn w.heap.size wr vk lc) ∧ Hid (NodesIn w.heap.size wr lc (l.take k)))
  case atStart => exact ⟨0, [], _, Nat.zero_le _, by omega, rfl, rfl, Lib.hid (by repeat (first | with_reducible exact Grew.refl _ | apply Grew.more | apply Grew.alloc | apply Grew.drew | apply Grew.drewN)), Lib.hid (OwnAt.nil _), Lib.hid trivial⟩
  case round =>
    obtain ⟨k, lc, vk, hk, hgg, rfl, rfl, HG, HO, HN⟩ := hrel
    by_cases hlt : k < l.length
    · obtain ⟨a', cap', e, -, hx⟩ := (HV.out.grew HG.out).openC
      cases e
      obtain ⟨b, off, c, rfl, hb, hn, c0, c1, c2, c3, c4, c5, c6, c7, c8, c9, c10, c11, c12⟩ := hx k hlt
      obtain ⟨s1, s2⟩ := HS.out _ (List.getElem_mem hlt)
      have htk : l.take (k + 1) = l.take k ++ [l[k]] := List.take_succ_eq_append_getElem hlt
      have HT := Lib.hid htk
      have hlc := Rel.len HN.out
      rw [List.length_take, Nat.min_eq_left hk] at hlc
      have HLC := Lib.hid hlc
      clear hx htk hlc
      generalize hy : l[k] = y at *
      have HNc := Lib.hid hn
      have HOW := Lib.hid fun W (g : Grew wr W) => own_any c y W (HNc.out.grew g) s1 s2
      obtain ⟨cid, kind, af, cf, ap, cp, par, r0, r1, r2, r3, r4, r5, r6, r7, rfl⟩ := HNc.out.lit
      simp only at c0 c1 c2 c3 c4 c5 c6 c7 c8 c9 c10 c11 c12
      clear hy hn
      go_wp2_with (first
        | (go_at_call 117; refine (HOW.out _ (by repeat (first | with_reducible exact Grew.refl _ | apply Grew.more | apply Grew.alloc | apply Grew.drew | apply Grew.drewN))).mono ?_; rintro e w1 ⟨c9, rfl, hn9, ho9, R4, n4, rfl⟩; obtain ⟨cid9, kind9, af9, cf9, ap9, cp9, par9, s0, s1, s2, s3, s4, s5, s6, s7, rfl⟩ := hn9.lit; (have HN9 := Lib.hid hn9); (have HO9 := Lib.hid ho9); clear hn9 ho9)
        | (at_builtin; refine wpList_ownK (w0 := w) rfl (.tmp 12) (.tmp 15) 22 _ _ _ _ [⟨cid9, kind9, af9, y.frm.length, cf9, ap9, y.prog.length, cp9, par9, s0, s1, s2, s3, s4, s5, s6, s7⟩] rfl Tryz.underlying22 infoNode rfl (by decide) encNd_len encNd_one rfl (OwnAt.grew HO.out (by repeat (first | with_reducible exact Grew.refl _ | apply Grew.more | apply Grew.alloc | apply Grew.drew | apply Grew.drewN))) (HG.out.trans (by repeat (first | with_reducible exact Grew.refl _ | apply Grew.more | apply Grew.alloc | apply Grew.drew | apply Grew.drewN))) rfl (nd_at _ _ _ _ rfl (by simp [go_sem])) (by rw [HLC.out]; simp; omega) (by decide) (by simp) ?_; intro v5 W5 hA; (have HA := Lib.hid hA); clear hA))
      have hr := norm_round HG.out HO.out HN.out (by repeat (first | with_reducible exact Grew.refl _ | apply Grew.more | apply Grew.alloc | apply Grew.drew | apply Grew.drewN)) HN9.out HO9.out (by have := HG.out.below.size; simp [World.size_alloc]; omega) (by repeat (first | with_reducible exact Grew.refl _ | apply Grew.more | apply Grew.alloc | apply Grew.drew | apply Grew.drewN)) HA.out
      rw [← HT.out] at hr
      obtain ⟨q1, q2, q3⟩ := hr
      have Q1 := Lib.hid q1
      have Q2 := Lib.hid q2
      have Q3 := Lib.hid q3
      clear q1 q2 q3
      go_roundg (l.length - (k + 1))
      case measure => omega
      case rel => exact ⟨k + 1, _, _, by omega, by omega, by go_num, rfl, Q1, Q2, Q3⟩
    · obtain rfl : k = l.length := by omega
      have hn := HN.out
      rw [List.take_length] at hn
      have hlc := Rel.len hn
      have HSN := Lib.hid (sortNodes_any w.heap.size wr vk lc HO.out (by omega))
      have HN2 := Lib.hid hn
      obtain ⟨a3, cap3, rfl⟩ := (OwnAt.rows HO.out encNd_len).len
      clear hn hlc
      go_wp2_with (go_at_call 118; refine HSN.out.mono ?_; rintro e w1 hp; (have he := hp.1); subst he; (have HP := Lib.hid hp); clear hp)
      go_ret
      exact norm_made HP.out HN2.out HO.out HG.out

theorem enters87 : ∀ args w, (callFunc 87 args).run Tryz.prog w = .ok (.enter 87 args) w := enters_of Tryz.func87 (by kernel_rfl) rfl
theorem enters88 : ∀ args w, (callFunc 88 args).run Tryz.prog w = .ok (.enter 88 args) w := enters_of Tryz.func88 (by kernel_rfl) rfl
theorem sort1_pred (out : List Int) (v : Value) (B : Nat) (w : World) (hv : IntsAt w v out) (hB : Pre B w) (hc : w.cell? ⟨B, 0, none⟩ = some v) : PredI 87 #[.pointer (some ⟨B, 0, none⟩)] (fun x => decide (x ∈ out)) w := by
  intro W x g
  obtain ⟨R, N, rfl⟩ := g
  have HC := Lib.hid fun W (g : Grew w W) => containsI_any v out x W (hv.grew g)
  obtain ⟨a, cap, rfl⟩ := hv.len
  clear hv
  show Calls Tryz.prog 87 #[.int .i64 x, .pointer (some ⟨B, 0, none⟩)] _ (Gives (.bool (decide (x ∈ out))) _)
  generalize decide (x ∈ out) = r at *
  go_enter Tryz.func87, Tryz.ntmps87
  go_wp2_with (go_at_call 33; refine (HC.out _ (by repeat (first | with_reducible exact Grew.refl _ | apply Grew.more | apply Grew.alloc | apply Grew.drew | apply Grew.drewN))).mono ?_; rintro e w1 ⟨rfl, hw1⟩; obtain rfl := hw1)
  go_ret
  refine ⟨rfl, ?_⟩
  repeat (first | with_reducible exact Grew.refl _ | apply Grew.more | apply Grew.alloc | apply Grew.drew | apply Grew.drewN)
theorem sort2_pred (out : List Int) (v : Value) (B C : Nat) (w : World) (hv : IntsAt w v out) (hB : Pre B w) (hc : w.cell? ⟨B, 0, none⟩ = some v) (hC : Pre C w) (hcC : w.cell? ⟨C, 0, none⟩ = some (.func (.func 87) #[] #[.pointer (some ⟨B, 0, none⟩)])) : PredI 88 #[.pointer (some ⟨C, 0, none⟩)] (fun x => !decide (x ∈ out)) w := by
  intro W x g
  have HS := Lib.hid (sort1_pred out v B w hv hB hc)
  obtain ⟨R, N, rfl⟩ := g
  have eg := enters87
  clear hv hc hB
  show Calls Tryz.prog 88 #[.int .i64 x, .pointer (some ⟨C, 0, none⟩)] _ (Gives (.bool (!decide (x ∈ out))) _)
  generalize hq : (fun x => decide (x ∈ out)) = p at *
  have hp : decide (x ∈ out) = p x := by rw [← hq]
  rw [hp]
  clear hq hp
  generalize hr : p x = r
  have HR := Lib.hid hr
  clear hr
  go_enter Tryz.func88, Tryz.ntmps88
  go_wp2_with (go_at_fn 87; refine (HS.out _ x (by repeat (first | with_reducible exact Grew.refl _ | apply Grew.more | apply Grew.alloc | apply Grew.drew | apply Grew.drewN))).mono ?_; rintro e w1 ⟨rfl, R3, n3, rfl⟩; rw [HR.out])
  go_ret
  refine ⟨rfl, ?_⟩
  repeat (first | with_reducible exact Grew.refl _ | apply Grew.more | apply Grew.alloc | apply Grew.drew | apply Grew.drewN)

structure SortAt (w w1 : World) (B C : Nat) (W : World) (v : Value) (out : List Int) : Prop where
  keep : Keep B w1 W
  g : Grew w W
  own : OwnAt w.heap.size 3 1 encN W v out
  hi : ∀ q, v.ownBlock = some q → w1.heap.size ≤ q
  b : W.heap[B]? = some (.cells #[v] 47)
  c : W.heap[C]? = some (.cells #[.func (.func 87) #[] #[.pointer (some ⟨B, 0, none⟩)]] 138)
  bl : w.heap.size ≤ B
theorem SortAt.grew {w w1 : World} {B C : Nat} {W W' : World} {v : Value} {out : List Int} (h : SortAt w w1 B C W v out) (g : Grew W W') : SortAt w w1 B C W' v out :=
  ⟨h.keep.trans (Keep.ofGrew g), h.g.trans g, h.own.grew g, h.hi, grew_heap g h.b, grew_heap g h.c, h.bl⟩
theorem SortAt.push {w w1 : World} {B C : Nat} {W W' : World} {v v' : Value} {out : List Int} {x : Int} (h : SortAt w w1 B C W v out) (hA : Appended w 3 1 encN W v (out ++ [x]) v' W') :
    W'.heap[B]? = some (.cells #[v] 47) ∧ SortAt w w1 B C (W'.setCell ⟨B, 0, none⟩ v') v' (out ++ [x]) := by
  obtain ⟨a1, a2, a3, a4, a5⟩ := hA
  have hB : W'.heap[B]? = some (.cells #[v] 47) := by rw [a4 B (heap_lt h.b) (OwnAt.other h.own h.b (by decide))]; exact h.b
  have hC : W'.heap[C]? = some (.cells #[.func (.func 87) #[] #[.pointer (some ⟨B, 0, none⟩)]] 138) := by rw [a4 C (heap_lt h.c) (OwnAt.other h.own h.c (by decide))]; exact h.c
  have hne : B ≠ C := fun e => by
    rw [e, hC] at hB
    cases hB
  have hk : Keep B w1 W' := ⟨Nat.le_trans h.keep.1 a3, fun q hq hn => (a4 q (Nat.lt_of_lt_of_le hq h.keep.1) fun e => by have := h.hi q e; omega).trans (h.keep.2 q hq hn)⟩
  refine ⟨hB, ⟨hk.trans (Keep.set _), a1.set h.bl _, OwnAt.same a2 fun b hb => set_other fun e => ?_, fun q hq => ?_, by rw [set_self hB]; rfl, by rw [set_other hne]; exact hC, h.bl⟩⟩
  · subst e
    exact OwnAt.other a2 hB (by decide) hb
  · rcases a5 q hq with h1 | h1
    · exact h.hi q h1
    · exact Nat.le_trans h.keep.1 h1
theorem SortAt.nodes {w w1 : World} {B C base : Nat} {W : World} {v vn : Value} {out : List Int} {lc : List NdC} {l : List Gr.Nd} (h : SortAt w w1 B C W v out) (ho : NodesOwn base w1 vn lc) (hn : NodesIn base w1 lc l) (hB : ∃ c, w1.heap[B]? = some (.cells c 47)) : NodesAt W vn l := by
  obtain ⟨cB, hB⟩ := hB
  have hk := h.keep
  have hne : ∀ (q : Nat) (cs : Array Value) (t : TypeId), w1.heap[q]? = some (.cells cs t) → t ≠ 47 → q ≠ B := fun q cs t hq ht e => by
    subst e
    rw [hB] at hq
    cases hq
    exact ht rfl
  have ho2 : NodesOwn base W vn lc := OwnAt.same ho fun b hb => by
    obtain ⟨_, cs, h2⟩ := OwnAt.block ho hb
    exact hk.2 b (heap_lt h2) (hne b cs _ h2 (by decide))
  have hn2 : NodesIn base W lc l := Rel.mono (fun c n ⟨h1, h2⟩ => by
    have h3 : OwnsNd base W c n := by
      refine ⟨OwnAt.same h2.1 fun b hb => ?_, OwnAt.same h2.2 fun b hb => ?_⟩
      · obtain ⟨_, cs, h4⟩ := OwnAt.block h2.1 hb
        exact hk.2 b (heap_lt h4) (hne b cs _ h4 (by decide))
      · obtain ⟨_, cs, h4⟩ := OwnAt.block h2.2 hb
        exact hk.2 b (heap_lt h4) (hne b cs _ h4 (by decide))
    exact ⟨h3.is h1, h3⟩) hn
  exact hn2.at ho2
def standP (out : List Int) (n : Gr.Nd) : Bool := !out.contains n.id && n.frm.all fun f => out.contains f
theorem standP_eq (out : List Int) (n : Gr.Nd) : standP out n = (!decide (n.id ∈ out) && !n.frm.any fun f => !decide (f ∈ out)) := by
  unfold standP
  rw [List.not_any_eq_all_not]
  simp
theorem standP_next (l : List Gr.Nd) (out : List Int) : Gr.nextS l out = (l.find? (standP out)).map (·.id) := rfl
def sliceLen : Value → Nat
  | .slice _ n _ => n
  | _ => 0

section
variable {α : Type} [Inhabited α] {enc : α → List Value} {k : Nat} {e : TypeId}
theorem flat_flatKG (henc : ∀ x, (enc x).length = k) (hk : 0 < k) (lc : List α) (j : Nat) (hj : j < lc.length * k) : (lc.flatMap enc)[j]? = some ((Sort.flatK enc k lc.toArray)[j]!) := by
  have hi : j / k < lc.length := Nat.div_lt_of_lt_mul (by rw [Nat.mul_comm]; exact hj)
  rw [Sort.get_flatK enc k lc.toArray j (by simpa using hj)]
  have e1 : lc.toArray[j / k]! = lc[j / k] := by rw [getElem!_pos lc.toArray (j / k) (by simpa using hi)]; simp
  rw [e1]
  have hm : j % k < (enc lc[j / k]).length := by rw [henc]; exact Nat.mod_lt _ hk
  have h2 : (enc lc[j / k])[j % k]? = some ((enc lc[j / k])[j % k]!) := by rw [List.getElem?_eq_getElem hm, getElem!_pos (enc lc[j / k]) (j % k) hm]
  have h3 := flat_get henc lc (j / k) lc[j / k] (List.getElem?_eq_getElem hi) (j % k) _ h2
  rw [show j / k * k + j % k = j from by rw [Nat.mul_comm]; exact Nat.div_add_mod j k] at h3
  exact h3
theorem own_holdsKG (henc : ∀ x, (enc x).length = k) (hk : 0 < k) {base : Nat} {W : World} {b cap n : Nat} {lc : List α} (h : OwnAt base e k enc W (.slice (some ⟨b, 0, none⟩) n cap) lc) : Sort.HoldsK enc k W b 0 lc.toArray ∧ base ≤ b ∧ b < W.heap.size := by
  obtain ⟨h1, h2⟩ := h
  rcases h2 with ⟨h, _⟩ | ⟨g, cap', cur, hv, hb, hh, hc, hm, hs, ht⟩
  · cases h
  · cases hv
    refine ⟨fun j hj => ?_, hb, (Array.getElem?_eq_some_iff.1 hh).1⟩
    rw [Sort.size_flatK] at hj
    have hj' : j < lc.length * k := by simpa using hj
    rw [Nat.zero_add, cell_of_heap hh, frozen_of_heap hh]
    refine ⟨?_, rfl⟩
    have h3 := flat_flatKG henc hk lc j hj'
    rw [← ht, List.getElem?_take, if_pos hj'] at h3
    simpa using h3
theorem own_ofSortG (henc : ∀ x, (enc x).length = k) (hk : 0 < k) {base : Nat} {W : World} {b cap n m : Nat} {lc lc' : List α} {os : Array Obj} (h : OwnAt base e k enc W (.slice (some ⟨b, 0, none⟩) n cap) lc) (hl : lc'.length = lc.length) :
    OwnAt base e k enc (Go.Proofs.sortWorldK enc k W b 0 m lc'.toArray os) (.slice (some ⟨b, 0, none⟩) n cap) lc' ∧ (∀ q, q < W.heap.size → q ≠ b → (Go.Proofs.sortWorldK enc k W b 0 m lc'.toArray os).heap[q]? = W.heap[q]?) ∧ W.heap.size ≤ (Go.Proofs.sortWorldK enc k W b 0 m lc'.toArray os).heap.size := by
  obtain ⟨h1, h2⟩ := h
  rcases h2 with ⟨h, _⟩ | ⟨g, cap', cur, hv, hb, hh, hc, hm, hs, ht⟩
  · cases h
  · cases hv
    have hblk : b < W.heap.size := (Array.getElem?_eq_some_iff.1 hh).1
    have hat : ∀ q, q < W.heap.size → (Go.Proofs.sortWorldK enc k W b 0 m lc'.toArray os).heap[q]? = (Sort.putRowK enc k (Sort.ahead W m) b 0 lc'.toArray).heap[q]? := by
      intro q hq
      unfold sortWorldK Sort.grow
      simp only
      rw [Array.getElem?_append_left]
      show q < (Sort.putRow id _ _ _ _).heap.size
      rw [Sort.size_putRow]
      exact hq
    have hself : (Go.Proofs.sortWorldK enc k W b 0 m lc'.toArray os).heap[b]? = some (.cells (Sort.putCells id 0 (Sort.flatK enc k lc'.toArray) cur) e) := by
      rw [hat b hblk]
      unfold Sort.putRowK Sort.putRow Sort.mapBlock
      simp only [Array.getElem?_modify, if_true]
      rw [show (Sort.ahead W m).heap = W.heap from rfl]
      have hh' : W.heap[b]? = some (.cells cur e) := hh
      rw [hh']
      rfl
    have hps : (Sort.putCells id 0 (Sort.flatK enc k lc'.toArray) cur).size = cur.size := by unfold Sort.putCells; rw [Array.size_mapIdx]
    refine ⟨⟨by rw [flat_length henc], .inr ⟨b, cap, _, by rw [hl], hb, hself, by rw [hl]; exact hc, hm, by rw [hps]; exact hs, ?_⟩⟩, fun q hq hne => ?_, ?_⟩
    · refine List.ext_getElem? fun j => ?_
      by_cases hj : j < lc'.length * k
      · rw [List.getElem?_take, if_pos hj, flat_flatKG henc hk lc' j hj]
        have hjc : j < cur.size := by
          rw [hs]
          exact Nat.lt_of_lt_of_le hj (Nat.mul_le_mul_right k (by rw [hl]; exact hc))
        unfold Sort.putCells
        rw [Array.getElem?_toList, Array.getElem?_mapIdx, Array.getElem?_eq_getElem hjc]
        simp only [Option.map_some, Nat.zero_le, true_and, Nat.zero_add, Sort.size_flatK, Nat.sub_zero, id]
        rw [if_pos (by simpa using hj)]
      · rw [List.getElem?_take, if_neg hj, List.getElem?_eq_none (by rw [flat_length henc]; omega)]
    · rw [hat q hq]
      unfold Sort.putRowK Sort.putRow Sort.mapBlock
      simp only [Array.getElem?_modify]
      rw [if_neg (fun e => hne e.symm)]
      rfl
    · unfold sortWorldK Sort.grow Sort.putRowK
      simp only [Array.size_append, Sort.size_putRow]
      exact Nat.le_add_right _ _
end

def firstScope : Code → Option Code
  | .scope c => some c
  | .seq a b => match firstScope a with
    | some c => some c
    | none => firstScope b
  | .block _ c => firstScope c
  | .loop c => firstScope c
  | _ => none
def afterSkip : Option Code → Code
  | some (.seq .skip r) => r
  | _ => .skip
noncomputable def tail76 : Code := afterSkip ((Tryz.f34.body.bind firstScope).bind fun c => findLabel c 0)
theorem wp_scope_jumps1' {P : Program} {a : Act} {w : World} {Q : Exit → Act → World → Prop} {c rest : Code} (l : Nat) (J : Act → World → Prop) (μ : Act → World → Nat) (hf : findLabel c l = some (.seq .skip rest))
    (pass : ∀ a w, J a w → rest.wp P (Exit.jump l (fun a' w' => J a' w' ∧ μ a' w' < μ a w) Q) a w)
    (first : (∀ a w, J a w → rest.wp P (Exit.jump l J Q) a w) → c.wp P (Exit.jump l J Q) a w) : (Code.scope c).wp P Q a w :=
  wp_scope_jumps l J μ hf (first fun a w h => Code.wp_mono (fun e a' w' hq => by
    cases e with
    | goto l' => exact ⟨hq.1, hq.2.1⟩
    | _ => exact hq) (pass a w h)) (fun a w h => wp_skip_seq (pass a w h))
def frame76 (vn : Value) (B C : Nat) (u : Nat → Value) : Act := { tmps := #[vn, u 1, .slice none 0 0, .pointer (some ⟨B, 0, none⟩), .pointer (some ⟨C, 0, none⟩), u 5, u 6, u 7, u 8, u 9, u 10, u 11, u 12, u 13, u 14, u 15, u 16, u 17, u 18, u 19, u 20, u 21, u 22, u 23, u 24, u 25, u 26, u 27, u 28, u 29, u 30, u 31, u 32, u 33, u 34], defers := [] }
theorem arr35 (t : Array Value) (h : t.size = 35) : t = #[t.getD 0 undef, t.getD 1 undef, t.getD 2 undef, t.getD 3 undef, t.getD 4 undef, t.getD 5 undef, t.getD 6 undef, t.getD 7 undef, t.getD 8 undef, t.getD 9 undef, t.getD 10 undef, t.getD 11 undef, t.getD 12 undef, t.getD 13 undef, t.getD 14 undef, t.getD 15 undef, t.getD 16 undef, t.getD 17 undef, t.getD 18 undef, t.getD 19 undef, t.getD 20 undef, t.getD 21 undef, t.getD 22 undef, t.getD 23 undef, t.getD 24 undef, t.getD 25 undef, t.getD 26 undef, t.getD 27 undef, t.getD 28 undef, t.getD 29 undef, t.getD 30 undef, t.getD 31 undef, t.getD 32 undef, t.getD 33 undef, t.getD 34 undef] := by
  have e : t = (Array.range 35).map fun i => t.getD i undef := by
    refine Array.ext (by simp [h]) fun i h1 h2 => ?_
    simp only [Array.getElem_map, Array.getElem_range]
    rw [Array.getD_eq_getD_getElem?, Array.getElem?_eq_getElem h1]
    rfl
  have e2 : Array.range 35 = #[0, 1, 2, 3, 4, 5, 6, 7, 8, 9, 10, 11, 12, 13, 14, 15, 16, 17, 18, 19, 20, 21, 22, 23, 24, 25, 26, 27, 28, 29, 30, 31, 32, 33, 34] := by decide +kernel
  rw [e2] at e
  exact e.trans (by simp)
structure Frame76 (vn : Value) (B C : Nat) (a : Act) : Prop where
  n : a.tmps.size = 35
  d : a.defers = []
  v : a.tmps[0]? = some vn
  r : a.tmps[2]? = some (.slice none 0 0)
  b : a.tmps[3]? = some (.pointer (some ⟨B, 0, none⟩))
  c : a.tmps[4]? = some (.pointer (some ⟨C, 0, none⟩))
theorem Frame76.get {vn : Value} {B C : Nat} {a : Act} (h : Frame76 vn B C a) : ∃ u, a = frame76 vn B C u := by
  obtain ⟨t, d⟩ := a
  obtain ⟨h1, h2, h3, h4, h5, h6⟩ := h
  simp only at h1 h2 h3 h4 h5 h6
  refine ⟨fun i => t.getD i undef, ?_⟩
  have e := arr35 t h1
  have g : ∀ i v, t[i]? = some v → t.getD i undef = v := fun i v h => by rw [Array.getD_eq_getD_getElem?, h]; rfl
  rw [g 0 _ h3, g 2 _ h4, g 3 _ h5, g 4 _ h6] at e
  unfold frame76
  rw [← e, h2]
structure NormAt (w w1 : World) (B base : Nat) (vn : Value) (lc : List NdC) (l' : List Gr.Nd) : Prop where
  own : NodesOwn base w1 vn lc
  ins : NodesIn base w1 lc l'
  b : ∃ c, w1.heap[B]? = some (.cells c 47)
  small : Small l'
  l19 : l'.length ≤ 19
def Jump76 (w : World) (B C : Nat) (l : List Gr.Nd) (a' : Act) (w' : World) : Prop := ∃ (w1 : World) (base : Nat) (vn vo : Value) (lc : List NdC) (l' : List Gr.Nd) (out : List Int),
  NormAt w w1 B base vn lc l' ∧ l'.Perm l ∧ Frame76 vn B C a' ∧ SortAt w w1 B C w' vo out ∧ Gr.Ord l' out ∧ Gr.sortG l' (l'.length + 1 - out.length) out = Gr.sortG l' (l'.length + 1) []
def mu76 (B n : Nat) (_ : Act) (w' : World) : Nat := n + 1 - sliceLen ((w'.cell? ⟨B, 0, none⟩).getD undef)
def End76 (w : World) (l : List Gr.Nd) (a' : Act) (w' : World) : Prop := ∃ (v : Value) (l' : List Gr.Nd), a'.tmps[2]? = some v ∧ a'.defers = [] ∧ IntsAt w' v (Gr.sortG l' (l'.length + 1) []) ∧ l'.Perm l ∧ Grew w w'
theorem infoInt1 : (Tryz.prog.info? 3).map (fun i => (i.zero, i.size, i.bytes)) = some (some (.int .i64 0), 1, 8) := by kernel_rfl
theorem encN_one (x : Int) : ∀ u ∈ encN x, u.oneCell' = true := by intro u hu; simp [encN] at hu; subst hu; rfl
theorem int_at (W : World) (x : Int) (t : TypeId) (b : Nat) {c : Array Value} (hc : c = #[.int .i64 x]) (hb : b = W.heap.size) : ∀ j u, (([x] : List Int).flatMap encN)[j]? = some u → (W.alloc (.cells c t)).cell? ⟨b, j, none⟩ = some u := by
  subst hc
  intro j u hu
  rw [new_cells W _ t b hb j]
  simpa [encN] using hu
theorem sortG_stop {l : List Gr.Nd} {out : List Int} (h : Gr.nextS l out = none) : ∀ k, Gr.sortG l k out = out
  | 0 => rfl
  | k + 1 => by rw [Gr.sortG, h]
theorem sort_pass (w w1 W : World) (B C base : Nat) (vn vo : Value) (lc : List NdC) (l l' : List Gr.Nd) (out : List Int) (u : Nat → Value) (Q : Exit → Act → World → Prop)
    (hn : NormAt w w1 B base vn lc l') (hp : l'.Perm l) (hs : SortAt w w1 B C W vo out) (ho : Gr.Ord l' out) (hg : Gr.sortG l' (l'.length + 1 - out.length) out = Gr.sortG l' (l'.length + 1) [])
    (hret : ∀ a' w', End76 w l a' w' → Q .ret a' w') (hjump : ∀ a' w', Jump76 w B C l a' w' → mu76 B l.length a' w' < l.length + 1 - out.length → Q (.goto 0) a' w') :
    Code.wp Tryz.prog tail76 Q (frame76 vn B C u) W := by
  conv => arg 2; whnf
  unfold frame76
  have HN := Lib.hid hn
  have HS := Lib.hid hs
  have HO := Lib.hid ho
  have HG := Lib.hid hg
  have HP := Lib.hid hp
  have HR := Lib.hid hret
  have HJ := Lib.hid hjump
  have hol := ho.le
  have hpl := hp.length_eq
  have hll := hn.l19
  have HPL := Lib.hid hpl
  obtain ⟨a, cap, rfl⟩ : ∃ a cap, vn = .slice a l'.length cap := by
    obtain ⟨a, cap, e⟩ := (OwnAt.rows hn.own encNd_len).len
    rw [Rel.len hn.ins] at e
    exact ⟨a, cap, e⟩
  clear hn hs ho hg hp hret hjump hpl
  go_wp2
  go_loopg [12] l'.length (fun gg s12 wr => ∃ k : Nat, k ≤ l'.length ∧ l'.length - k ≤ gg ∧ s12 = .int .i64 k ∧ Hid (SortAt w w1 B C wr vo out) ∧ Hid (∀ j (hj : j < l'.length), j < k → standP out l'[j] = false))
  case atStart => exact ⟨0, Nat.zero_le _, by omega, rfl, HS, Lib.hid fun j _ h => by omega⟩
  case round =>
    obtain ⟨k, hk, hgg, rfl, HS2, HNO⟩ := hrel
    by_cases hlt : k < l'.length
    · obtain ⟨a', cap', e, -, hx⟩ := (HS2.out.nodes HN.out.own HN.out.ins HN.out.b).openC
      cases e
      obtain ⟨b, off, c, rfl, hb, hn, c0, c1, c2, c3, c4, c5, c6, c7, c8, c9, c10, c11, c12⟩ := hx k hlt
      clear hx
      have hst := standP_eq out l'[k]
      generalize hy : l'[k] = y at *
      have HY := Lib.hid hy
      have hid := hn.id
      have HNc := Lib.hid hn
      have hcB := cell_of (o := 0) HS2.out.b
      have hcC := cell_of (o := 0) HS2.out.c
      have hfB := frozen_of (o := 0) HS2.out.b
      simp at hcB hcC
      have hpB := Pre.mk (heap_lt HS2.out.b)
      have hpC := Pre.mk (heap_lt HS2.out.c)
      have hrows : IntsAt wr vo out := HS2.out.own.rows encN_len
      have HP2 := Lib.hid fun W (g : Grew wr W) => containsFn_any c.vf y.frm 88 #[.pointer (some ⟨C, 0, none⟩)] (fun x => !decide (x ∈ out)) W (HNc.out.f.grew g) enters88 (fun W' x g' => sort2_pred out vo B C wr hrows hpB hcB hpC hcC W' x (g.trans g'))
      have eg := enters87
      obtain ⟨ao, co, rfl⟩ := hrows.len
      obtain ⟨cid, kind, af, cf, ap, cp, par, r0, r1, r2, r3, r4, r5, r6, r7, rfl⟩ := HNc.out.lit
      simp only at c0 c1 c2 c3 c4 c5 c6 c7 c8 c9 c10 c11 c12 hid HP2
      rw [hid] at hst
      have hp1 : ∀ W, Grew wr W → Calls Tryz.prog 87 #[.int .i64 cid, .pointer (some ⟨B, 0, none⟩)] W (Gives (.bool (decide (cid ∈ out))) W) := fun W g => sort1_pred out _ B wr hrows hpB hcB W cid g
      clear hn hrows hy
      generalize hq1 : decide (cid ∈ out) = q1 at *
      have HP1 := Lib.hid hp1
      have HQ1 := Lib.hid hq1
      clear hq1 hp1
      generalize hq2 : (y.frm.any fun f => !decide (f ∈ out)) = q2 at *
      have HQ2 := Lib.hid hq2
      clear hq2
      have HID := Lib.hid hid
      have HST := Lib.hid hst
      clear hid hst
      cases q1 with
      | true =>
        go_wp2_with (go_at_fn 87; go_loud (refine (HP1.out _ (by repeat (first | with_reducible exact Grew.refl _ | apply Grew.more | apply Grew.alloc | apply Grew.drew | apply Grew.drewN))).mono ?_; rintro e w2 ⟨rfl, R3, n3, rfl⟩))
        go_roundg (l'.length - (k + 1))
        case measure => omega
        case rel => exact ⟨k + 1, by omega, by omega, by go_num, Lib.hid (HS2.out.grew (by repeat (first | with_reducible exact Grew.refl _ | apply Grew.more | apply Grew.alloc | apply Grew.drew | apply Grew.drewN))), Lib.hid fun j hj h => by
          rcases Nat.lt_or_ge j k with h1 | h1
          · exact HNO.out j hj h1
          · obtain rfl : j = k := by omega
            rw [HY.out, HST.out]
            rfl⟩
      | false =>
        cases q2 with
        | true =>
          go_wp2_with (first
            | (go_at_fn 87; refine (HP1.out _ (by repeat (first | with_reducible exact Grew.refl _ | apply Grew.more | apply Grew.alloc | apply Grew.drew | apply Grew.drewN))).mono ?_; rintro e w2 ⟨rfl, R3, n3, rfl⟩)
            | (go_at_call 82; refine (HP2.out _ (by repeat (first | with_reducible exact Grew.refl _ | apply Grew.more | apply Grew.alloc | apply Grew.drew | apply Grew.drewN))).mono ?_; rintro e w2 ⟨rfl, R4, n4, rfl⟩))
          go_roundg (l'.length - (k + 1))
          case measure => omega
          case rel => exact ⟨k + 1, by omega, by omega, by go_num, Lib.hid (HS2.out.grew (by repeat (first | with_reducible exact Grew.refl _ | apply Grew.more | apply Grew.alloc | apply Grew.drew | apply Grew.drewN))), Lib.hid fun j hj h => by
            rcases Nat.lt_or_ge j k with h1 | h1
            · exact HNO.out j hj h1
            · obtain rfl : j = k := by omega
              rw [HY.out, HST.out]
              rfl⟩
        | false =>
          have hnx : Gr.nextS l' out = some cid := by
            have hf : l'.find? (standP out) = some y := List.find?_eq_some_iff_getElem.2 ⟨by rw [HST.out]; rfl, k, hlt, HY.out, fun j hj => by rw [HNO.out j (by omega) hj]; rfl⟩
            rw [standP_next, hf, Option.map_some, HID.out]
          have HNX := Lib.hid hnx
          have hlen : out.length + 1 ≤ 1000000 := by omega
          clear hnx
          go_wp2_with (first
            | (go_at_fn 87; refine (HP1.out _ (by repeat (first | with_reducible exact Grew.refl _ | apply Grew.more | apply Grew.alloc | apply Grew.drew | apply Grew.drewN))).mono ?_; rintro e w2 ⟨rfl, R3, n3, rfl⟩)
            | (go_at_call 82; refine (HP2.out _ (by repeat (first | with_reducible exact Grew.refl _ | apply Grew.more | apply Grew.alloc | apply Grew.drew | apply Grew.drewN))).mono ?_; rintro e w2 ⟨rfl, R4, n4, rfl⟩)
            | (at_builtin; go_loud (refine wpList_ownK (w0 := w) rfl (.tmp 28) (.tmp 31) 47 _ _ _ _ [cid] rfl Tryz.underlying47 infoInt1 rfl (by decide) encN_len encN_one rfl (OwnAt.grew HS2.out.own (by repeat (first | with_reducible exact Grew.refl _ | apply Grew.more | apply Grew.alloc | apply Grew.drew | apply Grew.drewN))) (HS2.out.g.trans (by repeat (first | with_reducible exact Grew.refl _ | apply Grew.more | apply Grew.alloc | apply Grew.drew | apply Grew.drewN))) rfl (int_at _ _ _ _ rfl (by simp [go_sem])) (by simpa using hlen) (by decide) (by simp) ?_; intro v5 W5 hA; (have hs5 := (HS2.out.grew (by repeat (first | with_reducible exact Grew.refl _ | apply Grew.more | apply Grew.alloc | apply Grew.drew | apply Grew.drewN))).push hA); obtain ⟨hB5, hS5⟩ := hs5; obtain ⟨b5, c5, rfl⟩ := own_some' hA.2.1 (by simp); (have cB5 := cell_of (o := 0) hB5); (have fB5 := frozen_of (o := 0) hB5); (have pB5 := Pre.mk (heap_lt hB5)); simp at cB5; simp only [List.length_append, List.length_cons, List.length_nil, Nat.zero_add] at hS5; (have HS5 := Lib.hid hS5); clear hS5 hB5 hA)))
          go_step3
          have hmu : mu76 B l.length { tmps := #[], defers := [] } (W5.setCell ⟨B, 0, none⟩ (.slice (some ⟨b5, 0, none⟩) (out.length + 1) c5)) < l.length + 1 - out.length := by
            unfold mu76
            rw [cell_of (o := 0) HS5.out.b]
            simp [sliceLen]
            have := HPL.out
            omega
          have hgg2 : Gr.sortG l' (l'.length + 1 - (out ++ [cid]).length) (out ++ [cid]) = Gr.sortG l' (l'.length + 1) [] := by
            rw [← HG.out, List.length_append, show l'.length + 1 - out.length = (l'.length - out.length) + 1 by omega, Gr.sortG, HNX.out]
            simp
          exact HJ.out _ _ ⟨w1, base, _, _, lc, l', out ++ [cid], HN.out, HP.out, ⟨rfl, rfl, rfl, rfl, rfl, rfl⟩, HS5.out, HO.out.step HNX.out, hgg2⟩ hmu
    · obtain rfl : k = l'.length := by omega
      have hcB := cell_of (o := 0) HS2.out.b
      simp at hcB
      have hpB := Pre.mk (heap_lt HS2.out.b)
      have hrows := HS2.out.own.rows encN_len
      obtain ⟨ao, co, rfl⟩ := hrows.len
      have HRW := Lib.hid hrows
      clear hrows
      have hnx : Gr.nextS l' out = none := by
        rw [standP_next, List.find?_eq_none.2 fun x hx => by
          obtain ⟨j, hj, rfl⟩ := List.mem_iff_getElem.1 hx
          rw [HNO.out j hj hj]
          simp]
        rfl
      have hend : out = Gr.sortG l' (l'.length + 1) [] := by rw [← HG.out, sortG_stop hnx]
      have HE := Lib.hid hend
      clear hnx hend
      go_wp2
      refine HR.out _ _ ⟨_, l', rfl, rfl, ?_, HP.out, HS2.out.g⟩
      rw [← HE.out]
      exact HRW.out

def SortGives (l : List Gr.Nd) (w : World) (e : Ending) (w' : World) : Prop := ∃ (v : Value) (l' : List Gr.Nd), e = .returned v ∧ IntsAt w' v (Gr.sortG l' (l'.length + 1) []) ∧ l'.Perm l ∧ Grew w w'
theorem sort_any (v : Value) (l : List Gr.Nd) (w : World) (hv : NodesAt w v l) (hs : Small l) (hl : l.length ≤ 19) : Calls Tryz.prog 34 #[v] w (SortGives l w) := by
  have HM := Lib.hid fun W (g : Grew w W) => norm_any v l W (hv.grew g) hs hl
  have HS := Lib.hid hs
  obtain ⟨a, cap, rfl, hm, -⟩ := hv.openC
  clear hv hs
  go_enter Tryz.func34, Tryz.ntmps34
  go_wp2
  refine wp_scope_jumps1' 0 (Jump76 w w.heap.size (w.heap.size + 1) l) (mu76 w.heap.size l.length) rfl ?_ ?_
  · rintro a1 W ⟨w1, base, vn, vo, lc, l', out, hn, hp, hf, hs, ho, hg⟩
    obtain ⟨u, rfl⟩ := hf.get
    have hle := ho.le
    refine sort_pass w w1 W _ _ base vn vo lc l l' out u _ hn hp hs ho hg (fun a' w' he => ?_) (fun a' w' hj hmu => ⟨rfl, hj, ?_⟩)
    · obtain ⟨v, l2, h1, h2, h3, h4, h5⟩ := he
      refine bodyPost_ret (v := v) ?_ h2 ⟨v, l2, rfl, h3, h4, h5⟩
      simp [results, Tryz.results34, go_sem]
      rw [h1]
      rfl
    · have e : mu76 w.heap.size l.length (frame76 vn w.heap.size (w.heap.size + 1) u) W = l.length + 1 - out.length := by
        unfold mu76
        rw [cell_of (o := 0) hs.b]
        obtain ⟨ao, co, e⟩ := (hs.own.rows encN_len).len
        rw [e]
        rfl
      rw [e]
      exact hmu
  · intro hfirst
    go_wp2_with (go_at_call 58; go_loud (refine (HM.out _ (by repeat (first | with_reducible exact Grew.refl _ | apply Grew.more | apply Grew.alloc | apply Grew.drew | apply Grew.drewN))).mono ?_; rintro e w1 ⟨vn, lc, l', rfl, ho, hi, hp, -, R3, n3, rfl⟩; obtain ⟨an, cn, rfl⟩ := (OwnAt.rows ho encNd_len).len; (have HO := Lib.hid ho); (have HI := Lib.hid hi); (have HP := Lib.hid hp); clear ho hi hp))
    go_step3
    have hB : (((w.alloc (.cells #[.slice none 0 0] 47)).alloc (.cells #[.func (.func 87) #[] #[.pointer (some ⟨w.heap.size, 0, none⟩)]] 138)).more R3 n3).heap[w.heap.size]? = some (.cells #[.slice none 0 0] 47) := grew_heap (by repeat (first | with_reducible exact Grew.refl _ | apply Grew.more | apply Grew.alloc | apply Grew.drew | apply Grew.drewN)) (heap_new_at w _ _ rfl)
    have hC : (((w.alloc (.cells #[.slice none 0 0] 47)).alloc (.cells #[.func (.func 87) #[] #[.pointer (some ⟨w.heap.size, 0, none⟩)]] 138)).more R3 n3).heap[w.heap.size + 1]? = some (.cells #[.func (.func 87) #[] #[.pointer (some ⟨w.heap.size, 0, none⟩)]] 138) := grew_heap (Grew.more (Grew.refl _) R3 n3) (heap_new_at (w.alloc (.cells #[.slice none 0 0] 47)) _ _ (by rw [World.size_alloc]))
    rename_i hK
    refine hK _ _ (hfirst _ _ ⟨_, _, .slice an lc.length cn, .slice none 0 0, lc, l', [], ⟨HO.out, HI.out, ⟨_, hB⟩, fun n hn => HS.out n (HP.out.mem_iff.1 hn), by rw [HP.out.length_eq]; exact hl⟩, HP.out, ?_,
      ⟨Keep.ofGrew (Grew.refl _), by repeat (first | with_reducible exact Grew.refl _ | apply Grew.more | apply Grew.alloc | apply Grew.drew | apply Grew.drewN), OwnAt.nil _, (fun q h => by cases h), hB, hC, Nat.le_refl _⟩, Gr.Ord.nil _, by simp⟩)
    exact ⟨rfl, rfl, rfl, rfl, rfl, rfl⟩

theorem nodeB_iff (l : List Gr.Nd) (n : Gr.Nd) : nodeB l n = true ↔ Gr.OkP l n := by
  unfold nodeB
  simp only [Bool.and_eq_true, decide_eq_true_eq, Bool.not_eq_true']
  have hk : kindB n = true ↔ (n.kind = 0 ∧ n.id = 0 ∧ n.frm.length = 0 ∧ n.prog.length = 0) ∨ (n.kind = 1 ∧ n.id ≠ 0 ∧ n.frm.length = 1 ∧ Vm.safe n.prog = true) ∨ (n.kind = 2 ∧ n.id ≠ 0 ∧ 1 ≤ n.frm.length ∧ n.frm.length ≤ 3 ∧ n.frm.Nodup ∧ n.prog.length = 0) := by
    unfold kindB
    by_cases k0 : n.kind = 0
    · rw [if_pos k0]
      simp only [Bool.and_eq_true, decide_eq_true_eq, beq_iff_eq]
      constructor
      · rintro ⟨h1, h2, h3⟩; exact .inl ⟨k0, h1, h2, h3⟩
      · rintro (⟨_, h1, h2, h3⟩ | ⟨h, _⟩ | ⟨h, _⟩)
        · exact ⟨h1, h2, h3⟩
        · omega
        · omega
    · rw [if_neg k0]
      by_cases k1 : n.kind = 1
      · rw [if_pos k1]
        simp only [Bool.and_eq_true, decide_eq_true_eq, bne_iff_ne]
        constructor
        · rintro ⟨h1, h2, h3⟩; exact .inr (.inl ⟨k1, h1, h2, h3⟩)
        · rintro (⟨h, _⟩ | ⟨_, h1, h2, h3⟩ | ⟨h, _⟩)
          · omega
          · exact ⟨h1, h2, h3⟩
          · omega
      · rw [if_neg k1]
        by_cases k2 : n.kind = 2
        · rw [if_pos k2]
          simp only [Bool.and_eq_true, decide_eq_true_eq, bne_iff_ne]
          constructor
          · rintro ⟨h1, h2, h3, h4, h5⟩; exact .inr (.inr ⟨k2, h1, h2, h3, h4, h5⟩)
          · rintro (⟨h, _⟩ | ⟨h, _⟩ | ⟨_, h1, h2, h3, h4, h5⟩)
            · omega
            · omega
            · exact ⟨h1, h2, h3, h4, h5⟩
        · rw [if_neg k2]
          constructor
          · intro h; cases h
          · rintro (⟨h, _⟩ | ⟨h, _⟩ | ⟨h, _⟩) <;> omega
  have hr : routeB n = true ↔ 1 ≤ n.par ∧ n.par ≤ 3 ∧ ∀ g ∈ n.route, 0 ≤ g ∧ g < n.par := by
    unfold routeB
    simp only [Bool.and_eq_true, decide_eq_true_eq, Bool.not_eq_true', List.any_eq_false]
    refine and_congr_right fun _ => and_congr_right fun _ => forall_congr' fun g => forall_congr' fun _ => ?_
    unfold badT
    simp only [Bool.or_eq_true, decide_eq_true_eq]
    omega
  have ha : n.frm.any (aboveB l) = false ↔ ∀ f ∈ n.frm, ∃ j m, Gr.find l f = some j ∧ l[j]? = some m ∧ m.kind ≠ 2 := by
    rw [List.any_eq_false]
    refine forall_congr' fun f => forall_congr' fun _ => ?_
    unfold aboveB Gr.nodeOf
    cases hf : Gr.find l f with
    | none => simp
    | some j =>
      obtain ⟨m, hm, -⟩ := Gr.find_some hf
      rw [Option.bind_some, hm]
      simp only [beq_iff_eq]
      constructor
      · intro h; exact ⟨j, m, rfl, hm, h⟩
      · rintro ⟨j', m', h1, h2, h3⟩
        cases h1
        rw [hm] at h2
        cases h2
        exact h3
  rw [hk, hr, ha]
  constructor
  · rintro ⟨h1, h2, h3, ⟨h4, h5, h6⟩, h7⟩
    exact ⟨h1, h2, h3, h4, h5, h6, h7⟩
  · rintro ⟨h1, h2, h3, h4, h5, h6, h7⟩
    exact ⟨h1, h2, h3, ⟨h4, h5, h6⟩, h7⟩
open Classical in
noncomputable def checkR (l : List Gr.Nd) : Int := if 8 < l.length then 6 else if Gr.RightR l then 0 else 10
theorem checkR_long {l : List Gr.Nd} (h : 8 < l.length) : checkR l = 6 := by unfold checkR; rw [if_pos h]
theorem checkR_bad {l : List Gr.Nd} (h8 : l.length ≤ 8) (h : ¬ Gr.RightR l) : checkR l = 10 := by unfold checkR; rw [if_neg (by omega), if_neg h]
theorem checkR_ok {l : List Gr.Nd} (h8 : l.length ≤ 8) (h : Gr.RightR l) : checkR l = 0 := by unfold checkR; rw [if_neg (by omega), if_pos h]
theorem right_self (l : List Gr.Nd) : Gr.RightR l ↔ Gr.RightP l l := Gr.right_iff (List.Perm.refl l)
def idsT (l : List Gr.Nd) (k : Nat) : List Int := (l.take k).map (·.id)
theorem idsT_succ {l : List Gr.Nd} {k : Nat} (h : k < l.length) : idsT l (k + 1) = idsT l k ++ [l[k].id] := by
  unfold idsT
  rw [List.take_succ_eq_append_getElem h, List.map_append]
  rfl
theorem check_graph (v : Value) (l : List Gr.Nd) (w : World) (hv : NodesAt w v l) (hs : Small l) : Calls Tryz.prog 8 #[v] w (Gives (.int .i64 (checkR l)) w) := by
  have HV := Lib.hid hv
  have HS := Lib.hid hs
  obtain ⟨a, cap, rfl, hm, -⟩ := hv.openC
  clear hv hs
  by_cases h8 : 8 < l.length
  · rw [checkR_long h8]
    have h8' : (8 : Int) < (l.length : Int) := by omega
    go_enter Tryz.func8, Tryz.ntmps8
    go_wp2
    go_ret
    refine ⟨rfl, ?_⟩
    repeat (first | with_reducible exact Grew.refl _ | apply Grew.more | apply Grew.alloc | apply Grew.drew | apply Grew.drewN)
  · have h8' : ¬ (8 : Int) < (l.length : Int) := by omega
    go_enter Tryz.func8, Tryz.ntmps8
    go_wp2
    go_loopg [3, 11] l.length (fun gg s3 s11 wr => ∃ (k : Nat) (vk : Value), k ≤ l.length ∧ l.length - k ≤ gg ∧ s11 = .int .i64 k ∧ vk = s3 ∧ Hid (Grew w wr) ∧ Hid (OwnAt w.heap.size 3 1 encN wr vk (idsT l k)) ∧ Hid (∀ j (hj : j < l.length), j < k → nodeB l l[j] = true))
    case atStart => exact ⟨0, _, Nat.zero_le _, by omega, rfl, rfl, Lib.hid (by repeat (first | with_reducible exact Grew.refl _ | apply Grew.more | apply Grew.alloc | apply Grew.drew | apply Grew.drewN)), Lib.hid (OwnAt.nil _), Lib.hid fun j _ h => by omega⟩
    case round =>
      obtain ⟨k, vk, hk, hgg, rfl, rfl, HG, HO, HNO⟩ := hrel
      obtain ⟨ak, ck, rfl⟩ := (HO.out.rows encN_len).len
      have hil : (idsT l k).length = k := by unfold idsT; rw [List.length_map, List.length_take, Nat.min_eq_left hk]
      rw [hil] at HO
      rw [hil]
      by_cases hlt : k < l.length
      · obtain ⟨a', cap', e, -, hx⟩ := (HV.out.grew HG.out).openC
        cases e
        obtain ⟨b, off, c, rfl, hb, hn, c0, c1, c2, c3, c4, c5, c6, c7, c8, c9, c10, c11, c12⟩ := hx k hlt
        have hst := (HS.out _ (List.getElem_mem hlt)).1
        have hsu := idsT_succ hlt
        have HSU := Lib.hid hsu
        have HIL := Lib.hid hil
        have hw1 := nodeB_iff l l[k]
        clear hx hsu hil
        generalize hy : l[k] = y at *
        have HY := Lib.hid hy
        have HB := Lib.hid fun W (g : Grew wr W) => node_any c y _ l W (hn.grew g) ((HV.out.grew HG.out).grew g) HS.out hst
        have hid := hn.id
        have HNc := Lib.hid hn
        obtain ⟨cid, kind, af, cf, ap, cp, par, r0, r1, r2, r3, r4, r5, r6, r7, rfl⟩ := hn.lit
        simp only at c0 c1 c2 c3 c4 c5 c6 c7 c8 c9 c10 c11 c12 hid HB
        have HID := Lib.hid hid
        have HW1 := Lib.hid hw1
        clear hn hid hw1 hy
        cases hq : nodeB l y with
        | false =>
          have hbad : ¬ Gr.RightR l := fun h => by
            have h2 := ((right_self l).1 h).ok y (by rw [← HY.out]; exact List.getElem_mem hlt)
            rw [← HW1.out, hq] at h2
            cases h2
          have he := checkR_bad (by omega) hbad
          have HE := Lib.hid he
          rw [hq] at HB
          clear he hbad hq
          go_wp2_with (go_at_call 31; refine (HB.out _ (by repeat (first | with_reducible exact Grew.refl _ | apply Grew.more | apply Grew.alloc | apply Grew.drew | apply Grew.drewN))).mono ?_; rintro e w1 ⟨rfl, R3, n3, rfl⟩)
          go_ret
          refine ⟨by rw [HE.out]; rfl, HG.out.trans ?_⟩
          repeat (first | with_reducible exact Grew.refl _ | apply Grew.more | apply Grew.alloc | apply Grew.drew | apply Grew.drewN)
        | true =>
          have HQ := Lib.hid hq
          rw [hq] at HB
          clear hq
          go_wp2_with (first
            | (go_at_call 31; refine (HB.out _ (by repeat (first | with_reducible exact Grew.refl _ | apply Grew.more | apply Grew.alloc | apply Grew.drew | apply Grew.drewN))).mono ?_; rintro e w1 ⟨rfl, R3, n3, rfl⟩)
            | (at_builtin; go_loud (refine wpList_ownK (w0 := w) rfl (.tmp 19) (.tmp 22) 47 _ _ _ _ [cid] rfl Tryz.underlying47 infoInt1 rfl (by decide) encN_len encN_one rfl (OwnAt.grew HO.out (by repeat (first | with_reducible exact Grew.refl _ | apply Grew.more | apply Grew.alloc | apply Grew.drew | apply Grew.drewN))) (HG.out.trans (by repeat (first | with_reducible exact Grew.refl _ | apply Grew.more | apply Grew.alloc | apply Grew.drew | apply Grew.drewN))) rfl (int_at _ _ _ _ rfl (by simp [go_sem])) (by rw [HIL.out]; simp; omega) (by decide) (by simp) ?_; intro v5 W5 hA; (have HA := Lib.hid hA); clear hA)))
          have hr1 : OwnAt w.heap.size 3 1 encN W5 v5 (idsT l (k + 1)) := by
            rw [HSU.out, HID.out]
            exact HA.out.2.1
          have HR1 := Lib.hid hr1
          clear hr1
          go_roundg (l.length - (k + 1))
          case measure => omega
          case rel => exact ⟨k + 1, _, by omega, by omega, by go_num, rfl, Lib.hid HA.out.1, HR1, Lib.hid fun j hj h => by
            rcases Nat.lt_or_ge j k with h1 | h1
            · exact HNO.out j hj h1
            · obtain rfl : j = k := by omega
              rw [HY.out]
              exact HQ.out⟩
      · obtain rfl : k = l.length := by omega
        have hids : idsT l l.length = Gr.ids l := by unfold idsT Gr.ids; rw [List.take_length]
        rw [hids] at HO
        have hall : ∀ n ∈ l, Gr.OkP l n := fun n hn => by
          obtain ⟨j, hj, rfl⟩ := List.mem_iff_getElem.1 hn
          exact (nodeB_iff l _).1 (HNO.out j hj hj)
        have HALL := Lib.hid hall
        have HU := Lib.hid fun W (g : Grew wr W) => unlike_any _ (Gr.ids l) W ((HO.out.rows encN_len).grew g) (by unfold Gr.ids; rw [List.length_map]; omega)
        have HC := Lib.hid fun W (g : Grew wr W) => containsI_any _ (Gr.ids l) 0 W ((HO.out.rows encN_len).grew g)
        have HT := Lib.hid fun W (g : Grew wr W) => sort_any _ l W ((HV.out.grew HG.out).grew g) HS.out (by omega)
        clear hil hids hall
        by_cases hu : (Gr.ids l).Nodup
        · by_cases hz : (0 : Int) ∈ Gr.ids l
          · rw [decide_eq_true hu] at HU
            rw [decide_eq_true hz] at HC
            have HUZ := Lib.hid (And.intro hu hz)
            clear hu hz
            go_wp2_with (first
              | (go_at_call 32; refine (HU.out _ (by repeat (first | with_reducible exact Grew.refl _ | apply Grew.more | apply Grew.alloc | apply Grew.drew | apply Grew.drewN))).mono ?_; rintro e w1 ⟨rfl, R3, n3, rfl⟩)
              | (go_at_call 33; refine (HC.out _ (by repeat (first | with_reducible exact Grew.refl _ | apply Grew.more | apply Grew.alloc | apply Grew.drew | apply Grew.drewN))).mono ?_; rintro e w1 ⟨rfl, hw1⟩; obtain rfl := hw1)
              | (go_at_call 34; refine (HT.out _ (by repeat (first | with_reducible exact Grew.refl _ | apply Grew.more | apply Grew.alloc | apply Grew.drew | apply Grew.drewN))).mono ?_; rintro e w1 ⟨vs, l', rfl, hr, hp, R4, n4, rfl⟩; obtain ⟨as1, cs1, rfl⟩ := hr.len; (have HP := Lib.hid hp); clear hr hp))
            · rename_i hx
              have he : (Gr.sortG l' (l'.length + 1) []).length ≠ l.length := by simp at hx; omega
              have hok := checkR_bad (by omega) fun h => he ((Gr.right_iff HP.out.symm).1 h).so
              have HOK := Lib.hid hok
              clear hok hx he
              go_ret
              exact ⟨by rw [HOK.out]; rfl, HG.out.trans (by repeat (first | with_reducible exact Grew.refl _ | apply Grew.more | apply Grew.alloc | apply Grew.drew | apply Grew.drewN))⟩
            · rename_i hx
              have he : (Gr.sortG l' (l'.length + 1) []).length = l.length := by simp at hx; omega
              have hok := checkR_ok (by omega) ((Gr.right_iff HP.out.symm).2 ⟨by omega, HALL.out, HUZ.out.1, HUZ.out.2, he⟩)
              have HOK := Lib.hid hok
              clear hok hx he
              go_ret
              exact ⟨by rw [HOK.out]; rfl, HG.out.trans (by repeat (first | with_reducible exact Grew.refl _ | apply Grew.more | apply Grew.alloc | apply Grew.drew | apply Grew.drewN))⟩
          · have hok := checkR_bad (by omega) fun h => hz ((right_self l).1 h).z
            have HOK := Lib.hid hok
            rw [decide_eq_true hu] at HU
            rw [decide_eq_false hz] at HC
            clear hok hu hz
            go_wp2_with (first
              | (go_at_call 32; refine (HU.out _ (by repeat (first | with_reducible exact Grew.refl _ | apply Grew.more | apply Grew.alloc | apply Grew.drew | apply Grew.drewN))).mono ?_; rintro e w1 ⟨rfl, R3, n3, rfl⟩)
              | (go_at_call 33; refine (HC.out _ (by repeat (first | with_reducible exact Grew.refl _ | apply Grew.more | apply Grew.alloc | apply Grew.drew | apply Grew.drewN))).mono ?_; rintro e w1 ⟨rfl, hw1⟩; obtain rfl := hw1))
            go_ret
            exact ⟨by rw [HOK.out]; rfl, HG.out.trans (by repeat (first | with_reducible exact Grew.refl _ | apply Grew.more | apply Grew.alloc | apply Grew.drew | apply Grew.drewN))⟩
        · have hok := checkR_bad (by omega) fun h => hu ((right_self l).1 h).un
          have HOK := Lib.hid hok
          rw [decide_eq_false hu] at HU
          clear hok hu
          go_wp2_with (go_at_call 32; refine (HU.out _ (by repeat (first | with_reducible exact Grew.refl _ | apply Grew.more | apply Grew.alloc | apply Grew.drew | apply Grew.drewN))).mono ?_; rintro e w1 ⟨rfl, R3, n3, rfl⟩)
          go_ret
          exact ⟨by rw [HOK.out]; rfl, HG.out.trans (by repeat (first | with_reducible exact Grew.refl _ | apply Grew.more | apply Grew.alloc | apply Grew.drew | apply Grew.drewN))⟩






end Go.Proofs.YtpbohimddmploaaGreat
