import Derived.Test.YtmdmbimfdpngaaaGreatDoorMc13
import Derived.Test.YtmdmbimfdpngaaaGreatDoorMc27
/-! The library's sort at entries, as cell uses it. -/
namespace Go.Proofs.YtmdmbimfdpngaaaGreatDoor
set_option linter.unusedSimpArgs false
set_option linter.unusedVariables false
open Go.RowKit Ga
set_option maxRecDepth 100000

/-- an entry whose place is one -/
abbrev Sm := { x : Tab.En // There x }
instance : Inhabited Sm := ⟨⟨⟨0, 0, (0, 0), (0, 0)⟩, ⟨by decide, by decide⟩, ⟨by decide, by decide⟩⟩⟩
def encSm (x : Sm) : List Value := encEn x.1
theorem encSm_len (x : Sm) : (encSm x).length = 6 := rfl
def cmpSm (x y : Sm) : Int := (x.1.node - y.1.node) * 64 + x.1.key - y.1.key
theorem cmpSm_num (x y : Sm) : cmpSm x y = Tab.num x.1 - Tab.num y.1 := by unfold cmpSm Tab.num; omega
theorem ltSm (x y : Sm) : ltOf cmpSm x y = decide (Tab.num x.1 < Tab.num y.1) := by
  unfold ltOf
  rw [cmpSm_num]
  exact decide_eq_decide.2 (by omega)
theorem swoSm : Sort.SWO (ltOf cmpSm) := by
  refine ⟨fun x => ?_, fun x y z h1 h2 => ?_, fun x y z h1 h2 => ?_⟩
  · rw [ltSm]; simp
  · rw [ltSm] at *; simp only [decide_eq_true_eq] at *; omega
  · rw [ltSm] at *; simp only [decide_eq_false_iff_not] at *; omega
set_option maxHeartbeats 2000000 in
theorem cmpEn_any (x y : Sm) (W : World) : Calls Tryz.prog 80 #[.agg (encSm x).toArray, .agg (encSm y).toArray] W fun e w' => e = .returned (.int .i64 (cmpSm x y)) ∧ ∃ q os', w' = Sort.grow (W.drewN q) os' := by
  obtain ⟨⟨n1, k1, ⟨a1, b1⟩, ⟨c1, d1⟩⟩, ⟨h1, h2⟩, h3, h4⟩ := x
  obtain ⟨⟨n2, k2, ⟨a2, b2⟩, ⟨c2, d2⟩⟩, ⟨g1, g2⟩, g3, g4⟩ := y
  simp only at h1 h2 h3 h4 g1 g2 g3 g4
  unfold cmpSm
  simp only
  show Calls Tryz.prog _ #[.agg #[.int .i64 n1, .int .i64 k1, .int .i64 a1, .int .i64 b1, .int .i64 c1, .int .i64 d1], .agg #[.int .i64 n2, .int .i64 k2, .int .i64 a2, .int .i64 b2, .int .i64 c2, .int .i64 d2]] W _
  go_enter Tryz.func80, Tryz.ntmps80
  go_wp2
  go_ret
  exact ⟨rfl, 0, _, by rw [Sort.alloc_eq_grow, Sort.alloc_eq_grow, Sort.grow_grow]; rfl⟩
theorem enters80 : ∀ args w, (callFunc 80 args).run Tryz.prog w = .ok (.enter 80 args) w := enters_of Tryz.func80 (by kernel_rfl) rfl
/-- the list as it is sorted -/
def SortPostE (base : Nat) (W : World) (v : Value) (l : List Tab.En) (e : Ending) (w' : World) : Prop :=
  e = .returned (.tuple #[]) ∧ ∃ l', OwnAt base 53 6 encEn w' v l' ∧ l'.Perm l ∧ (l'.Pairwise fun a b => Tab.num a ≤ Tab.num b) ∧ (∀ q, q < W.heap.size → v.ownBlock ≠ some q → w'.heap[q]? = W.heap[q]?) ∧ W.heap.size ≤ w'.heap.size ∧ (∀ w0, Grew w0 W → w0.heap.size ≤ base → Grew w0 w')
theorem ownSm {base : Nat} {W : World} {v : Value} {ls : List Sm} : OwnAt base 53 6 encSm W v ls ↔ OwnAt base 53 6 encEn W v (ls.map (·.1)) := by
  unfold OwnAt
  rw [List.length_map, List.flatMap_map]
  exact Iff.rfl
theorem sm_list : ∀ (l : List Tab.En), (∀ x ∈ l, There x) → ∃ ls : List Sm, l = ls.map (·.1)
  | [], _ => ⟨[], rfl⟩
  | x :: l, h => by
    obtain ⟨ls, e⟩ := sm_list l fun y hy => h y (List.mem_cons_of_mem _ hy)
    exact ⟨⟨x, h x (List.mem_cons_self ..)⟩ :: ls, by rw [List.map_cons, ← e]⟩
set_option maxHeartbeats 2000000 in
theorem sortEnts_any (base : Nat) (W : World) (v : Value) (l : List Tab.En) (h : OwnAt base 53 6 encEn W v l) (hth : ∀ x ∈ l, There x) (hl : l.length ≤ 1000000) :
    Calls Tryz.prog 79 #[v, .func (.func 80) #[] #[]] W (SortPostE base W v l) := by
  rcases OwnAt.form h with ⟨rfl, hn⟩ | ⟨b, cap, rfl, hb, hc, hm⟩
  · subst hn
    have h1 : Calls Tryz.prog 79 #[.slice none 0 0, .func (.func 80) #[] #[]] W _ := AnyF.slices_SortFunc_none Tryz.sortEnt none 0 (.func (.func 80) #[] #[]) W
    refine h1.mono fun e w' ⟨he, hw⟩ => ?_
    subst hw
    exact ⟨he, [], h, List.Perm.refl _, List.Pairwise.nil, fun _ _ _ => rfl, Nat.le_refl _, fun _ g _ => g⟩
  · obtain ⟨ls, rfl⟩ := sm_list l hth
    rw [List.length_map] at hl hc ⊢
    have ho := ownSm.2 h
    rw [List.length_map] at ho
    obtain ⟨hh, hb1, hb2⟩ := own_holdsKG encSm_len (by decide) ho
    have hcon := AnyQ.slices_SortFunc Tryz.sortEnt 6 Tryz.isAgg53 Tryz.sizeOf53 encSm encSm_len (fun x => encEn_one x.1) cmpSm swoSm 80 #[] b 0 cap ls.toArray W enters80 (fun m os dk _ x y => cmpEn_any x y _) hh hb2 (by simp; omega)
    have hcon2 : Calls Tryz.prog 79 #[.slice (some ⟨b, 0, none⟩) ls.length cap, .func (.func 80) #[] #[]] W _ := hcon
    refine hcon2.mono fun e w' ⟨he, d', n, os, hp, hs, hw⟩ => ?_
    obtain ⟨p1, p2, p3⟩ := hp
    have hsz : d'.size = ls.length := by rw [p1]; simp
    have hperm : d'.toList.Perm ls := by
      have e1 : d'.extract 0 ls.toArray.size = d' := by rw [show ls.toArray.size = d'.size from by rw [p1]]; simp
      have e2 : ls.toArray.extract 0 ls.toArray.size = ls.toArray := by simp
      rw [e1, e2] at p3
      exact p3
    obtain ⟨q1, q2, q3⟩ := own_ofSortG (m := n) (os := os) (lc' := d'.toList) encSm_len (by decide) ho (by simpa using hsz)
    have hw2 : w' = sortWorldK encSm 6 W b 0 n d'.toList.toArray os := by rw [hw]
    rw [← hw2] at q1 q2 q3
    refine ⟨he, d'.toList.map (·.1), ownSm.1 q1, hperm.map _, ?_, fun q hq hne => q2 q hq fun e => hne (by rw [e]; rfl), q3, fun w0 g hb0 => ?_⟩
    · rw [List.pairwise_map, List.pairwise_iff_getElem]
      intro i j hi hj hij
      have hi' : i < d'.size := by simpa using hi
      have hj' : j < d'.size := by simpa using hj
      have h5 := hs i j (Nat.zero_le _) hij (by rw [← p1]; exact hj')
      rw [getElem!_pos d' i hi', getElem!_pos d' j hj', ltSm] at h5
      simp only [decide_eq_false_iff_not, Array.getElem_toList] at h5 ⊢
      omega
    · rw [hw2]
      unfold sortWorldK Sort.putRowK
      exact grewOs (grewRow (grewAhead g _) (by omega)) _
end Go.Proofs.YtmdmbimfdpngaaaGreatDoor
