import Derived.Test.YtepfdekppnobaaaGreatMb15
import Derived.Test.YtepfdekppnobaaaGreatMb28
import Derived.Test.YtepfdekppnobaaaGreatMb7
import Derived.Deep.LoopGhost
import Derived.Maps.RangeWalk
import Derived.Test.YtepfdekppnobaaaGreatMb22
import Derived.Test.YtepfdekppnobaaaGreatMb0
import Derived.Test.YtepfdekppnobaaaGreatMb6
/-! slices.SortFunc where there is nothing. -/
namespace Go.Proofs.YtepfdekppnobaaaGreat
set_option linter.unusedSimpArgs false
set_option linter.unusedVariables false
open Go.RowKit
set_option maxRecDepth 100000

theorem insNone_any (fv : Value) (w : World) : Calls Tryz.prog 172 #[.slice none 0 0, .int .i64 0, .int .i64 0, fv] w (fun e w' => e = .returned (.tuple #[]) ∧ w' = w) := by
  go_enter Tryz.func172, Tryz.ntmps172
  go_wp2
  go_loopg [8] 0 (fun gg s8 wr => s8 = .int .i64 1 ∧ wr = w)
  case atStart => exact ⟨rfl, rfl⟩
  case round =>
    obtain ⟨rfl, rfl⟩ := hrel
    go_wp2
    refine bodyPost_end (v := .tuple #[]) (by simp [results, Tryz.results172, go_sem]) rfl ?_
    exact ⟨rfl, rfl⟩
theorem pdqNone_any (k : Int) (fv : Value) (w : World) : Calls Tryz.prog 150 #[.slice none 0 0, .int .i64 0, .int .i64 0, .int .i64 k, fv] w (fun e w' => e = .returned (.tuple #[]) ∧ w' = w) := by
  go_enter Tryz.func150, Tryz.ntmps150
  go_wp2
  go_loopg [1, 2, 3] 0 (fun gg s1 s2 s3 wr => s1 = .int .i64 0 ∧ s2 = .int .i64 0 ∧ wr = w)
  case atStart => exact ⟨rfl, rfl, rfl⟩
  case round =>
    obtain ⟨rfl, rfl, rfl⟩ := hrel
    go_wp2_with (go_at_call 172; refine (insNone_any _ _).mono ?_; rintro e w1 ⟨rfl, rfl⟩)
    refine bodyPost_ret (v := .tuple #[]) (by simp [results, Tryz.results150, go_sem]) rfl ?_
    exact ⟨rfl, rfl⟩
theorem sortNone_any (fv : Value) (w : World) : Calls Tryz.prog 122 #[.slice none 0 0, fv] w (fun e w' => e = .returned (.tuple #[]) ∧ w' = w) := by
  go_enter Tryz.func122, Tryz.ntmps122
  go_wp2_with (first
    | (go_at_call 132; refine (Tryz.bits_Len 0 _ (by decide) (by decide)).mono ?_; rintro e w1 ⟨rfl, rfl⟩)
    | (go_at_call 150; refine (pdqNone_any _ _ _).mono ?_; rintro e w1 ⟨rfl, rfl⟩))
  refine bodyPost_end (v := .tuple #[]) (by simp [results, Tryz.results122, go_sem]) rfl ?_
  exact ⟨rfl, rfl⟩
end Go.Proofs.YtepfdekppnobaaaGreat

/-! The library's sort at entries, as cell uses it. -/
namespace Go.Proofs.YtepfdekppnobaaaGreat
set_option linter.unusedSimpArgs false
set_option linter.unusedVariables false
open Go.RowKit Ga
set_option maxRecDepth 100000

/-- an entry whose place is one -/
abbrev Sm := { x : Tab.En // There x }
instance : Inhabited Sm := ⟨⟨⟨0, 0, (0, 0), (0, 0)⟩, ⟨by decide, by decide⟩, ⟨by decide, by decide⟩⟩⟩
def encSm (x : Sm) : List Value := encEn x.1
theorem encSm_len (x : Sm) : (encSm x).length = 6 := rfl
def cmpSm (x y : Sm) : Int := (x.1.node - y.1.node) * 64 + x.1.key - y.1.key
theorem cmpSm_num (x y : Sm) : cmpSm x y = Tab.num x.1 - Tab.num y.1 := by unfold cmpSm Tab.num; omega
theorem ltSm (x y : Sm) : ltOf cmpSm x y = decide (Tab.num x.1 < Tab.num y.1) := by
  unfold ltOf
  rw [cmpSm_num]
  exact decide_eq_decide.2 (by omega)
theorem swoSm : Sort.SWO (ltOf cmpSm) := by
  refine ⟨fun x => ?_, fun x y z h1 h2 => ?_, fun x y z h1 h2 => ?_⟩
  · rw [ltSm]; simp
  · rw [ltSm] at *; simp only [decide_eq_true_eq] at *; omega
  · rw [ltSm] at *; simp only [decide_eq_false_iff_not] at *; omega
set_option maxHeartbeats 2000000 in
theorem cmpEn_any (x y : Sm) (W : World) : Calls Tryz.prog 123 #[.agg (encSm x).toArray, .agg (encSm y).toArray] W fun e w' => e = .returned (.int .i64 (cmpSm x y)) ∧ ∃ q os', w' = Sort.grow (W.drewN q) os' := by
  obtain ⟨⟨n1, k1, ⟨a1, b1⟩, ⟨c1, d1⟩⟩, ⟨h1, h2⟩, h3, h4⟩ := x
  obtain ⟨⟨n2, k2, ⟨a2, b2⟩, ⟨c2, d2⟩⟩, ⟨g1, g2⟩, g3, g4⟩ := y
  simp only at h1 h2 h3 h4 g1 g2 g3 g4
  unfold cmpSm
  simp only
  show Calls Tryz.prog _ #[.agg #[.int .i64 n1, .int .i64 k1, .int .i64 a1, .int .i64 b1, .int .i64 c1, .int .i64 d1], .agg #[.int .i64 n2, .int .i64 k2, .int .i64 a2, .int .i64 b2, .int .i64 c2, .int .i64 d2]] W _
  go_enter Tryz.func123, Tryz.ntmps123
  go_wp2
  go_ret
  exact ⟨rfl, 0, _, by rw [Sort.alloc_eq_grow, Sort.alloc_eq_grow, Sort.grow_grow]; rfl⟩
theorem enters123 : ∀ args w, (callFunc 123 args).run Tryz.prog w = .ok (.enter 123 args) w := enters_of Tryz.func123 (by kernel_rfl) rfl
/-- the list as it is sorted -/
def SortPostE (base : Nat) (W : World) (v : Value) (l : List Tab.En) (e : Ending) (w' : World) : Prop :=
  e = .returned (.tuple #[]) ∧ ∃ l', OwnAt base 57 6 encEn w' v l' ∧ l'.Perm l ∧ (l'.Pairwise fun a b => Tab.num a ≤ Tab.num b) ∧ (∀ q, q < W.heap.size → v.ownBlock ≠ some q → w'.heap[q]? = W.heap[q]?) ∧ W.heap.size ≤ w'.heap.size ∧ (∀ w0, Grew w0 W → w0.heap.size ≤ base → Grew w0 w')
theorem ownSm {base : Nat} {W : World} {v : Value} {ls : List Sm} : OwnAt base 57 6 encSm W v ls ↔ OwnAt base 57 6 encEn W v (ls.map (·.1)) := by
  unfold OwnAt
  rw [List.length_map, List.flatMap_map]
  exact Iff.rfl
theorem sm_list : ∀ (l : List Tab.En), (∀ x ∈ l, There x) → ∃ ls : List Sm, l = ls.map (·.1)
  | [], _ => ⟨[], rfl⟩
  | x :: l, h => by
    obtain ⟨ls, e⟩ := sm_list l fun y hy => h y (List.mem_cons_of_mem _ hy)
    exact ⟨⟨x, h x (List.mem_cons_self ..)⟩ :: ls, by rw [List.map_cons, ← e]⟩
set_option maxHeartbeats 2000000 in
theorem sortEnts_any (base : Nat) (W : World) (v : Value) (l : List Tab.En) (h : OwnAt base 57 6 encEn W v l) (hth : ∀ x ∈ l, There x) (hl : l.length ≤ 1000000) :
    Calls Tryz.prog 122 #[v, .func (.func 123) #[] #[]] W (SortPostE base W v l) := by
  rcases OwnAt.form h with ⟨rfl, hn⟩ | ⟨b, cap, rfl, hb, hc, hm⟩
  · subst hn
    have h1 : Calls Tryz.prog 122 #[.slice none 0 0, .func (.func 123) #[] #[]] W _ := sortNone_any (.func (.func 123) #[] #[]) W
    refine h1.mono fun e w' ⟨he, hw⟩ => ?_
    subst hw
    exact ⟨he, [], h, List.Perm.refl _, List.Pairwise.nil, fun _ _ _ => rfl, Nat.le_refl _, fun _ g _ => g⟩
  · obtain ⟨ls, rfl⟩ := sm_list l hth
    rw [List.length_map] at hl hc ⊢
    have ho := ownSm.2 h
    rw [List.length_map] at ho
    obtain ⟨hh, hb1, hb2⟩ := own_holdsKG encSm_len (by decide) ho
    have hcon := AnyQ.slices_SortFunc Tryz.sortEnt 6 Tryz.isAgg57 Tryz.sizeOf57 encSm encSm_len (fun x => encEn_one x.1) cmpSm swoSm 123 #[] b 0 cap ls.toArray W enters123 (fun m os dk _ x y => cmpEn_any x y _) hh hb2 (by simp; omega)
    have hcon2 : Calls Tryz.prog 122 #[.slice (some ⟨b, 0, none⟩) ls.length cap, .func (.func 123) #[] #[]] W _ := hcon
    refine hcon2.mono fun e w' ⟨he, d', n, os, hp, hs, hw⟩ => ?_
    obtain ⟨p1, p2, p3⟩ := hp
    have hsz : d'.size = ls.length := by rw [p1]; simp
    have hperm : d'.toList.Perm ls := by
      have e1 : d'.extract 0 ls.toArray.size = d' := by rw [show ls.toArray.size = d'.size from by rw [p1]]; simp
      have e2 : ls.toArray.extract 0 ls.toArray.size = ls.toArray := by simp
      rw [e1, e2] at p3
      exact p3
    obtain ⟨q1, q2, q3⟩ := own_ofSortG (m := n) (os := os) (lc' := d'.toList) encSm_len (by decide) ho (by simpa using hsz)
    have hw2 : w' = sortWorldK encSm 6 W b 0 n d'.toList.toArray os := by rw [hw]
    rw [← hw2] at q1 q2 q3
    refine ⟨he, d'.toList.map (·.1), ownSm.1 q1, hperm.map _, ?_, fun q hq hne => q2 q hq fun e => hne (by rw [e]; rfl), q3, fun w0 g hb0 => ?_⟩
    · rw [List.pairwise_map, List.pairwise_iff_getElem]
      intro i j hi hj hij
      have hi' : i < d'.size := by simpa using hi
      have hj' : j < d'.size := by simpa using hj
      have h5 := hs i j (Nat.zero_le _) hij (by rw [← p1]; exact hj')
      rw [getElem!_pos d' i hi', getElem!_pos d' j hj', ltSm] at h5
      simp only [decide_eq_false_iff_not, Array.getElem_toList] at h5 ⊢
      omega
    · rw [hw2]
      unfold sortWorldK Sort.putRowK
      exact grewOs (grewRow (grewAhead g _) (by omega)) _
end Go.Proofs.YtepfdekppnobaaaGreat

/-! cell: some, All. -/
namespace Go.Proofs.YtepfdekppnobaaaGreat
set_option linter.unusedSimpArgs false
set_option linter.unusedVariables false
open Go.RowKit Ga
set_option maxRecDepth 100000

theorem len512 {l : List Tab.En} (h : ∀ x ∈ l, There x) (hu : l.Pairwise fun a b => Tab.num a ≠ Tab.num b) : l.length ≤ 512 := by
  have hn : (l.map fun x => (Tab.num x).toNat).Nodup := by
    rw [List.nodup_iff_pairwise_ne, List.pairwise_map]
    refine (List.pairwise_iff_forall_sublist.2 fun {a b} hs => ?_)
    have hab := (List.pairwise_iff_forall_sublist.1 hu) hs
    have ha := h a (hs.subset (List.mem_cons_self ..))
    have hb := h b (hs.subset (List.mem_cons_of_mem _ (List.mem_cons_self ..)))
    unfold There at ha hb
    unfold Tab.num at *
    omega
  have h2 := List.Nodup.length_le_of_subset (l₂ := List.range 512) hn fun y hy => by
    obtain ⟨x, hx, rfl⟩ := List.mem_map.1 hy
    have hx' := h x hx
    unfold There at hx'
    unfold Tab.num
    rw [List.mem_range]
    omega
  simpa using h2
theorem un_eq {m : List Tab.En} (hu : m.Pairwise fun a b => Tab.num a ≠ Tab.num b) {x y : Tab.En} (hx : x ∈ m) (hy : y ∈ m) (h : Tab.num x = Tab.num y) : x = y := by
  obtain ⟨i, hi, rfl⟩ := List.mem_iff_getElem.1 hx
  obtain ⟨j, hj, rfl⟩ := List.mem_iff_getElem.1 hy
  have hp := List.pairwise_iff_getElem.1 hu
  rcases Nat.lt_trichotomy i j with h3 | h3 | h3
  · exact absurd h (hp i j hi hj h3)
  · subst h3; rfl
  · exact absurd h.symm (hp j i hj hi h3)
/-- what has come up so far -/
structure Seen (D : DataW Unit) (m lo : List Tab.En) (left : Lit → Bool) : Prop where
  un : lo.Pairwise fun a b => Tab.num a ≠ Tab.num b
  sub : ∀ x ∈ lo, x ∈ m
  all : ∀ x ∈ m, ∀ kl, keyOf Tryz.prog 166 (ceK x.node x.key) = some kl → left kl = false → x ∈ lo
  out : ∀ x ∈ lo, ∀ kl, keyOf Tryz.prog 166 (ceK x.node x.key) = some kl → left kl = false
  has : ∀ kl, left kl = true → Maps.has D kl = true
theorem Seen.start {D : DataW Unit} {m : List Tab.En} (h : TabD D m) : Seen D m [] (Maps.has D) :=
  ⟨List.Pairwise.nil, fun x hx => (by cases hx), fun x hx kl hk hl => (by rw [(h.at' x hx kl hk).1] at hl; cases hl), fun x hx => (by cases hx), fun kl h => h⟩
theorem Seen.next {D : DataW Unit} {m lo : List Tab.En} {left : Lit → Bool} (h : Seen D m lo left) (hD : TabD D m) {n k : Int} {c0 c1 : Val} {kl : Lit} {y : DataW Unit × List MemPlace} (hk : keyOf Tryz.prog 166 (ceK n k) = some kl) (hl : left kl = true) (hR : ceR (cev c0 c1) = some y) (hat : ∀ zd, D.atKey kl zd = y.1) :
    Seen D m (lo ++ [⟨n, k, c0, c1⟩]) (fun z => left z && !z.sameKey kl) := by
  obtain ⟨p, hp, hpk⟩ := hD.has kl (h.has kl hl)
  obtain ⟨e1, e2⟩ := ceK_inj (cell_law.inj hpk hk)
  have h3 := (hD.at' p hp kl hpk).2 (.agg [])
  rw [hat, ← Option.some.inj hR] at h3
  obtain ⟨e3, e4⟩ := ceDat_inj h3
  obtain ⟨pn, pk, p0, p1⟩ := p
  simp only at e1 e2 e3 e4
  subst e1 e2 e3 e4
  have hself : kl.sameKey kl = true := WideAt.sameKey_self (cell_law.key hk)
  refine ⟨?_, fun x hx => ?_, fun x hx k2 hk2 hl2 => ?_, fun x hx k2 hk2 => ?_, fun k2 hk2 => ?_⟩
  · rw [List.pairwise_append]
    refine ⟨h.un, List.pairwise_singleton _ _, fun a ha b hb e => ?_⟩
    rw [List.mem_singleton] at hb
    subst hb
    obtain ⟨ka, hka⟩ := (hD.there a (h.sub a ha)).kl
    have h5 := h.out a ha ka hka
    rw [(key_other (hD.there a (h.sub a ha)) (hD.there _ hp) hka hk).2 e, hl] at h5
    cases h5
  · rcases List.mem_append.1 hx with h1 | h1
    · exact h.sub x h1
    · rw [List.mem_singleton] at h1
      subst h1
      exact hp
  · cases hq : left k2
    · exact List.mem_append_left _ (h.all x hx k2 hk2 hq)
    · rw [hq] at hl2
      have h6 : k2.sameKey kl = true := by simpa using hl2
      have h7 : k2 = kl := WideAt.sameKey_eq h6
      subst h7
      have h8 := un_eq hD.un hx hp ((key_other (hD.there x hx) (hD.there _ hp) hk2 hk).1 rfl)
      rw [h8]
      exact List.mem_append_right _ (List.mem_singleton.2 rfl)
  · rcases List.mem_append.1 hx with h1 | h1
    · rw [h.out x h1 k2 hk2]
      rfl
    · rw [List.mem_singleton] at h1
      subst h1
      have h9 : k2 = kl := Option.some.inj (hk2.symm.trans hk)
      subst h9
      rw [hself]
      simp
  · simp only [Bool.and_eq_true] at hk2
    exact h.has k2 hk2.1
theorem Seen.done {D : DataW Unit} {m lo : List Tab.En} {left : Lit → Bool} (h : Seen D m lo left) (hD : TabD D m) (h0 : ∀ kl, left kl = false) : lo.Perm m := by
  have hn : ∀ {l : List Tab.En}, (l.Pairwise fun a b => Tab.num a ≠ Tab.num b) → l.Nodup := fun hp => by
    rw [List.nodup_iff_pairwise_ne]
    exact hp.imp fun h e => h (by rw [e])
  rw [List.perm_ext_iff_of_nodup (hn h.un) (hn hD.un)]
  intro x
  refine ⟨h.sub x, fun hx => ?_⟩
  obtain ⟨kl, hk⟩ := (hD.there x hx).kl
  exact h.all x hx kl hk (h0 kl)
abbrev RangesC (W : World) (b r n : Nat) (D : DataW Unit) (left : Lit → Bool) (cnt : Nat) : Prop := W.ranges Tryz.prog 166 ceR b r n D left cnt
theorem rangesC_same {W W' : World} {b r n : Nat} {D : DataW Unit} {left : Lit → Bool} {cnt : Nat} (h : RangesC W b r n D left cnt) (hb : W'.heap[b]? = W.heap[b]?) (hr : W'.heap[r]? = W.heap[r]?) : RangesC W' b r n D left cnt := by
  obtain ⟨es, clock, since, seen, c0, h1, h2, h3, h4, h5, h6⟩ := h
  exact ⟨es, clock, since, seen, c0, hb.trans h1, h2, h3, h4, hr.trans h5, h6⟩
theorem rangesC_lt {W : World} {b r n : Nat} {D : DataW Unit} {left : Lit → Bool} {cnt : Nat} (h : RangesC W b r n D left cnt) : b < W.heap.size ∧ r < W.heap.size := by
  obtain ⟨es, clock, since, seen, c0, h1, h2, h3, h4, h5, h6⟩ := h
  exact ⟨heap_lt h1, heap_lt h5⟩
theorem rangesC_grew {W W' : World} {b r n : Nat} {D : DataW Unit} {left : Lit → Bool} {cnt : Nat} (h : RangesC W b r n D left cnt) (g : Grew W W') : RangesC W' b r n D left cnt :=
  rangesC_same h (g.below.block b (rangesC_lt h).1) (g.below.block r (rangesC_lt h).2)
theorem rangesC_own {W : World} {b r n : Nat} {D : DataW Unit} {left : Lit → Bool} {cnt : Nat} (h : RangesC W b r n D left cnt) {α : Type} {base : Nat} {e : TypeId} {k : Nat} {enc : α → List Value} {v : Value} {l : List α} (ho : OwnAt base e k enc W v l) : v.ownBlock ≠ some b ∧ v.ownBlock ≠ some r := by
  obtain ⟨es, clock, since, seen, c0, h1, h2, h3, h4, h5, h6⟩ := h
  constructor
  · intro hv
    obtain ⟨_, cs, hc⟩ := OwnAt.block ho hv
    rw [h1] at hc
    cases hc
  · intro hv
    obtain ⟨_, cs, hc⟩ := OwnAt.block ho hv
    rw [h5] at hc
    cases hc
theorem rangesC_app {W W' w0 : World} {b r n : Nat} {D : DataW Unit} {left : Lit → Bool} {cnt : Nat} (h : RangesC W b r n D left cnt) {α : Type} {base : Nat} {e : TypeId} {k : Nat} {enc : α → List Value} {v v' : Value} {l l2 : List α} (ho : OwnAt base e k enc W v l) (hA : Appended w0 e k enc W v l2 v' W') : RangesC W' b r n D left cnt :=
  rangesC_same h (hA.2.2.2.1 b (rangesC_lt h).1 (rangesC_own h ho).1) (hA.2.2.2.1 r (rangesC_lt h).2 (rangesC_own h ho).2)
theorem place_inv (key : Value) (kl : Lit) (h : keyOf Tryz.prog 166 key = some kl) : ∃ x : Int × Int, key = ceK x.1 x.2 := by
  have h2 : key.formed Tryz.prog 166 = true ∧ ∃ ls, Tryz.prog.keyLits (Tryz.prog.types.size + 1) 166 key.cells.toList = some ls := by
    unfold keyOf at h
    simp only [Tryz.underlying166] at h
    split at h
    · rename_i hc
      simp only [Bool.and_eq_true] at hc
      obtain ⟨ls, hls, _⟩ := Option.map_eq_some_iff.1 h
      exact ⟨hc.2, ls, hls⟩
    · cases h
  obtain ⟨hf, ls, hls⟩ := h2
  obtain ⟨m, hm⟩ := Nat.exists_eq_succ_of_ne_zero sizeC
  have hint : ∀ (c : Value) (l : List Lit), Tryz.prog.keyLits (m + 1) 3 [c] = some l → ∃ n : Int, c = .int .i64 n := by
    intro c l hc
    unfold Program.keyLits at hc
    simp only [Tryz.underlying3] at hc
    cases c <;> simp at hc
    rename_i k n
    obtain ⟨⟨rfl, _⟩, _⟩ := hc
    exact ⟨n, rfl⟩
  cases key with
  | agg cs =>
    obtain ⟨cs⟩ := cs
    have hsz : cs.length = 2 := by
      simp [Value.formed, Tryz.underlying166, cellsC] at hf
      exact hf
    match cs, hsz with
    | [c0, c1], _ =>
      rw [hm] at hls
      unfold Program.keyLits at hls
      simp [Tryz.underlying166, cellsC, cellsCI, Value.cells] at hls
      obtain ⟨l0, h0, h1⟩ := Option.bind_eq_some_iff.1 hls
      obtain ⟨_, h3, _⟩ := Option.map_eq_some_iff.1 h1
      obtain ⟨_, h4, _⟩ := Option.bind_eq_some_iff.1 h3
      obtain ⟨l1, h5, _⟩ := Option.bind_eq_some_iff.1 h4
      obtain ⟨n0, rfl⟩ := hint _ _ h0
      obtain ⟨n1, rfl⟩ := hint _ _ h5
      exact ⟨(n0, n1), rfl⟩
  | _ => simp [Value.formed, Tryz.underlying166] at hf
theorem cev_inv (v : Value) (y : DataW Unit × List MemPlace) (h : ceR v = some y) : ∃ c : Val × Val, v = cev c.1 c.2 := let ⟨c, e, _⟩ := ceR_inv h; ⟨c, e⟩
theorem infoEn : (Tryz.prog.info? 57).map (fun i => (i.zero, i.size, i.bytes)) = some (some (.agg #[.int .i64 0, .int .i64 0, .int .i64 0, .int .i64 0, .int .i64 0, .int .i64 0]), 6, 48) := by kernel_rfl
theorem en_at (W : World) (x : Tab.En) (t : TypeId) (b : Nat) {c : Array Value} (hc : c = (encEn x).toArray) (hb : b = W.heap.size) : ∀ j u, (([x] : List Tab.En).flatMap encEn)[j]? = some u → (W.alloc (.cells c t)).cell? ⟨b, j, none⟩ = some u := by
  subst hc
  intro j u hu
  rw [new_cells W _ t b hb j]
  simpa using hu
theorem asked_any (n k : Int) (w : World) : Calls Tryz.prog 89 #[.agg #[.int .i64 n, .int .i64 k]] w (Gives (.bool true) w) := by
  go_enter Tryz.func89, Tryz.ntmps89
  go_wp2
  go_ret
  exact ⟨rfl, by repeat (first | with_reducible exact Grew.refl _ | apply Grew.more | apply Grew.alloc | apply Grew.drew | apply Grew.drewN)⟩
/-- all that is kept, by places, in memory of the call's own -/
def AllPost (m : List Tab.En) (w : World) (e : Ending) (w' : World) : Prop := ∃ v s, e = .returned v ∧ OwnAt w.heap.size 57 6 encEn w' v s ∧ s.Perm m ∧ (s.Pairwise fun a b => Tab.num a ≤ Tab.num b) ∧ Grew w w'
set_option maxHeartbeats 8000000 in
theorem tabSome_any (W : World) (t b n : Nat) (m : List Tab.En) (hT : TableAt W t b n m) : Calls Tryz.prog 88 #[.pointer (some ⟨t, 0, none⟩), .func (.func 89) #[] #[]] W (AllPost m W) := by
  have tc := cell_of (o := 0) hT.1
  simp at tc
  have pt := Pre.mk (heap_lt hT.1)
  obtain ⟨D, ho, hD⟩ := hT.2
  have HO := Lib.hid ho
  have HD := Lib.hid hD
  have hbW := ho.lt
  clear hT ho hD
  go_enter Tryz.func88, Tryz.ntmps88
  go_wp2_with (at_range; refine wpList_range_own _ rfl (.tmp 13) 189 rfl 166 52 cell_law Tryz.underlying189 ceR b n D rfl HO.out ?_; intro W1 hr1 hg1 hs1; (have HR1 := Lib.hid hr1); (have HG1 := Lib.hid ((Grew.refl W).grown hg1 fun q hq => by cases hq)); clear hr1 hg1 hs1)
  go_simp
  go_loopg [5] (Maps.size D) (fun gg s5 wr => ∃ (left : Lit → Bool) (cnt : Nat) (lo : List Tab.En) (vk : Value), cnt ≤ gg ∧ vk = s5 ∧ Hid (OwnAt W.heap.size 57 6 encEn wr vk lo) ∧ Hid (RangesC wr b W.heap.size n D left cnt) ∧ Hid (Grew W wr) ∧ Hid (Seen D m lo left))
  case atStart => exact ⟨_, _, [], _, Nat.le_refl _, rfl, Lib.hid (OwnAt.nil _), HR1, HG1, Lib.hid (Seen.start HD.out)⟩
  case round =>
    obtain ⟨left, cnt, lo, vk, hgg, rfl, HOW, HRG, HG, HS⟩ := hrel
    have h512 := len512 (fun x hx => HD.out.there x (HS.out.sub x hx)) HS.out.un
    obtain ⟨ak, ck, rfl⟩ := (OwnAt.rows HOW.out encEn_len).len
    go_wp2_with (at_next; go_loud (refine wpList_next_ranges _ rfl (.tmp 14) rfl 166 cell_law ceR (fun x : Int × Int => ceK x.1 x.2) (fun c : Val × Val => cev c.1 c.2) place_inv cev_inv b W.heap.size n D left cnt rfl HRG.out ?_ ?_))
    · intro hc0 hl0
      have hp := HS.out.done HD.out hl0
      have HP := Lib.hid hp
      clear hc0 hl0 hp
      go_wp2_with (go_at_call 122; refine (sortEnts_any W.heap.size _ _ lo (OwnAt.grew HOW.out (by repeat (first | with_reducible exact Grew.refl _ | apply Grew.more | apply Grew.alloc | apply Grew.drew | apply Grew.drewN))) (fun x hx => HD.out.there x (HS.out.sub x hx)) (by omega)).mono ?_; rintro e w3 ⟨rfl, l', q1, q2, q3, q4, q5, q6⟩; (have Q1 := Lib.hid q1); (have Q2 := Lib.hid q2); (have Q3 := Lib.hid q3); (have Q6 := Lib.hid (q6 W (HG.out.trans (by repeat (first | with_reducible exact Grew.refl _ | apply Grew.more | apply Grew.alloc | apply Grew.drew | apply Grew.drewN))) (Nat.le_refl _))); clear q1 q2 q3 q4 q5 q6)
      go_ret
      exact ⟨_, l', rfl, Q1.out, Q2.out.trans HP.out, Q3.out, Q6.out⟩
    · intro n' k' p0 q0 p1 q1 kl y1 y2 W1 cnt1 hkk hlk hRy hat hrg1 hlt hg1 hs1 hen
      have HS1 := Lib.hid (HS.out.next HD.out hkk hlk hRy hat)
      have HG1 := Lib.hid (HG.out.grown hg1 fun q hq => by cases hq; exact Nat.le_refl _)
      have HO1 : Hid (OwnAt W.heap.size 57 6 encEn W1 (.slice ak lo.length ck) lo) := Lib.hid (OwnAt.same HOW.out fun q hq => hg1.block q (by obtain ⟨_, cs, hc⟩ := OwnAt.block HOW.out hq; exact heap_lt hc) (fun e => (rangesC_own HRG.out HOW.out).2 (by rw [hq, e])))
      have HRG1 := Lib.hid hrg1
      unfold ceK cev at hen ⊢
      clear hkk hlk hRy hat hrg1 hg1 hs1
      go_wp2_with (first
        | (go_at_call 89; refine (asked_any _ _ _).mono ?_; rintro e w3 ⟨rfl, R3, n3, rfl⟩)
        | (at_builtin; go_loud (refine wpList_ownK (w0 := W) rfl (.tmp 23) (.tmp 30) 23 _ _ _ _ [⟨n', k', (p0, q0), (p1, q1)⟩] rfl Tryz.underlying23 infoEn rfl (by decide) encEn_len encEn_one rfl (OwnAt.grew HO1.out (by repeat (first | with_reducible exact Grew.refl _ | apply Grew.more | apply Grew.alloc | apply Grew.drew | apply Grew.drewN))) (HG1.out.trans (by repeat (first | with_reducible exact Grew.refl _ | apply Grew.more | apply Grew.alloc | apply Grew.drew | apply Grew.drewN))) rfl (en_at _ _ _ _ rfl (by simp [go_sem])) (by simp; omega) (by decide) (by simp) ?_; intro v5 W5 hA; (have HA := Lib.hid hA); clear hA)))
      have HR5 := Lib.hid (rangesC_app (rangesC_grew HRG1.out (by repeat (first | with_reducible exact Grew.refl _ | apply Grew.more | apply Grew.alloc | apply Grew.drew | apply Grew.drewN))) (OwnAt.grew HO1.out (by repeat (first | with_reducible exact Grew.refl _ | apply Grew.more | apply Grew.alloc | apply Grew.drew | apply Grew.drewN))) HA.out)
      go_roundg cnt1
      case measure => omega
      case rel => exact ⟨_, cnt1, _, _, Nat.le_refl _, rfl, Lib.hid HA.out.2.1, HR5, Lib.hid HA.out.1, HS1⟩
theorem tabAll_any (W : World) (t b n : Nat) (m : List Tab.En) (hT : TableAt W t b n m) : Calls Tryz.prog 44 #[.pointer (some ⟨t, 0, none⟩)] W (AllPost m W) := by
  have HT := Lib.hid (tabSome_any W t b n m hT)
  clear hT
  go_enter Tryz.func44, Tryz.ntmps44
  go_wp2_with (go_at_call 88; refine HT.out.mono ?_; rintro e w1 ⟨v, s, rfl, h1, h2, h3, h4⟩; obtain ⟨ak, ck, rfl⟩ := (OwnAt.rows h1 encEn_len).len; (have H1 := Lib.hid h1); (have H2 := Lib.hid h2); (have H3 := Lib.hid h3); (have H4 := Lib.hid h4); clear h1 h2 h3 h4)
  go_ret
  exact ⟨_, s, rfl, H1.out, H2.out, H3.out, H4.out⟩
end Go.Proofs.YtepfdekppnobaaaGreat

/-! route.Parts. -/
namespace Go.Proofs.YtepfdekppnobaaaGreat
set_option linter.unusedSimpArgs false
set_option linter.unusedVariables false
open Go.RowKit Ga
set_option maxRecDepth 100000

theorem partE_snoc {n : Gr.Nd} {t : Int} {l : List Tab.En} {x : Tab.En} : Gr.partE n t (l ++ [x]) = Gr.partE n t l ++ (if x.node == n.id && Gr.taskOf n x.key == t then [x] else []) := by
  unfold Gr.partE
  rw [List.filter_append, List.filter_cons, List.filter_nil]
theorem partsN_len (n : Gr.Nd) (l : List Tab.En) : (Gr.partsN n l).length = n.par.toNat := by unfold Gr.partsN; simp
theorem partsN_get {n : Gr.Nd} {l : List Tab.En} {t : Nat} (h : t < n.par.toNat) : (Gr.partsN n l)[t]? = some (Gr.partE n t l) := by
  unfold Gr.partsN
  rw [List.getElem?_map, List.getElem?_range h]
  rfl
theorem partsN_skip {n : Gr.Nd} {l : List Tab.En} {x : Tab.En} (h : x.node ≠ n.id) : Gr.partsN n (l ++ [x]) = Gr.partsN n l := by
  unfold Gr.partsN
  refine List.map_congr_left fun t _ => ?_
  rw [partE_snoc, show (x.node == n.id) = false by simpa using h]
  simp
theorem partsN_put {n : Gr.Nd} {l : List Tab.En} {x : Tab.En} {t : Nat} (h : x.node = n.id) (ht : Gr.taskOf n x.key = (t : Int)) (hp : t < n.par.toNat) : Gr.partsN n (l ++ [x]) = (Gr.partsN n l).set t (Gr.partE n t l ++ [x]) := by
  refine List.ext_getElem? fun i => ?_
  by_cases hi : i < n.par.toNat
  · rw [partsN_get hi, List.getElem?_set]
    by_cases e : t = i
    · subst e
      rw [if_pos rfl, if_pos (by rw [partsN_len]; exact hi), partE_snoc, h, ht]
      simp
    · rw [if_neg e, partsN_get hi, partE_snoc, ht]
      have : ((t : Int) == (i : Int)) = false := by simpa using fun q => e (by omega)
      rw [this]
      simp
  · rw [List.getElem?_eq_none (by rw [partsN_len]; omega), List.getElem?_eq_none (by rw [List.length_set, partsN_len]; omega)]

/-- lists in memory of the call's own, side by side in a block -/
structure PartsIn (base : Nat) (W : World) (B : Nat) (vs : List Value) (ls : List (List Tab.En)) : Prop where
  blk : W.heap[B]? = some (.cells vs.toArray 23)
  len : vs.length = ls.length
  own : ∀ (i : Nat) (v : Value) (l : List Tab.En), vs[i]? = some v → ls[i]? = some l → OwnAt base 57 6 encEn W v l
  apart : ∀ (i j : Nat) (v u : Value) (b : Nat), i ≠ j → vs[i]? = some v → vs[j]? = some u → v.ownBlock = some b → u.ownBlock ≠ some b
theorem PartsIn.grew {base : Nat} {W W' : World} {B : Nat} {vs : List Value} {ls : List (List Tab.En)} (h : PartsIn base W B vs ls) (g : Grew W W') : PartsIn base W' B vs ls :=
  ⟨grew_heap g h.blk, h.len, fun i v l hi hl => (h.own i v l hi hl).grew g, h.apart⟩
theorem ownBlock_none : (Value.slice none 0 0).ownBlock = none := rfl
theorem PartsIn.start {base : Nat} {W : World} {B n : Nat} (h : W.heap[B]? = some (.cells (List.replicate n (.slice none 0 0)).toArray 23)) : PartsIn base W B (List.replicate n (.slice none 0 0)) (List.replicate n []) := by
  refine ⟨h, by simp, fun i v l hi hl => ?_, fun i j v u b _ hi _ hb => ?_⟩
  · rw [List.getElem?_replicate] at hi hl
    split at hi
    · cases hi
      rw [if_pos ‹_›] at hl
      cases hl
      exact OwnAt.nil _
    · cases hi
  · rw [List.getElem?_replicate] at hi
    split at hi
    · cases hi
      rw [ownBlock_none] at hb
      cases hb
    · cases hi
theorem PartsIn.put {w wr W2 W' : World} {B t : Nat} {vs : List Value} {ls : List (List Tab.En)} {v v' : Value} {l : List Tab.En} {x : Tab.En} (h : PartsIn w.heap.size wr B vs ls) (g : Grew wr W2) (ht : vs[t]? = some v)
    (hA : Appended w 57 6 encEn W2 v (l ++ [x]) v' W') : PartsIn w.heap.size (W'.setCell ⟨B, t, none⟩ v') B (vs.set t v') (ls.set t (l ++ [x])) := by
  obtain ⟨a1, a2, a3, a4, a5⟩ := hA
  have h2 := h.grew g
  obtain ⟨lt', hlt'⟩ : ∃ l0, ls[t]? = some l0 := by
    have := (List.getElem?_eq_some_iff.1 ht).1
    exact ⟨_, List.getElem?_eq_getElem (by have := h.len; omega)⟩
  have hov := h2.own t v lt' ht hlt'
  have hBne : v.ownBlock ≠ some B := OwnAt.other hov h2.blk (by decide)
  have hB' : W'.heap[B]? = some (.cells vs.toArray 23) := by rw [a4 B (heap_lt h2.blk) hBne]; exact h2.blk
  have keep : ∀ (u : Value) (q : List Tab.En), OwnAt w.heap.size 57 6 encEn W' u q → OwnAt w.heap.size 57 6 encEn (W'.setCell ⟨B, t, none⟩ v') u q := fun u q ho =>
    OwnAt.same ho fun b hb => set_other fun e => OwnAt.other ho hB' (by decide) (e ▸ hb)
  have hlt : t < vs.length := (List.getElem?_eq_some_iff.1 ht).1
  refine ⟨?_, by simp [h.len], fun i u q hi hq => ?_, fun i j u z b hij hi hj hb => ?_⟩
  · rw [set_self hB', List.setIfInBounds_toArray]
  · refine keep _ _ ?_
    rw [List.getElem?_set] at hi hq
    by_cases e : t = i
    · subst e
      rw [if_pos rfl, if_pos hlt] at hi
      rw [if_pos rfl, if_pos (by have := h.len; omega)] at hq
      cases hi
      cases hq
      exact a2
    · rw [if_neg e] at hi hq
      have ho := h2.own i u q hi hq
      exact OwnAt.same ho fun b hb => a4 b (by obtain ⟨-, c, hc⟩ := OwnAt.block ho hb; exact heap_lt hc) fun hv => h2.apart t i v u b e ht hi hv hb
  · rw [List.getElem?_set] at hi hj
    have lt_of : ∀ (p : Nat) (u : Value) (b : Nat), vs[p]? = some u → u.ownBlock = some b → b < W2.heap.size := fun p u b hp hb => by
      have hpl : p < ls.length := by have := (List.getElem?_eq_some_iff.1 hp).1; have := h.len; omega
      obtain ⟨-, c, hc⟩ := OwnAt.block (h2.own p u _ hp (List.getElem?_eq_getElem hpl)) hb
      exact heap_lt hc
    by_cases e : t = i
    · subst e
      rw [if_pos rfl, if_pos hlt] at hi
      rw [if_neg hij] at hj
      cases hi
      rcases a5 b hb with h5 | h5
      · exact h2.apart t j v z b hij ht hj h5
      · intro hz
        have := lt_of j z b hj hz
        omega
    · rw [if_neg e] at hi
      by_cases e2 : t = j
      · subst e2
        rw [if_pos rfl, if_pos hlt] at hj
        cases hj
        intro hz
        rcases a5 b hz with h5 | h5
        · exact h2.apart i t u v b hij hi ht hb h5
        · have := lt_of i u b hi hb
          omega
      · rw [if_neg e2] at hj
        exact h2.apart i j u z b hij hi hj hb
theorem PartsIn.after {w wr W2 W' : World} {B t : Nat} {vs : List Value} {ls : List (List Tab.En)} {v v' : Value} {l l' : List Tab.En} (h : PartsIn w.heap.size wr B vs ls) (ht : vs[t]? = some v) (hl : ls[t]? = some l) (g : Grew wr W2)
    (hA : Appended w 57 6 encEn W2 v l' v' W') : W'.heap[B]? = some (.cells vs.toArray 23) ∧ W'.cell? ⟨B, t, none⟩ = some v ∧ W'.frozen? ⟨B, t, none⟩ = false ∧ Pre B W' ∧ ∃ a c, v' = .slice a l'.length c := by
  obtain ⟨a1, a2, a3, a4, a5⟩ := hA
  have hb := grew_heap g h.blk
  have hb' : W'.heap[B]? = some (.cells vs.toArray 23) := by
    rw [a4 B (heap_lt hb) (OwnAt.other ((h.own t v l ht hl).grew g) hb (by decide))]
    exact hb
  refine ⟨hb', ?_, frozen_of hb', Pre.mk (heap_lt hb'), (OwnAt.rows a2 encEn_len).len⟩
  rw [cell_of hb']
  simpa using ht
def PartsPost (w : World) (n : Gr.Nd) (l : List Tab.En) (e : Ending) (w' : World) : Prop := ∃ (B : Nat) (vs : List Value), e = .returned (.slice (some ⟨B, 0, none⟩) n.par.toNat n.par.toNat) ∧ w.heap.size ≤ B ∧ PartsIn w.heap.size w' B vs (Gr.partsN n l) ∧ Grew w w'
theorem infoEnts : (Tryz.prog.info? 23).map (fun i => (i.zero, i.size, i.bytes)) = some (some (.slice none 0 0), 1, 24) := by kernel_rfl
theorem make_parts (p : Nat) (hp3 : p = 1 ∨ p = 2 ∨ p = 3) (W : World) : (Instr.makeSlice 125 (.int .i64 (p : Int)) (.int .i64 (p : Int))).run Tryz.prog W = .ok (.slice (some ⟨W.heap.size, 0, none⟩) p p) (W.alloc (.cells (List.replicate p (.slice none 0 0)).toArray 23)) := by
  obtain ⟨i, hi, hz0, hz1, hz2⟩ := info_parts infoEnts
  have h := run_makeSlice (P := Tryz.prog) W 125 23 i (.slice none 0 0) Tryz.underlying125 hi hz0 .i64 .i64 (p : Int) (p : Int) (by omega) (by omega) (by rw [hz1]; omega) (by rw [hz2]; omega) (by omega)
  rw [h, hz1]
  have hm : ∀ q : Nat, q = 1 ∨ q = 2 ∨ q = 3 → madeCells (Value.slice none 0 0).cells ((q : Int).toNat * 1) = (List.replicate q (Value.slice none 0 0)).toArray := fun q hq => by
    rcases hq with rfl | rfl | rfl <;> kernel_rfl
  rw [hm p hp3, Int.toNat_natCast]
set_option maxHeartbeats 16000000 in
theorem parts_go (c : NdC) (n : Gr.Nd) (a : Option Addr) (cap : Nat) (l : List Tab.En) (w : World) (hn : NodeIs w c n) (hv : EntsAt w (.slice a l.length cap) l) (hr : rtB n.par n.route = true) (hl : l.length ≤ 100000) (p : Nat) (hp : n.par = (p : Int)) (hp3 : p = 1 ∨ p = 2 ∨ p = 3) : Calls Tryz.prog 56 #[.agg #[.int .i64 c.id, .int .i64 c.kind, .slice c.af c.nf c.cf, .slice c.ap c.np c.cp, .int .i64 c.par, .int .i64 c.r0, .int .i64 c.r1, .int .i64 c.r2, .int .i64 c.r3, .int .i64 c.r4, .int .i64 c.r5, .int .i64 c.r6, .int .i64 c.r7], .slice a l.length cap] w (PartsPost w n l) := by
  have HV := Lib.hid hv
  have e1 := hn.id
  have e2 := hn.par
  have e3 := hn.route
  have htk : ∀ k : Int, ∃ t : Nat, Gr.taskOf n k = (t : Int) ∧ t < p := fun k => by
    have := Gr.taskOf_range (n := n) (by rw [e3]; rfl) (rtB_iff.1 hr).2 k
    exact ⟨(Gr.taskOf n k).toNat, by omega, by omega⟩
  obtain ⟨cid, kind, af, nf, cf, ap, np, cp, par, r0, r1, r2, r3, r4, r5, r6, r7⟩ := c
  simp only at e1 e2 e3
  have htd : ∀ k : Int, Gr.taskOf n k = [r0, r1, r2, r3, r4, r5, r6, r7].getD (k % 8).toNat 0 := fun k => by unfold Gr.taskOf; rw [e3]
  have hpp : par = (p : Int) := by omega
  subst hpp
  rw [hp, e3] at hr
  have HR := Lib.hid fun W => routeRight_any (p : Int) r0 r1 r2 r3 r4 r5 r6 r7 W
  rw [hr] at HR
  have HT := Lib.hid fun k W => routeTask_any r0 r1 r2 r3 r4 r5 r6 r7 k W
  have HTK2 := Lib.hid htk
  have HTD := Lib.hid htd
  have hpn : n.par.toNat = p := by omega
  have HPN := Lib.hid hpn
  have HE1 := Lib.hid e1
  clear hv hn e2 e3 hr htk htd hp hpn e1
  show Calls Tryz.prog 56 #[.agg #[.int .i64 cid, .int .i64 kind, .slice af nf cf, .slice ap np cp, .int .i64 (p : Int), .int .i64 r0, .int .i64 r1, .int .i64 r2, .int .i64 r3, .int .i64 r4, .int .i64 r5, .int .i64 r6, .int .i64 r7], .slice a l.length cap] w _
  have hmk := make_parts p hp3
  have hp9 : p ≤ 3 := by omega
  have hp1 : 1 ≤ p := by omega
  clear hp3
  go_enter Tryz.func56, Tryz.ntmps56
  go_wp2_with (go_at_call 97; refine (HR.out _).mono ?_; rintro e w1 ⟨rfl, R1, n1, rfl⟩)
  have hst0 : Gr.partsN n [] = List.replicate p [] := by
    have := HPN.out
    unfold Gr.partsN
    rw [this]
    refine List.ext_getElem? fun i => ?_
    rw [List.getElem?_map, List.getElem?_replicate]
    by_cases hi : i < p
    · rw [List.getElem?_range hi, if_pos hi]; rfl
    · rw [List.getElem?_eq_none (by simpa using hi), if_neg hi]; rfl
  have HST0 := Lib.hid hst0
  clear hst0
  obtain ⟨B, hB⟩ : ∃ B, w.heap.size + 1 + R1.size = B := ⟨_, rfl⟩
  rw [hB]
  have hBw : w.heap.size + 1 ≤ B := by omega
  have HB := Lib.hid hB
  clear hB
  go_loopg [20] l.length (fun gg s20 wr => ∃ (k : Nat) (vs : List Value), k ≤ l.length ∧ l.length - k ≤ gg ∧ s20 = .int .i64 k ∧ Hid (Grew w wr) ∧ Hid (wr.heap[w.heap.size]? = some (.cells #[.int .i64 cid, .int .i64 kind, .slice af nf cf, .slice ap np cp, .int .i64 (p : Int), .int .i64 r0, .int .i64 r1, .int .i64 r2, .int .i64 r3, .int .i64 r4, .int .i64 r5, .int .i64 r6, .int .i64 r7] 64)) ∧ Hid (PartsIn w.heap.size wr B vs (Gr.partsN n (l.take k))))
  case atStart => exact ⟨0, _, by omega, by omega, rfl, Lib.hid (by repeat (first | with_reducible exact Grew.refl _ | apply Grew.more | apply Grew.alloc | apply Grew.drew | apply Grew.drewN)), Lib.hid (grew_heap (by repeat (first | with_reducible exact Grew.refl _ | apply Grew.more | apply Grew.alloc | apply Grew.drew | apply Grew.drewN)) (heap_new_at _ _ _ rfl)), Lib.hid (by rw [List.take_zero, HST0.out]; exact PartsIn.start (by rw [List.toArray_replicate]; exact heap_new_at _ _ _ (by rw [← HB.out]; simp [go_sem])))⟩
  case round =>
    obtain ⟨k, vs, hk, hgg, rfl, HG, HBX, HPI⟩ := hrel
    by_cases hlt : k < l.length
    · obtain ⟨a', cap', e, -, hx⟩ := EntsAt.open6 (HV.out.grew HG.out)
      cases e
      obtain ⟨b, off, rfl, hb, c0, c1, c2, c3, c4, c5⟩ := hx k hlt
      have HTK := Lib.hid (List.take_succ_eq_append_getElem hlt)
      clear hx
      have n0 := cell_of (o := 0) HBX.out
      have n5 := cell_of (o := 5) HBX.out
      have n6 := cell_of (o := 6) HBX.out
      have n7 := cell_of (o := 7) HBX.out
      have n8 := cell_of (o := 8) HBX.out
      have n9 := cell_of (o := 9) HBX.out
      have n10 := cell_of (o := 10) HBX.out
      have n11 := cell_of (o := 11) HBX.out
      have n12 := cell_of (o := 12) HBX.out
      simp at n0 n5 n6 n7 n8 n9 n10 n11 n12
      have pn := Pre.mk (heap_lt HBX.out)
      generalize l[k] = x at *
      obtain ⟨xn, ky, ⟨p0, q0⟩, ⟨p1, q1⟩⟩ := x
      simp only at c0 c1 c2 c3 c4 c5
      by_cases hid : xn = cid
      case neg =>
        have hne : (xn == cid) = false := by simpa using hid
        have HS : Hid (Gr.partsN n (l.take (k + 1)) = Gr.partsN n (l.take k)) := Lib.hid (by rw [HTK.out]; exact partsN_skip (by rw [HE1.out]; exact hid))
        clear hid
        go_wp2
        go_roundg (l.length - (k + 1))
        case measure => omega
        case rel => exact ⟨k + 1, vs, by omega, by omega, by go_num, Lib.hid (HG.out.trans (by repeat (first | with_reducible exact Grew.refl _ | apply Grew.more | apply Grew.alloc | apply Grew.drew | apply Grew.drewN))), Lib.hid (grew_heap (by repeat (first | with_reducible exact Grew.refl _ | apply Grew.more | apply Grew.alloc | apply Grew.drew | apply Grew.drewN)) HBX.out), Lib.hid (by rw [HS.out]; exact HPI.out.grew (by repeat (first | with_reducible exact Grew.refl _ | apply Grew.more | apply Grew.alloc | apply Grew.drew | apply Grew.drewN)))⟩
      subst hid
      obtain ⟨t, ht, htp⟩ := HTK2.out ky
      have HTT : Hid (∀ W : World, Calls Tryz.prog 98 #[.agg #[.int .i64 r0, .int .i64 r1, .int .i64 r2, .int .i64 r3, .int .i64 r4, .int .i64 r5, .int .i64 r6, .int .i64 r7], .int .i64 ky] W (Gives (.int .i64 (t : Int)) W)) := Lib.hid fun W => by
        have := HT.out ky W
        rw [← HTD.out ky, ht] at this
        exact this
      have htn : t < n.par.toNat := by rw [HPN.out]; exact htp
      have hls := partsN_get (n := n) (l := l.take k) htn
      have hvl : t < vs.length := by rw [HPI.out.len, partsN_len]; exact htn
      obtain ⟨v, hv⟩ : ∃ v, vs[t]? = some v := ⟨_, List.getElem?_eq_getElem hvl⟩
      have HS : Hid (Gr.partsN n (l.take (k + 1)) = (Gr.partsN n (l.take k)).set t (Gr.partE n (t : Int) (l.take k) ++ [⟨xn, ky, (p0, q0), (p1, q1)⟩])) := Lib.hid (by rw [HTK.out]; exact partsN_put (by rw [HE1.out]) ht htn)
      have hov := HPI.out.own t v _ hv hls
      have hlen : (Gr.partE n (t : Int) (l.take k)).length ≤ 100000 := Nat.le_trans (List.length_filter_le _ _) (by rw [List.length_take]; omega)
      obtain ⟨av, cv, hvv⟩ := (OwnAt.rows hov encEn_len).len
      have cB := cell_of (o := t) HPI.out.blk
      rw [List.getElem?_toArray, hv] at cB
      have pB := Pre.mk (heap_lt HPI.out.blk)
      have HV1 := Lib.hid hv
      have HLS := Lib.hid hls
      have HOV := Lib.hid hov
      have HVV := Lib.hid hvv
      rw [hvv] at cB
      have HTN := Lib.hid htn
      generalize Gr.partE n (t : Int) (l.take k) = q at *
      clear hv hls hov hvv htn ht hvl
      have hvv := HVV.out
      subst hvv
      go_wp2_with (go_at_call 98; refine (HTT.out _).mono ?_; rintro e w1 ⟨rfl, R2, n2, rfl⟩)
      refine wp_region_noPanic ?_
      go_region_law (refine step_ownK (w0 := w) (v := .slice av q.length cv) rfl (.tmp 39) (.tmp 41) 23 _ _ _ _ [⟨xn, ky, (p0, q0), (p1, q1)⟩] rfl Tryz.underlying23 infoEn rfl (by decide) encEn_len encEn_one rfl (OwnAt.grew HOV.out (by repeat (first | with_reducible exact Grew.refl _ | apply Grew.more | apply Grew.alloc | apply Grew.drew | apply Grew.drewN))) (HG.out.trans (by repeat (first | with_reducible exact Grew.refl _ | apply Grew.more | apply Grew.alloc | apply Grew.drew | apply Grew.drewN))) rfl (en_at _ _ _ _ rfl (by simp [go_sem])) (by simp; omega) (by decide) Nat.one_pos ?_; intro v7 W7 hA; obtain ⟨hb7, cb7, fb7, pb7, a7, c7, rfl⟩ := HPI.out.after HV1.out HLS.out (by repeat (first | with_reducible exact Grew.refl _ | apply Grew.more | apply Grew.alloc | apply Grew.drew | apply Grew.drewN)) hA; (have HA := Lib.hid hA); (have HB7 := Lib.hid hb7); clear hA hb7)
      all_goals
        refine NoPanic.normal ?_
        go_wp2
        go_roundg (l.length - (k + 1))
        case measure => omega
        case rel =>
          refine ⟨k + 1, _, by omega, by omega, by go_num, Lib.hid (Grew.set HA.out.1 (by omega) _), Lib.hid ?_, Lib.hid (by have hA := HA.out; rw [List.length_append, List.length_singleton] at hA; rw [HS.out]; exact HPI.out.put (by repeat (first | with_reducible exact Grew.refl _ | apply Grew.more | apply Grew.alloc | apply Grew.drew | apply Grew.drewN)) HV1.out hA)⟩
          rw [set_other (by omega), HA.out.2.2.2.1 _ (by have := heap_lt HBX.out; simp [go_sem]; omega) (OwnAt.other HOV.out HBX.out (by decide))]
          exact grew_heap (by repeat (first | with_reducible exact Grew.refl _ | apply Grew.more | apply Grew.alloc | apply Grew.drew | apply Grew.drewN)) HBX.out
    · obtain rfl : k = l.length := by omega
      have hpi := HPI.out
      rw [List.take_length] at hpi
      have HP9 := Lib.hid hpi
      clear hpi
      go_wp2
      go_ret
      exact ⟨B, vs, by rw [HPN.out]; rfl, by omega, HP9.out, HG.out⟩
theorem parts_any (c : NdC) (n : Gr.Nd) (a : Option Addr) (cap : Nat) (l : List Tab.En) (w : World) (hn : NodeIs w c n) (hv : EntsAt w (.slice a l.length cap) l) (hr : rtB n.par n.route = true) (hl : l.length ≤ 100000) : Calls Tryz.prog 56 #[.agg #[.int .i64 c.id, .int .i64 c.kind, .slice c.af c.nf c.cf, .slice c.ap c.np c.cp, .int .i64 c.par, .int .i64 c.r0, .int .i64 c.r1, .int .i64 c.r2, .int .i64 c.r3, .int .i64 c.r4, .int .i64 c.r5, .int .i64 c.r6, .int .i64 c.r7], .slice a l.length cap] w (PartsPost w n l) := by
  have h := (rtB_iff.1 hr).1
  exact parts_go c n a cap l w hn hv hr hl n.par.toNat (by omega) (by omega)
end Go.Proofs.YtepfdekppnobaaaGreat
