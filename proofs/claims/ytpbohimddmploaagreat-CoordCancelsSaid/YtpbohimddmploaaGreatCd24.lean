import Derived.Test.YtpbohimddmploaaGreatCd12
import Derived.Test.YtpbohimddmploaaGreatCd21
import Derived.Test.YtpbohimddmploaaGreatCd8
import Derived.Test.YtpbohimddmploaaGreatCd7
import Derived.Deep.LoopGhost
import Derived.Maps.RangeWalk
import Derived.Test.YtpbohimddmploaaGreatCd19
import Derived.Test.YtpbohimddmploaaGreatCd10
set_option linter.unusedSimpArgs false
set_option linter.unusedVariables false
set_option maxRecDepth 100000
set_option maxHeartbeats 64000000
namespace Go.Proofs.YtpbohimddmploaaGreat
open Go.RowKit Ga

abbrev Sm := { x : Tab.En // There x }
instance : Inhabited Sm := ⟨⟨⟨0, 0, (0, 0), (0, 0)⟩, ⟨by decide, by decide⟩, ⟨by decide, by decide⟩⟩⟩
def encSm (x : Sm) : List Value := encEn x.1
theorem encSm_len (x : Sm) : (encSm x).length = 6 := rfl
def cmpSm (x y : Sm) : Int := (x.1.node - y.1.node) * 64 + x.1.key - y.1.key
theorem cmpSm_num (x y : Sm) : cmpSm x y = Tab.num x.1 - Tab.num y.1 := by unfold cmpSm Tab.num; omega
theorem ltSm (x y : Sm) : ltOf cmpSm x y = decide (Tab.num x.1 < Tab.num y.1) := by
  unfold ltOf
  rw [cmpSm_num]
  exact decide_eq_decide.2 (by omega)
theorem swoSm : Sort.SWO (ltOf cmpSm) := by
  refine ⟨fun x => ?_, fun x y z h1 h2 => ?_, fun x y z h1 h2 => ?_⟩
  · rw [ltSm]; simp
  · rw [ltSm] at *; simp only [decide_eq_true_eq] at *; omega
  · rw [ltSm] at *; simp only [decide_eq_false_iff_not] at *; omega
theorem cmpEn_any (x y : Sm) (W : World) : Calls Tryz.prog 225 #[.agg (encSm x).toArray, .agg (encSm y).toArray] W fun e w' => e = .returned (.int .i64 (cmpSm x y)) ∧ ∃ q os', w' = Sort.grow (W.drewN q) os' := by
  obtain ⟨⟨n1, k1, ⟨a1, b1⟩, ⟨c1, d1⟩⟩, ⟨h1, h2⟩, h3, h4⟩ := x
  obtain ⟨⟨n2, k2, ⟨a2, b2⟩, ⟨c2, d2⟩⟩, ⟨g1, g2⟩, g3, g4⟩ := y
  simp only at h1 h2 h3 h4 g1 g2 g3 g4
  unfold cmpSm
  simp only
  show Calls Tryz.prog _ #[.agg #[.int .i64 n1, .int .i64 k1, .int .i64 a1, .int .i64 b1, .int .i64 c1, .int .i64 d1], .agg #[.int .i64 n2, .int .i64 k2, .int .i64 a2, .int .i64 b2, .int .i64 c2, .int .i64 d2]] W _
  go_enter Tryz.func225, Tryz.ntmps225
  go_wp2
  go_ret
  exact ⟨rfl, 0, _, by rw [Sort.alloc_eq_grow, Sort.alloc_eq_grow, Sort.grow_grow]; rfl⟩
theorem enters225 : ∀ args w, (callFunc 225 args).run Tryz.prog w = .ok (.enter 225 args) w := enters_of Tryz.func225 (by kernel_rfl) rfl
def SortPostE (base : Nat) (W : World) (v : Value) (l : List Tab.En) (e : Ending) (w' : World) : Prop :=
  e = .returned (.tuple #[]) ∧ ∃ l', OwnAt base 120 6 encEn w' v l' ∧ l'.Perm l ∧ (l'.Pairwise fun a b => Tab.num a ≤ Tab.num b) ∧ (∀ q, q < W.heap.size → v.ownBlock ≠ some q → w'.heap[q]? = W.heap[q]?) ∧ W.heap.size ≤ w'.heap.size ∧ (∀ w0, Grew w0 W → w0.heap.size ≤ base → Grew w0 w')
theorem ownSm {base : Nat} {W : World} {v : Value} {ls : List Sm} : OwnAt base 120 6 encSm W v ls ↔ OwnAt base 120 6 encEn W v (ls.map (·.1)) := by
  unfold OwnAt
  rw [List.length_map, List.flatMap_map]
  exact Iff.rfl
theorem sm_list : ∀ (l : List Tab.En), (∀ x ∈ l, There x) → ∃ ls : List Sm, l = ls.map (·.1)
  | [], _ => ⟨[], rfl⟩
  | x :: l, h => by
    obtain ⟨ls, e⟩ := sm_list l fun y hy => h y (List.mem_cons_of_mem _ hy)
    exact ⟨⟨x, h x (List.mem_cons_self ..)⟩ :: ls, by rw [List.map_cons, ← e]⟩
theorem sortEnts_any (base : Nat) (W : World) (v : Value) (l : List Tab.En) (h : OwnAt base 120 6 encEn W v l) (hth : ∀ x ∈ l, There x) (hl : l.length ≤ 1000000) :
    Calls Tryz.prog 224 #[v, .func (.func 225) #[] #[]] W (SortPostE base W v l) := by
  rcases OwnAt.form h with ⟨rfl, hn⟩ | ⟨b, cap, rfl, hb, hc, hm⟩
  · subst hn
    have h1 : Calls Tryz.prog 224 #[.slice none 0 0, .func (.func 225) #[] #[]] W _ := sortNone_any (.func (.func 225) #[] #[]) W
    refine h1.mono fun e w' ⟨he, hw⟩ => ?_
    subst hw
    exact ⟨he, [], h, List.Perm.refl _, List.Pairwise.nil, fun _ _ _ => rfl, Nat.le_refl _, fun _ g _ => g⟩
  · obtain ⟨ls, rfl⟩ := sm_list l hth
    rw [List.length_map] at hl hc ⊢
    have ho := ownSm.2 h
    rw [List.length_map] at ho
    obtain ⟨hh, hb1, hb2⟩ := own_holdsKG encSm_len (by decide) ho
    have hcon := AnyQ.slices_SortFunc Tryz.sortEnt 6 Tryz.isAgg120 Tryz.sizeOf120 encSm encSm_len (fun x => encEn_one x.1) cmpSm swoSm 225 #[] b 0 cap ls.toArray W enters225 (fun m os dk _ x y => cmpEn_any x y _) hh hb2 (by simp; omega)
    have hcon2 : Calls Tryz.prog 224 #[.slice (some ⟨b, 0, none⟩) ls.length cap, .func (.func 225) #[] #[]] W _ := hcon
    refine hcon2.mono fun e w' ⟨he, d', n, os, hp, hs, hw⟩ => ?_
    obtain ⟨p1, p2, p3⟩ := hp
    have hsz : d'.size = ls.length := by rw [p1]; simp
    have hperm : d'.toList.Perm ls := by
      have e1 : d'.extract 0 ls.toArray.size = d' := by rw [show ls.toArray.size = d'.size from by rw [p1]]; simp
      have e2 : ls.toArray.extract 0 ls.toArray.size = ls.toArray := by simp
      rw [e1, e2] at p3
      exact p3
    obtain ⟨q1, q2, q3⟩ := own_ofSortG (m := n) (os := os) (lc' := d'.toList) encSm_len (by decide) ho (by simpa using hsz)
    have hw2 : w' = sortWorldK encSm 6 W b 0 n d'.toList.toArray os := by rw [hw]
    rw [← hw2] at q1 q2 q3
    refine ⟨he, d'.toList.map (·.1), ownSm.1 q1, hperm.map _, ?_, fun q hq hne => q2 q hq fun e => hne (by rw [e]; rfl), q3, fun w0 g hb0 => ?_⟩
    · rw [List.pairwise_map, List.pairwise_iff_getElem]
      intro i j hi hj hij
      have hi' : i < d'.size := by simpa using hi
      have hj' : j < d'.size := by simpa using hj
      have h5 := hs i j (Nat.zero_le _) hij (by rw [← p1]; exact hj')
      rw [getElem!_pos d' i hi', getElem!_pos d' j hj', ltSm] at h5
      simp only [decide_eq_false_iff_not, Array.getElem_toList] at h5 ⊢
      omega
    · rw [hw2]
      unfold sortWorldK Sort.putRowK
      exact grewOs (grewRow (grewAhead g _) (by omega)) _

theorem len512 {l : List Tab.En} (h : ∀ x ∈ l, There x) (hu : l.Pairwise fun a b => Tab.num a ≠ Tab.num b) : l.length ≤ 512 := by
  have hn : (l.map fun x => (Tab.num x).toNat).Nodup := by
    rw [List.nodup_iff_pairwise_ne, List.pairwise_map]
    refine (List.pairwise_iff_forall_sublist.2 fun {a b} hs => ?_)
    have hab := (List.pairwise_iff_forall_sublist.1 hu) hs
    have ha := h a (hs.subset (List.mem_cons_self ..))
    have hb := h b (hs.subset (List.mem_cons_of_mem _ (List.mem_cons_self ..)))
    unfold There at ha hb
    unfold Tab.num at *
    omega
  have h2 := List.Nodup.length_le_of_subset (l₂ := List.range 512) hn fun y hy => by
    obtain ⟨x, hx, rfl⟩ := List.mem_map.1 hy
    have hx' := h x hx
    unfold There at hx'
    unfold Tab.num
    rw [List.mem_range]
    omega
  simpa using h2
theorem un_eq {m : List Tab.En} (hu : m.Pairwise fun a b => Tab.num a ≠ Tab.num b) {x y : Tab.En} (hx : x ∈ m) (hy : y ∈ m) (h : Tab.num x = Tab.num y) : x = y := by
  obtain ⟨i, hi, rfl⟩ := List.mem_iff_getElem.1 hx
  obtain ⟨j, hj, rfl⟩ := List.mem_iff_getElem.1 hy
  have hp := List.pairwise_iff_getElem.1 hu
  rcases Nat.lt_trichotomy i j with h3 | h3 | h3
  · exact absurd h (hp i j hi hj h3)
  · subst h3; rfl
  · exact absurd h.symm (hp j i hj hi h3)
structure Seen (D : DataW Unit) (m lo : List Tab.En) (left : Lit → Bool) : Prop where
  un : lo.Pairwise fun a b => Tab.num a ≠ Tab.num b
  sub : ∀ x ∈ lo, x ∈ m
  all : ∀ x ∈ m, ∀ kl, keyOf Tryz.prog 271 (ceK x.node x.key) = some kl → left kl = false → x ∈ lo
  out : ∀ x ∈ lo, ∀ kl, keyOf Tryz.prog 271 (ceK x.node x.key) = some kl → left kl = false
  has : ∀ kl, left kl = true → Maps.has D kl = true
theorem Seen.start {D : DataW Unit} {m : List Tab.En} (h : TabD D m) : Seen D m [] (Maps.has D) :=
  ⟨List.Pairwise.nil, fun x hx => (by cases hx), fun x hx kl hk hl => (by rw [(h.at' x hx kl hk).1] at hl; cases hl), fun x hx => (by cases hx), fun kl h => h⟩
theorem Seen.next {D : DataW Unit} {m lo : List Tab.En} {left : Lit → Bool} (h : Seen D m lo left) (hD : TabD D m) {n k : Int} {c0 c1 : Val} {kl : Lit} {y : DataW Unit × List MemPlace} (hk : keyOf Tryz.prog 271 (ceK n k) = some kl) (hl : left kl = true) (hR : ceR (cev c0 c1) = some y) (hat : ∀ zd, D.atKey kl zd = y.1) :
    Seen D m (lo ++ [⟨n, k, c0, c1⟩]) (fun z => left z && !z.sameKey kl) := by
  obtain ⟨p, hp, hpk⟩ := hD.has kl (h.has kl hl)
  obtain ⟨e1, e2⟩ := ceK_inj (cell_law.inj hpk hk)
  have h3 := (hD.at' p hp kl hpk).2 (.agg [])
  rw [hat, ← Option.some.inj hR] at h3
  obtain ⟨e3, e4⟩ := ceDat_inj h3
  obtain ⟨pn, pk, p0, p1⟩ := p
  simp only at e1 e2 e3 e4
  subst e1 e2 e3 e4
  have hself : kl.sameKey kl = true := WideAt.sameKey_self (cell_law.key hk)
  refine ⟨?_, fun x hx => ?_, fun x hx k2 hk2 hl2 => ?_, fun x hx k2 hk2 => ?_, fun k2 hk2 => ?_⟩
  · rw [List.pairwise_append]
    refine ⟨h.un, List.pairwise_singleton _ _, fun a ha b hb e => ?_⟩
    rw [List.mem_singleton] at hb
    subst hb
    obtain ⟨ka, hka⟩ := (hD.there a (h.sub a ha)).kl
    have h5 := h.out a ha ka hka
    rw [(key_other (hD.there a (h.sub a ha)) (hD.there _ hp) hka hk).2 e, hl] at h5
    cases h5
  · rcases List.mem_append.1 hx with h1 | h1
    · exact h.sub x h1
    · rw [List.mem_singleton] at h1
      subst h1
      exact hp
  · cases hq : left k2
    · exact List.mem_append_left _ (h.all x hx k2 hk2 hq)
    · rw [hq] at hl2
      have h6 : k2.sameKey kl = true := by simpa using hl2
      have h7 : k2 = kl := WideAt.sameKey_eq h6
      subst h7
      have h8 := un_eq hD.un hx hp ((key_other (hD.there x hx) (hD.there _ hp) hk2 hk).1 rfl)
      rw [h8]
      exact List.mem_append_right _ (List.mem_singleton.2 rfl)
  · rcases List.mem_append.1 hx with h1 | h1
    · rw [h.out x h1 k2 hk2]
      rfl
    · rw [List.mem_singleton] at h1
      subst h1
      have h9 : k2 = kl := Option.some.inj (hk2.symm.trans hk)
      subst h9
      rw [hself]
      simp
  · simp only [Bool.and_eq_true] at hk2
    exact h.has k2 hk2.1
theorem Seen.done {D : DataW Unit} {m lo : List Tab.En} {left : Lit → Bool} (h : Seen D m lo left) (hD : TabD D m) (h0 : ∀ kl, left kl = false) : lo.Perm m := by
  have hn : ∀ {l : List Tab.En}, (l.Pairwise fun a b => Tab.num a ≠ Tab.num b) → l.Nodup := fun hp => by
    rw [List.nodup_iff_pairwise_ne]
    exact hp.imp fun h e => h (by rw [e])
  rw [List.perm_ext_iff_of_nodup (hn h.un) (hn hD.un)]
  intro x
  refine ⟨h.sub x, fun hx => ?_⟩
  obtain ⟨kl, hk⟩ := (hD.there x hx).kl
  exact h.all x hx kl hk (h0 kl)
abbrev RangesC (W : World) (b r n : Nat) (D : DataW Unit) (left : Lit → Bool) (cnt : Nat) : Prop := W.ranges Tryz.prog 271 ceR b r n D left cnt
theorem rangesC_same {W W' : World} {b r n : Nat} {D : DataW Unit} {left : Lit → Bool} {cnt : Nat} (h : RangesC W b r n D left cnt) (hb : W'.heap[b]? = W.heap[b]?) (hr : W'.heap[r]? = W.heap[r]?) : RangesC W' b r n D left cnt := by
  obtain ⟨es, clock, since, seen, c0, h1, h2, h3, h4, h5, h6⟩ := h
  exact ⟨es, clock, since, seen, c0, hb.trans h1, h2, h3, h4, hr.trans h5, h6⟩
theorem rangesC_lt {W : World} {b r n : Nat} {D : DataW Unit} {left : Lit → Bool} {cnt : Nat} (h : RangesC W b r n D left cnt) : b < W.heap.size ∧ r < W.heap.size := by
  obtain ⟨es, clock, since, seen, c0, h1, h2, h3, h4, h5, h6⟩ := h
  exact ⟨heap_lt h1, heap_lt h5⟩
theorem rangesC_grew {W W' : World} {b r n : Nat} {D : DataW Unit} {left : Lit → Bool} {cnt : Nat} (h : RangesC W b r n D left cnt) (g : Grew W W') : RangesC W' b r n D left cnt :=
  rangesC_same h (g.below.block b (rangesC_lt h).1) (g.below.block r (rangesC_lt h).2)
theorem rangesC_own {W : World} {b r n : Nat} {D : DataW Unit} {left : Lit → Bool} {cnt : Nat} (h : RangesC W b r n D left cnt) {α : Type} {base : Nat} {e : TypeId} {k : Nat} {enc : α → List Value} {v : Value} {l : List α} (ho : OwnAt base e k enc W v l) : v.ownBlock ≠ some b ∧ v.ownBlock ≠ some r := by
  obtain ⟨es, clock, since, seen, c0, h1, h2, h3, h4, h5, h6⟩ := h
  constructor
  · intro hv
    obtain ⟨_, cs, hc⟩ := OwnAt.block ho hv
    rw [h1] at hc
    cases hc
  · intro hv
    obtain ⟨_, cs, hc⟩ := OwnAt.block ho hv
    rw [h5] at hc
    cases hc
theorem rangesC_app {W W' w0 : World} {b r n : Nat} {D : DataW Unit} {left : Lit → Bool} {cnt : Nat} (h : RangesC W b r n D left cnt) {α : Type} {base : Nat} {e : TypeId} {k : Nat} {enc : α → List Value} {v v' : Value} {l l2 : List α} (ho : OwnAt base e k enc W v l) (hA : Appended w0 e k enc W v l2 v' W') : RangesC W' b r n D left cnt :=
  rangesC_same h (hA.2.2.2.1 b (rangesC_lt h).1 (rangesC_own h ho).1) (hA.2.2.2.1 r (rangesC_lt h).2 (rangesC_own h ho).2)
theorem place_inv (key : Value) (kl : Lit) (h : keyOf Tryz.prog 271 key = some kl) : ∃ x : Int × Int, key = ceK x.1 x.2 := by
  have h2 : key.formed Tryz.prog 271 = true ∧ ∃ ls, Tryz.prog.keyLits (Tryz.prog.types.size + 1) 271 key.cells.toList = some ls := by
    unfold keyOf at h
    simp only [Tryz.underlying271] at h
    split at h
    · rename_i hc
      simp only [Bool.and_eq_true] at hc
      obtain ⟨ls, hls, _⟩ := Option.map_eq_some_iff.1 h
      exact ⟨hc.2, ls, hls⟩
    · cases h
  obtain ⟨hf, ls, hls⟩ := h2
  obtain ⟨m, hm⟩ := Nat.exists_eq_succ_of_ne_zero sizeC
  have hint : ∀ (c : Value) (l : List Lit), Tryz.prog.keyLits (m + 1) 3 [c] = some l → ∃ n : Int, c = .int .i64 n := by
    intro c l hc
    unfold Program.keyLits at hc
    simp only [Tryz.underlying3] at hc
    cases c <;> simp at hc
    rename_i k n
    obtain ⟨⟨rfl, _⟩, _⟩ := hc
    exact ⟨n, rfl⟩
  cases key with
  | agg cs =>
    obtain ⟨cs⟩ := cs
    have hsz : cs.length = 2 := by
      simp [Value.formed, Tryz.underlying271, cellsC] at hf
      exact hf
    match cs, hsz with
    | [c0, c1], _ =>
      rw [hm] at hls
      unfold Program.keyLits at hls
      simp [Tryz.underlying271, cellsC, cellsCI, Value.cells] at hls
      obtain ⟨l0, h0, h1⟩ := Option.bind_eq_some_iff.1 hls
      obtain ⟨_, h3, _⟩ := Option.map_eq_some_iff.1 h1
      obtain ⟨_, h4, _⟩ := Option.bind_eq_some_iff.1 h3
      obtain ⟨l1, h5, _⟩ := Option.bind_eq_some_iff.1 h4
      obtain ⟨n0, rfl⟩ := hint _ _ h0
      obtain ⟨n1, rfl⟩ := hint _ _ h5
      exact ⟨(n0, n1), rfl⟩
  | _ => simp [Value.formed, Tryz.underlying271] at hf
theorem cev_inv (v : Value) (y : DataW Unit × List MemPlace) (h : ceR v = some y) : ∃ c : Val × Val, v = cev c.1 c.2 := let ⟨c, e, _⟩ := ceR_inv h; ⟨c, e⟩
theorem infoEn : (Tryz.prog.info? 120).map (fun i => (i.zero, i.size, i.bytes)) = some (some (.agg #[.int .i64 0, .int .i64 0, .int .i64 0, .int .i64 0, .int .i64 0, .int .i64 0]), 6, 48) := by kernel_rfl
theorem en_at (W : World) (x : Tab.En) (t : TypeId) (b : Nat) {c : Array Value} (hc : c = (encEn x).toArray) (hb : b = W.heap.size) : ∀ j u, (([x] : List Tab.En).flatMap encEn)[j]? = some u → (W.alloc (.cells c t)).cell? ⟨b, j, none⟩ = some u := by
  subst hc
  intro j u hu
  rw [new_cells W _ t b hb j]
  simpa using hu
theorem asked_any (n k : Int) (w : World) : Calls Tryz.prog 197 #[.agg #[.int .i64 n, .int .i64 k]] w (Gives (.bool true) w) := by
  go_enter Tryz.func197, Tryz.ntmps197
  go_wp2
  go_ret
  exact ⟨rfl, by repeat (first | with_reducible exact Grew.refl _ | apply Grew.more | apply Grew.alloc | apply Grew.drew | apply Grew.drewN)⟩
def AllPost (m : List Tab.En) (w : World) (e : Ending) (w' : World) : Prop := ∃ v s, e = .returned v ∧ OwnAt w.heap.size 120 6 encEn w' v s ∧ s.Perm m ∧ (s.Pairwise fun a b => Tab.num a ≤ Tab.num b) ∧ Grew w w'
theorem tabSome_any (W : World) (t b n : Nat) (m : List Tab.En) (hT : TableAt W t b n m) : Calls Tryz.prog 196 #[.pointer (some ⟨t, 0, none⟩), .func (.func 197) #[] #[]] W (AllPost m W) := by
  have tc := cell_of (o := 0) hT.1
  simp at tc
  have pt := Pre.mk (heap_lt hT.1)
  obtain ⟨D, ho, hD⟩ := hT.2
  have HO := Lib.hid ho
  have HD := Lib.hid hD
  have hbW := ho.lt
  clear hT ho hD
  go_enter Tryz.func196, Tryz.ntmps196
  go_wp2_with (at_range; refine wpList_range_own _ rfl (.tmp 13) 295 rfl 271 118 cell_law Tryz.underlying295 ceR b n D rfl HO.out ?_; intro W1 hr1 hg1 hs1; (have HR1 := Lib.hid hr1); (have HG1 := Lib.hid ((Grew.refl W).grown hg1 fun q hq => by cases hq)); clear hr1 hg1 hs1)
  go_simp
  go_loopg [5] (Maps.size D) (fun gg s5 wr => ∃ (left : Lit → Bool) (cnt : Nat) (lo : List Tab.En) (vk : Value), cnt ≤ gg ∧ vk = s5 ∧ Hid (OwnAt W.heap.size 120 6 encEn wr vk lo) ∧ Hid (RangesC wr b W.heap.size n D left cnt) ∧ Hid (Grew W wr) ∧ Hid (Seen D m lo left))
  case atStart => exact ⟨_, _, [], _, Nat.le_refl _, rfl, Lib.hid (OwnAt.nil _), HR1, HG1, Lib.hid (Seen.start HD.out)⟩
  case round =>
    obtain ⟨left, cnt, lo, vk, hgg, rfl, HOW, HRG, HG, HS⟩ := hrel
    have h512 := len512 (fun x hx => HD.out.there x (HS.out.sub x hx)) HS.out.un
    obtain ⟨ak, ck, rfl⟩ := (OwnAt.rows HOW.out encEn_len).len
    go_wp2_with (at_next; go_loud (refine wpList_next_ranges _ rfl (.tmp 14) rfl 271 cell_law ceR (fun x : Int × Int => ceK x.1 x.2) (fun c : Val × Val => cev c.1 c.2) place_inv cev_inv b W.heap.size n D left cnt rfl HRG.out ?_ ?_))
    · intro hc0 hl0
      have hp := HS.out.done HD.out hl0
      have HP := Lib.hid hp
      clear hc0 hl0 hp
      go_wp2_with (go_at_call 224; refine (sortEnts_any W.heap.size _ _ lo (OwnAt.grew HOW.out (by repeat (first | with_reducible exact Grew.refl _ | apply Grew.more | apply Grew.alloc | apply Grew.drew | apply Grew.drewN))) (fun x hx => HD.out.there x (HS.out.sub x hx)) (by omega)).mono ?_; rintro e w3 ⟨rfl, l', q1, q2, q3, q4, q5, q6⟩; (have Q1 := Lib.hid q1); (have Q2 := Lib.hid q2); (have Q3 := Lib.hid q3); (have Q6 := Lib.hid (q6 W (HG.out.trans (by repeat (first | with_reducible exact Grew.refl _ | apply Grew.more | apply Grew.alloc | apply Grew.drew | apply Grew.drewN))) (Nat.le_refl _))); clear q1 q2 q3 q4 q5 q6)
      go_ret
      exact ⟨_, l', rfl, Q1.out, Q2.out.trans HP.out, Q3.out, Q6.out⟩
    · intro n' k' p0 q0 p1 q1 kl y1 y2 W1 cnt1 hkk hlk hRy hat hrg1 hlt hg1 hs1 hen
      have HS1 := Lib.hid (HS.out.next HD.out hkk hlk hRy hat)
      have HG1 := Lib.hid (HG.out.grown hg1 fun q hq => by cases hq; exact Nat.le_refl _)
      have HO1 : Hid (OwnAt W.heap.size 120 6 encEn W1 (.slice ak lo.length ck) lo) := Lib.hid (OwnAt.same HOW.out fun q hq => hg1.block q (by obtain ⟨_, cs, hc⟩ := OwnAt.block HOW.out hq; exact heap_lt hc) (fun e => (rangesC_own HRG.out HOW.out).2 (by rw [hq, e])))
      have HRG1 := Lib.hid hrg1
      unfold ceK cev at hen ⊢
      clear hkk hlk hRy hat hrg1 hg1 hs1
      go_wp2_with (first
        | (go_at_call 197; refine (asked_any _ _ _).mono ?_; rintro e w3 ⟨rfl, R3, n3, rfl⟩)
        | (at_builtin; go_loud (refine wpList_ownK (w0 := W) rfl (.tmp 23) (.tmp 30) 48 _ _ _ _ [⟨n', k', (p0, q0), (p1, q1)⟩] rfl Tryz.underlying48 infoEn rfl (by decide) encEn_len encEn_one rfl (OwnAt.grew HO1.out (by repeat (first | with_reducible exact Grew.refl _ | apply Grew.more | apply Grew.alloc | apply Grew.drew | apply Grew.drewN))) (HG1.out.trans (by repeat (first | with_reducible exact Grew.refl _ | apply Grew.more | apply Grew.alloc | apply Grew.drew | apply Grew.drewN))) rfl (en_at _ _ _ _ rfl (by simp [go_sem])) (by simp; omega) (by decide) (by simp) ?_; intro v5 W5 hA; (have HA := Lib.hid hA); clear hA)))
      have HR5 := Lib.hid (rangesC_app (rangesC_grew HRG1.out (by repeat (first | with_reducible exact Grew.refl _ | apply Grew.more | apply Grew.alloc | apply Grew.drew | apply Grew.drewN))) (OwnAt.grew HO1.out (by repeat (first | with_reducible exact Grew.refl _ | apply Grew.more | apply Grew.alloc | apply Grew.drew | apply Grew.drewN))) HA.out)
      go_roundg cnt1
      case measure => omega
      case rel => exact ⟨_, cnt1, _, _, Nat.le_refl _, rfl, Lib.hid HA.out.2.1, HR5, Lib.hid HA.out.1, HS1⟩
theorem tabAll_any (W : World) (t b n : Nat) (m : List Tab.En) (hT : TableAt W t b n m) : Calls Tryz.prog 163 #[.pointer (some ⟨t, 0, none⟩)] W (AllPost m W) := by
  have HT := Lib.hid (tabSome_any W t b n m hT)
  clear hT
  go_enter Tryz.func163, Tryz.ntmps163
  go_wp2_with (go_at_call 196; refine HT.out.mono ?_; rintro e w1 ⟨v, s, rfl, h1, h2, h3, h4⟩; obtain ⟨ak, ck, rfl⟩ := (OwnAt.rows h1 encEn_len).len; (have H1 := Lib.hid h1); (have H2 := Lib.hid h2); (have H3 := Lib.hid h3); (have H4 := Lib.hid h4); clear h1 h2 h3 h4)
  go_ret
  exact ⟨_, s, rfl, H1.out, H2.out, H3.out, H4.out⟩

def badE (g : List Gr.Nd) (x : Tab.En) : Bool := match Gr.nodeOf g x.node with
  | none => true
  | some n => n.kind != 1
theorem remFits1_any (B : Nat) (a : Option Addr) (cap : Nat) (g : List Gr.Nd) (W : World) (x : Tab.En) (hg : NodesAt W (.slice a g.length cap) g) (hs : Small g) (hB : W.cell? ⟨B, 0, none⟩ = some (.slice a g.length cap)) : Calls Tryz.prog 217 #[.agg #[.int .i64 x.node, .int .i64 x.key, .int .i64 x.c0.1, .int .i64 x.c0.2, .int .i64 x.c1.1, .int .i64 x.c1.2], .pointer (some ⟨B, 0, none⟩)] W (Gives (.bool (badE g x)) W) := by
  obtain ⟨nd, ky, ⟨p0, q0⟩, ⟨p1, q1⟩⟩ := x
  have HF := Lib.hid fun W' (h : Grew W W') => find_any _ g nd W' (hg.grew h) hs
  have pB := Pre.ofCell hB
  show Calls Tryz.prog _ #[.agg #[.int .i64 nd, .int .i64 ky, .int .i64 p0, .int .i64 q0, .int .i64 p1, .int .i64 q1], .pointer (some ⟨B, 0, none⟩)] W _
  clear hg hs
  cases hn : Gr.nodeOf g nd with
  | none =>
    have hb : badE g ⟨nd, ky, (p0, q0), (p1, q1)⟩ = true := by unfold badE; simp only; rw [hn]
    rw [hb]
    rw [hn] at HF
    clear hb hn
    go_enter Tryz.func217, Tryz.ntmps217
    go_wp2_with (go_at_call 79; refine (HF.out _ (by repeat (first | with_reducible exact Grew.refl _ | apply Grew.more | apply Grew.alloc | apply Grew.drew | apply Grew.drewN))).mono ?_; rintro e w1 ⟨rfl, R1, n1, rfl⟩)
    go_ret
    exact ⟨rfl, by repeat (first | with_reducible exact Grew.refl _ | apply Grew.more | apply Grew.alloc | apply Grew.drew | apply Grew.drewN)⟩
  | some n =>
    have hb : badE g ⟨nd, ky, (p0, q0), (p1, q1)⟩ = (n.kind != 1) := by unfold badE; simp only; rw [hn]
    rw [hb]
    rw [hn] at HF
    clear hb hn
    go_enter Tryz.func217, Tryz.ntmps217
    go_wp2_with (go_at_call 79; refine (HF.out _ (by repeat (first | with_reducible exact Grew.refl _ | apply Grew.more | apply Grew.alloc | apply Grew.drew | apply Grew.drewN))).mono ?_; rintro e w1 ⟨c, rfl, h1, -, R1, n1, rfl⟩; (have hk := h1.kind); obtain ⟨cid, kind, af, cf, ap, cp, par, r0, r1, r2, r3, r4, r5, r6, r7, rfl⟩ := h1.lit; simp only at hk; (have HKD := Lib.hid hk); clear h1 hk)
    go_ret
    exact ⟨by rw [HKD.out]; rfl, by repeat (first | with_reducible exact Grew.refl _ | apply Grew.more | apply Grew.alloc | apply Grew.drew | apply Grew.drewN)⟩
theorem remFits_any (W : World) (t b n : Nat) (m : List Tab.En) (v : Value) (g : List Gr.Nd) (hT : TableAt W t b n m) (hv : NodesAt W v g) (hs : Small g) : Calls Tryz.prog 189 #[.pointer (some ⟨t, 0, none⟩), v] W (Gives (.bool (!(m.any (badE g)))) W) := by
  have HA := Lib.hid fun W' (h : Grew W W') => tabAll_any W' t b n m (hT.grew h)
  have HV := Lib.hid hv
  have HS := Lib.hid hs
  obtain ⟨a, cap, rfl, -, -⟩ := hv.openC
  have HC := Lib.hid fun W' (h : Grew W W') B s u (hB : W'.cell? ⟨B, 0, none⟩ = some (.slice a g.length cap)) (hu : EntsAt W' u s) => containsEn_any B u s (badE g) W' hu fun W2 x _ g2 => remFits1_any B a cap g W2 x (hv.grew (h.trans g2)) hs (below_keeps g2.below _ _ hB)
  clear hT hv hs
  go_enter Tryz.func189, Tryz.ntmps189
  go_wp2_with (first
    | (go_at_call 163; refine (HA.out _ (by repeat (first | with_reducible exact Grew.refl _ | apply Grew.more | apply Grew.alloc | apply Grew.drew | apply Grew.drewN))).mono ?_; rintro e w1 ⟨v1, s, rfl, h1, h2, h3, R1, n1, rfl⟩; (have HE := Lib.hid (OwnAt.rows h1 encEn_len)); obtain ⟨a1, c1, rfl⟩ := HE.out.len; (have hany := h2.any_eq (f := badE g)); (have HANY := Lib.hid hany); clear h1 h2 h3 hany)
    | (go_at_call 216; refine (HC.out _ (by repeat (first | with_reducible exact Grew.refl _ | apply Grew.more | apply Grew.alloc | apply Grew.drew | apply Grew.drewN)) _ s _ (by simp [go_sem]) (HE.out.grew (by repeat (first | with_reducible exact Grew.refl _ | apply Grew.more | apply Grew.alloc | apply Grew.drew | apply Grew.drewN)))).mono ?_; rintro e w1 ⟨rfl, R2, n2, rfl⟩; rw [HANY.out]))
  go_ret
  exact ⟨rfl, by repeat (first | with_reducible exact Grew.refl _ | apply Grew.more | apply Grew.alloc | apply Grew.drew | apply Grew.drewN)⟩
open Classical in
noncomputable def entB (l : List Tab.En) (g : List Gr.Nd) : Bool := newOk l && (decide ((l.Pairwise fun a b => Tab.num a < Tab.num b) ∧ ∀ x ∈ l, Tab.nz x = true) && !(l.any (badE g)))
theorem entB_no {l : List Tab.En} {g : List Gr.Nd} (h : newOk l = false) : entB l g = false := by unfold entB; rw [h]; rfl
open Classical in
theorem entries_any (v u : Value) (l : List Tab.En) (g : List Gr.Nd) (w : World) (hv : EntsAt w v l) (hu : NodesAt w u g) (hs : Small g) (hl : l.length ≤ 100000) : Calls Tryz.prog 146 #[v, u] w (Gives (.bool (entB l g)) w) := by
  have HN := Lib.hid fun W (h : Grew w W) => tabNew_any _ l W (hv.grew h) hl
  have HV := Lib.hid hv
  have HU := Lib.hid hu
  obtain ⟨a, cap, rfl, -, -⟩ := EntsAt.open6 hv
  obtain ⟨a2, cap2, rfl, -, -⟩ := hu.openC
  clear hv hu
  cases hok : newOk l
  case false =>
    rw [entB_no hok]
    have HOK := Lib.hid hok
    clear hok hs
    go_enter Tryz.func146, Tryz.ntmps146
    go_wp2_with fail
    refine (HN.out _ (by repeat (first | with_reducible exact Grew.refl _ | apply Grew.more | apply Grew.alloc | apply Grew.drew | apply Grew.drewN))).mono ?_
    rintro e w1 (⟨h1, -⟩ | ⟨-, rfl, R1, n1, rfl⟩)
    · rw [HOK.out] at h1
      cases h1
    go_wp2
    go_ret
    exact ⟨rfl, by repeat (first | with_reducible exact Grew.refl _ | apply Grew.more | apply Grew.alloc | apply Grew.drew | apply Grew.drewN)⟩
  have HOK := Lib.hid hok
  by_cases hP : (l.Pairwise fun a b => Tab.num a < Tab.num b) ∧ ∀ x ∈ l, Tab.nz x = true
  case neg =>
    have hb : entB l g = false := by unfold entB; rw [hok, decide_eq_false hP]; rfl
    rw [hb]
    have HP := Lib.hid hP
    clear hok hb hP hs
    go_enter Tryz.func146, Tryz.ntmps146
    go_wp2_with fail
    refine (HN.out _ (by repeat (first | with_reducible exact Grew.refl _ | apply Grew.more | apply Grew.alloc | apply Grew.drew | apply Grew.drewN))).mono ?_
    rintro e w1 (⟨-, t, b, rfl, hT, hb1, hb2, R1, n1, rfl⟩ | ⟨h1, -⟩)
    rotate_left
    · rw [HOK.out] at h1
      cases h1
    have HT := Lib.hid hT
    clear hT
    go_wp2_with fail
    refine (tabAll_any _ t b _ _ (HT.out.grew (by repeat (first | with_reducible exact Grew.refl _ | apply Grew.more | apply Grew.alloc | apply Grew.drew | apply Grew.drewN)))).mono ?_
    rintro e w2 ⟨v1, s, rfl, h1, h2, h3, R2, n2, rfl⟩
    have HE := Lib.hid (OwnAt.rows h1 encEn_len)
    obtain ⟨a3, c3, rfl⟩ := HE.out.len
    have HNE := Lib.hid (decide_eq_false (fun e => HP.out ((Tab.all_iff h2 h3).1 e)))
    clear h1 h2 h3
    go_wp2_with (go_at_call 73; refine (eqEns_any _ _ s l _ (HE.out.grew (by repeat (first | with_reducible exact Grew.refl _ | apply Grew.more | apply Grew.alloc | apply Grew.drew | apply Grew.drewN))) (HV.out.grew (by repeat (first | with_reducible exact Grew.refl _ | apply Grew.more | apply Grew.alloc | apply Grew.drew | apply Grew.drewN)))).mono ?_; rintro e w1 ⟨rfl, R3, n3, rfl⟩; rw [HNE.out])
    go_ret
    exact ⟨rfl, by repeat (first | with_reducible exact Grew.refl _ | apply Grew.more | apply Grew.alloc | apply Grew.drew | apply Grew.drewN)⟩
  have hany : (Tab.newT l).any (badE g) = l.any (badE g) := by rw [Tab.newT_rev l hP.1 hP.2, List.any_reverse]
  have hb : entB l g = !(l.any (badE g)) := by unfold entB; rw [hok, decide_eq_true hP]; rfl
  rw [hb]
  have HP := Lib.hid hP
  have HANY := Lib.hid hany
  clear hok hb hP hany
  go_enter Tryz.func146, Tryz.ntmps146
  go_wp2_with fail
  refine (HN.out _ (by repeat (first | with_reducible exact Grew.refl _ | apply Grew.more | apply Grew.alloc | apply Grew.drew | apply Grew.drewN))).mono ?_
  rintro e w1 (⟨-, t, b, rfl, hT, hb1, hb2, R1, n1, rfl⟩ | ⟨h1, -⟩)
  rotate_left
  · rw [HOK.out] at h1
    cases h1
  have HT := Lib.hid hT
  have HS := Lib.hid hs
  clear hT hs
  go_wp2_with fail
  refine (tabAll_any _ t b _ _ (HT.out.grew (by repeat (first | with_reducible exact Grew.refl _ | apply Grew.more | apply Grew.alloc | apply Grew.drew | apply Grew.drewN)))).mono ?_
  rintro e w2 ⟨v1, s, rfl, h1, h2, h3, R2, n2, rfl⟩
  have HE := Lib.hid (OwnAt.rows h1 encEn_len)
  obtain ⟨a3, c3, rfl⟩ := HE.out.len
  have HNE := Lib.hid (decide_eq_true ((Tab.all_iff h2 h3).2 HP.out))
  clear h1 h2 h3
  go_wp2_with (first
    | (go_at_call 73; refine (eqEns_any _ _ s l _ (HE.out.grew (by repeat (first | with_reducible exact Grew.refl _ | apply Grew.more | apply Grew.alloc | apply Grew.drew | apply Grew.drewN))) (HV.out.grew (by repeat (first | with_reducible exact Grew.refl _ | apply Grew.more | apply Grew.alloc | apply Grew.drew | apply Grew.drewN)))).mono ?_; rintro e w1 ⟨rfl, R3, n3, rfl⟩; rw [HNE.out])
    | (go_at_call 189; refine (remFits_any _ t b _ _ _ g (HT.out.grew (by repeat (first | with_reducible exact Grew.refl _ | apply Grew.more | apply Grew.alloc | apply Grew.drew | apply Grew.drewN))) (HU.out.grew (by repeat (first | with_reducible exact Grew.refl _ | apply Grew.more | apply Grew.alloc | apply Grew.drew | apply Grew.drewN))) HS.out).mono ?_; rintro e w1 ⟨rfl, R4, n4, rfl⟩; rw [HANY.out]))
  go_ret
  exact ⟨rfl, by repeat (first | with_reducible exact Grew.refl _ | apply Grew.more | apply Grew.alloc | apply Grew.drew | apply Grew.drewN)⟩
end Go.Proofs.YtpbohimddmploaaGreat
