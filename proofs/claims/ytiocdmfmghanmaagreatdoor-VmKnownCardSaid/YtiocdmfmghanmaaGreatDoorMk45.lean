import Derived.Test.YtiocdmfmghanmaaGreatDoorMk42
import Derived.Test.YtiocdmfmghanmaaGreatDoorVmStrMap
/-! The map literal of VmKnown: whatever order is drawn. -/
namespace Go.Proofs.YtiocdmfmghanmaaGreatDoor
set_option linter.unusedSimpArgs false
set_option linter.unusedVariables false
open Go.RowKit Ga
set_option maxRecDepth 100000

theorem ranges_same {W W' : World} {b r n : Nat} {D : DataW Unit} {left : Lit → Bool} {cnt : Nat} (h : W.ranges Tryz.prog 9 effR b r n D left cnt) (hb : W'.heap[b]? = W.heap[b]?) (hr : W'.heap[r]? = W.heap[r]?) : W'.ranges Tryz.prog 9 effR b r n D left cnt := by
  obtain ⟨es, clock, since, seen, c0, h1, h2, h3, h4, h5, h6⟩ := h
  exact ⟨es, clock, since, seen, c0, hb.trans h1, h2, h3, h4, hr.trans h5, h6⟩
theorem ranges_lt {W : World} {b r n : Nat} {D : DataW Unit} {left : Lit → Bool} {cnt : Nat} (h : W.ranges Tryz.prog 9 effR b r n D left cnt) : r < W.heap.size := by
  obtain ⟨es, clock, since, seen, c0, h1, h2, h3, h4, h5, h6⟩ := h
  exact heap_lt h5
theorem some_ne {d t : Nat} (h : d ≠ t) : (some d : Option Tmp) ≠ some t := fun e => h (Option.some.inj e)
def leftOps (L : Array Bool) : Nat := ((List.range 29).filter fun i => !L.getD i true).length
def tabs5 : List (Nat × Nat) := [(1, 34), (2, 35), (3, 36), (5, 37), (6, 38), (7, 39), (9, 40), (10, 41), (11, 42), (13, 43), (14, 44), (15, 45), (16, 46), (17, 47), (18, 48), (20, 49), (21, 50), (22, 51), (23, 52), (24, 53), (25, 54)]
def ins5 : List Nat := [4, 8, 12, 19, 26]
/-- What has come up so far. -/
structure R5 (w0 : World) (a0 : Act) (vals : Nat → Value) (ent : Nat → Ent) (L : Array Bool) (a : Act) (w : World) : Prop where
  g : Grew w0 w
  sz : a.tmps.size = 134
  df : a.defers = []
  ot : ∀ t, t < 33 ∨ 56 < t → a.tmps[t]? = a0.tmps[t]?
  f : ∀ x ∈ tabs5, L.getD x.1 false = true → a.tmps[x.2]? = some (vals x.1)
  m : L.getD 0 false = true → ∃ b n S, a.tmps[33]? = some (.map (some b)) ∧ w0.heap.size ≤ b ∧ StrAt w b n S ∧ n + leftOps L ≤ 29 ∧ (∀ e, e ∈ S ↔ ∃ i ∈ ins5, L.getD i false = true ∧ e = ent i) ∧
    (L.getD 27 false = true → a.tmps[55]? = some (.map (some b))) ∧
    (L.getD 28 false = true → ∃ r D, a.tmps[56]? = some (.pointer (some ⟨r, 0, none⟩)) ∧ w0.heap.size ≤ r ∧ r ≠ b ∧ w.ranges Tryz.prog 9 effR b r n D (Maps.has D) (Maps.size D) ∧ StrD D S)
  c : L.getD 0 false = false → ∀ i, i = 27 ∨ i = 28 ∨ i ∈ ins5 → L.getD i false = false
  e27 : L.getD 27 false = true → ∀ i, i < 27 → L.getD i false = true
  e28 : L.getD 28 false = true → L.getD 27 false = true
theorem getD_set_same {L : Array Bool} {i : Nat} (h : i < L.size) : (L.setIfInBounds i true).getD i false = true := by simp [h]
theorem getD_set_other {L : Array Bool} {i j : Nat} (h : i ≠ j) : (L.setIfInBounds i true).getD j false = L.getD j false := by
  rw [Array.getD_eq_getD_getElem?, Array.getD_eq_getD_getElem?, Array.getElem?_setIfInBounds_ne h]
theorem getD_mono {L : Array Bool} {i j : Nat} (h : L.getD j false = true) : (L.setIfInBounds i true).getD j false = true := by
  by_cases e : i = j
  · subst e
    refine getD_set_same ?_
    rcases Nat.lt_or_ge i L.size with q | q
    · exact q
    · rw [Array.getD_eq_getD_getElem?, Array.getElem?_eq_none q] at h
      cases h
  · rw [getD_set_other e]
    exact h
theorem leftOps_set {L : Array Bool} {i : Nat} (hi : i < 29) (hL : L.size = 29) (h : L.getD i true = false) : leftOps (L.setIfInBounds i true) + 1 ≤ leftOps L := filter_set_lt hi (by omega) h
section
variable {w0 w w' : World} {a0 a : Act} {vals : Nat → Value} {ent : Nat → Ent} {L : Array Bool}
/-- An operation that leaves a value, and makes new memory at most. -/
theorem R5.step (h : R5 w0 a0 vals ent L a w) (hL : L.size = 29) (i d : Nat) (hi : (i, d) ∈ tabs5) (hnl : L.getD i true = false) (g : Grew w w') : R5 w0 a0 vals ent (L.setIfInBounds i true) (a.put (some d) (vals i)) w' := by
  have hfin : ∀ x ∈ tabs5, x.1 < 29 ∧ 33 < x.2 ∧ x.2 < 55 ∧ x.1 ≠ 0 ∧ x.1 ≠ 27 ∧ x.1 ≠ 28 ∧ x.1 ∉ ins5 := by decide
  have huni : ∀ x ∈ tabs5, ∀ y ∈ tabs5, (x.1 = y.1 ↔ x.2 = y.2) := by decide
  obtain ⟨k1, k2, k3, k4, k5, k6, k7⟩ := hfin _ hi
  simp only at k1 k2 k3 k4 k5 k6 k7
  refine ⟨h.g.trans g, by rw [put_size]; exact h.sz, by rw [show (a.put (some d) (vals i)).defers = a.defers from rfl]; exact h.df, fun t ht => ?_, fun x hx hl => ?_, fun h0 => ?_, fun h0 j hj => ?_, fun hl j hj => ?_, fun hl => ?_⟩
  · rw [put_get_ne _ _ _ _ (some_ne (by omega))]
    exact h.ot t ht
  · by_cases e : x.1 = i
    · have e2 := (huni x hx _ hi).1 e
      simp only at e2
      rw [e2, e, put_get_eq _ _ _ (by rw [h.sz]; omega)]
    · have e2 : x.2 ≠ d := fun q => e ((huni x hx _ hi).2 q)
      rw [put_get_ne _ _ _ _ (some_ne fun q => e2 q.symm)]
      rw [getD_set_other (fun q => e q.symm)] at hl
      exact h.f x hx hl
  · rw [getD_set_other k4] at h0
    obtain ⟨b, n, S, m1, m2, m3, m4, m5, m6, m7⟩ := h.m h0
    refine ⟨b, n, S, by rw [put_get_ne _ _ _ _ (some_ne (by omega))]; exact m1, m2, m3.same (g.below.block b m3.lt), ?_, fun e => ?_, fun hl => ?_, fun hl => ?_⟩
    · have := leftOps_set k1 hL hnl
      omega
    · rw [m5 e]
      constructor
      · rintro ⟨j, hj, h1, h2⟩
        exact ⟨j, hj, by rw [getD_set_other (fun q => k7 (by rw [q]; exact hj))]; exact h1, h2⟩
      · rintro ⟨j, hj, h1, h2⟩
        rw [getD_set_other (fun q => k7 (by rw [q]; exact hj))] at h1
        exact ⟨j, hj, h1, h2⟩
    · rw [getD_set_other k5] at hl
      rw [put_get_ne _ _ _ _ (some_ne (by omega))]
      exact m6 hl
    · rw [getD_set_other k6] at hl
      obtain ⟨r, D, r1, r2, r3, r4, r5⟩ := m7 hl
      exact ⟨r, D, by rw [put_get_ne _ _ _ _ (some_ne (by omega))]; exact r1, r2, r3, ranges_same r4 (g.below.block b m3.lt) (g.below.block r (ranges_lt r4)), r5⟩
  · rw [getD_set_other k4] at h0
    rw [getD_set_other (fun q => by rcases hj with e | e | e; exact k5 (q.trans e); exact k6 (q.trans e); exact k7 (by rw [q]; exact e))]
    exact h.c h0 j hj
  · rw [getD_set_other k5] at hl
    exact getD_mono (h.e27 hl j hj)
  · rw [getD_set_other k6] at hl
    exact getD_mono (h.e28 hl)
theorem R5.start (h1 : a0.tmps.size = 134) (h2 : a0.defers = []) : R5 w0 a0 vals ent (Array.replicate 29 false) a0 w0 := by
  have hn : ∀ i, (Array.replicate 29 false).getD i false = false := fun i => by
    rw [Array.getD_eq_getD_getElem?, Array.getElem?_replicate]
    split <;> rfl
  have hx : ∀ {i : Nat} {C : Prop}, (Array.replicate 29 false).getD i false = true → C := fun {i C} h => by rw [hn i] at h; cases h
  exact ⟨Grew.refl _, h1, h2, fun _ _ => rfl, fun x _ h => hx h, fun h => hx h, fun _ i _ => hn i, fun h => hx h, fun h => hx h⟩
theorem R5.make (h : R5 w0 a0 vals ent L a w) (hL : L.size = 29) (hnl : L.getD 0 true = false) : R5 w0 a0 vals ent (L.setIfInBounds 0 true) (a.put (some 33) (.map (some w.heap.size))) (w.alloc (.map #[] 0)) := by
  have h0 : L.getD 0 false = false := by rw [← getD_tf (by omega)]; exact hnl
  have hc := h.c h0
  have hfin : ∀ x ∈ tabs5, 0 ≠ x.1 ∧ 33 ≠ x.2 := by decide
  have hz : ∀ i ∈ ins5, 0 ≠ i := by decide
  have hs := h.g.below.size
  refine ⟨h.g.trans ((Grew.refl _).alloc _), by rw [put_size]; exact h.sz, h.df, fun t ht => ?_, fun x hx hl => ?_, fun _ => ?_, fun q => ?_, fun hl => ?_, fun hl => ?_⟩
  · rw [put_get_ne _ _ _ _ (some_ne (by omega))]
    exact h.ot t ht
  · obtain ⟨q1, q2⟩ := hfin x hx
    rw [getD_set_other q1] at hl
    rw [put_get_ne _ _ _ _ (some_ne q2)]
    exact h.f x hx hl
  · refine ⟨_, 0, [], put_get_eq _ _ _ (by rw [h.sz]; omega), hs, StrAt.made w, ?_, fun e => ⟨fun q => (by cases q), ?_⟩, fun hl => ?_, fun hl => ?_⟩
    · have := leftOps_set (by omega) hL hnl
      have := List.length_filter_le (fun i => !L.getD i true) (List.range 29)
      rw [List.length_range] at this
      unfold leftOps at *
      omega
    · rintro ⟨j, hj, h1, -⟩
      rw [getD_set_other (hz j hj), hc j (.inr (.inr hj))] at h1
      cases h1
    · rw [getD_set_other (by decide), hc 27 (.inl rfl)] at hl
      cases hl
    · rw [getD_set_other (by decide), hc 28 (.inr (.inl rfl))] at hl
      cases hl
  · rw [getD_set_same (by omega)] at q
    cases q
  · rw [getD_set_other (by decide), hc 27 (.inl rfl)] at hl
    cases hl
  · rw [getD_set_other (by decide), hc 28 (.inr (.inl rfl))] at hl
    cases hl
theorem R5.insert (h : R5 w0 a0 vals ent L a w) (hL : L.size = 29) (hk : ∀ i ∈ ins5, ∀ j ∈ ins5, i ≠ j → (ent i).1 ≠ (ent j).1) (hm : ∀ i ∈ ins5, (ent i).1.size ≤ maxLen) (i : Nat) (hi : i ∈ ins5) (hnl : L.getD i true = false) (h0 : L.getD 0 false = true) :
    ∃ b, a.tmps[33]? = some (.map (some b)) ∧ ∃ w', (Instr.mapUpdate 47 (.map (some b)) (.string (ent i).1) (.agg #[.int .i64 (ent i).2.1, .int .i64 (ent i).2.2])).run Tryz.prog w = .ok () w' ∧ R5 w0 a0 vals ent (L.setIfInBounds i true) a w' := by
  obtain ⟨b, n, S, m1, m2, m3, m4, m5, m6, m7⟩ := h.m h0
  have hfin : ∀ i ∈ ins5, i < 27 ∧ i ≠ 0 ∧ i ≠ 27 ∧ i ≠ 28 ∧ ∀ x ∈ tabs5, i ≠ x.1 := by decide
  obtain ⟨k1, k2, k3, k4, k5⟩ := hfin i hi
  have hnf : L.getD i false = false := by rw [← getD_tf (by omega)]; exact hnl
  have hn27 : L.getD 27 false = false := by
    cases hq : L.getD 27 false with
    | false => rfl
    | true => rw [h.e27 hq i k1] at hnf; cases hnf
  have hn28 : L.getD 28 false = false := by
    cases hq : L.getD 28 false with
    | false => rfl
    | true => rw [h.e28 hq] at hn27; cases hn27
  obtain ⟨w', hr, hs, hg⟩ := m3.add (by unfold maxLen; omega) (ent i) (hm i hi) (fun q hq e => by
    obtain ⟨j, hj, h1, rfl⟩ := (m5 q).1 hq
    refine hk j hj i hi (fun e2 => ?_) e
    rw [e2, hnf] at h1
    cases h1)
  refine ⟨b, m1, w', hr, h.g.grown hg (fun q hq => by cases hq; exact m2), h.sz, h.df, h.ot, fun x hx hl => ?_, fun _ => ?_, fun q => ?_, fun hl => ?_, fun hl => ?_⟩
  · rw [getD_set_other (k5 x hx)] at hl
    exact h.f x hx hl
  · refine ⟨b, n + 1, _, m1, m2, hs, ?_, fun e => ?_, fun hl => ?_, fun hl => ?_⟩
    · have := leftOps_set (by omega) hL hnl
      omega
    · rw [List.mem_cons, m5 e]
      constructor
      · rintro (rfl | ⟨j, hj, h1, h2⟩)
        · exact ⟨i, hi, getD_set_same (by omega), rfl⟩
        · exact ⟨j, hj, getD_mono h1, h2⟩
      · rintro ⟨j, hj, h1, h2⟩
        by_cases e2 : j = i
        · rw [e2] at h2
          exact .inl h2
        · rw [getD_set_other (fun q => e2 q.symm)] at h1
          exact .inr ⟨j, hj, h1, h2⟩
    · rw [getD_set_other k3, hn27] at hl
      cases hl
    · rw [getD_set_other k4, hn28] at hl
      cases hl
  · rw [getD_set_other k2, h0] at q
    cases q
  · rw [getD_set_other k3, hn27] at hl
    cases hl
  · rw [getD_set_other k4, hn28] at hl
    cases hl
theorem R5.move (h : R5 w0 a0 vals ent L a w) (hL : L.size = 29) (hnl : L.getD 27 true = false) (hall : ∀ i, i < 27 → L.getD i false = true) :
    ∃ b, a.tmps[33]? = some (.map (some b)) ∧ R5 w0 a0 vals ent (L.setIfInBounds 27 true) (a.put (some 55) (.map (some b))) w := by
  obtain ⟨b, n, S, m1, m2, m3, m4, m5, m6, m7⟩ := h.m (hall 0 (by omega))
  have hfin : ∀ x ∈ tabs5, 27 ≠ x.1 ∧ 55 ≠ x.2 := by decide
  have hz : ∀ i ∈ ins5, 27 ≠ i := by decide
  refine ⟨b, m1, h.g, by rw [put_size]; exact h.sz, h.df, fun t ht => ?_, fun x hx hl => ?_, fun _ => ?_, fun q => ?_, fun _ j hj => getD_mono (hall j hj), fun _ => getD_set_same (by omega)⟩
  · rw [put_get_ne _ _ _ _ (some_ne (by omega))]
    exact h.ot t ht
  · obtain ⟨q1, q2⟩ := hfin x hx
    rw [getD_set_other q1] at hl
    rw [put_get_ne _ _ _ _ (some_ne q2)]
    exact h.f x hx hl
  · refine ⟨b, n, S, by rw [put_get_ne _ _ _ _ (some_ne (by decide))]; exact m1, m2, m3, ?_, fun e => ?_, fun _ => put_get_eq _ _ _ (by rw [h.sz]; omega), fun hl => ?_⟩
    · have := leftOps_set (by omega) hL hnl
      omega
    · rw [m5 e]
      constructor
      · rintro ⟨j, hj, h1, h2⟩
        exact ⟨j, hj, getD_mono h1, h2⟩
      · rintro ⟨j, hj, h1, h2⟩
        rw [getD_set_other (hz j hj)] at h1
        exact ⟨j, hj, h1, h2⟩
    · rw [getD_set_other (by decide)] at hl
      have h9 := h.e28 hl
      rw [← getD_tf (by omega), hnl] at h9
      cases h9
  · rw [getD_set_other (by decide), hall 0 (by omega)] at q
    cases q
theorem R5.range (h : R5 w0 a0 vals ent L a w) (hL : L.size = 29) (hnl : L.getD 28 true = false) (h27 : L.getD 27 false = true) :
    ∃ b, a.tmps[55]? = some (.map (some b)) ∧ ∃ w', (Instr.range 47 (.map (some b))).run Tryz.prog w = .ok (.pointer (some ⟨w.heap.size, 0, none⟩)) w' ∧ R5 w0 a0 vals ent (L.setIfInBounds 28 true) (a.put (some 56) (.pointer (some ⟨w.heap.size, 0, none⟩))) w' := by
  have hall := h.e27 h27
  obtain ⟨b, n, S, m1, m2, m3, m4, m5, m6, m7⟩ := h.m (hall 0 (by omega))
  obtain ⟨D, ho, hD⟩ := m3
  obtain ⟨w', hrun, r1, r2, r3⟩ := ho.range law_str Tryz.underlying47
  have hfin : ∀ x ∈ tabs5, 28 ≠ x.1 ∧ 56 ≠ x.2 := by decide
  have hz : ∀ i ∈ ins5, 28 ≠ i := by decide
  have hb := StrAt.lt ⟨D, ho, hD⟩
  have hs := h.g.below.size
  have hg : Grew w0 w' := h.g.grown r2 (fun q hq => by cases hq)
  refine ⟨b, m6 h27, w', hrun, hg, by rw [put_size]; exact h.sz, h.df, fun t ht => ?_, fun x hx hl => ?_, fun _ => ?_, fun q => ?_, fun _ j hj => getD_mono (hall j hj), fun _ => getD_mono h27⟩
  · rw [put_get_ne _ _ _ _ (some_ne (by omega))]
    exact h.ot t ht
  · obtain ⟨q1, q2⟩ := hfin x hx
    rw [getD_set_other q1] at hl
    rw [put_get_ne _ _ _ _ (some_ne q2)]
    exact h.f x hx hl
  · refine ⟨b, n, S, by rw [put_get_ne _ _ _ _ (some_ne (by decide))]; exact m1, m2, StrAt.same ⟨D, ho, hD⟩ (r2.block b hb (by simp)), ?_, fun e => ?_, fun _ => by rw [put_get_ne _ _ _ _ (some_ne (by decide))]; exact m6 h27, fun _ => ⟨_, D, put_get_eq _ _ _ (by rw [h.sz]; omega), hs, by omega, r1, hD⟩⟩
    · have := leftOps_set (by omega) hL hnl
      omega
    · rw [m5 e]
      constructor
      · rintro ⟨j, hj, h1, h2⟩
        exact ⟨j, hj, getD_mono h1, h2⟩
      · rintro ⟨j, hj, h1, h2⟩
        rw [getD_set_other (hz j hj)] at h1
        exact ⟨j, hj, h1, h2⟩
  · rw [getD_set_other (by decide), hall 0 (by omega)] at q
    cases q
end
end Go.Proofs.YtiocdmfmghanmaaGreatDoor
