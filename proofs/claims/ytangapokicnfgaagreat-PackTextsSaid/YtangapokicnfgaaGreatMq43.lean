import Derived.Test.YtangapokicnfgaaGreatMq41
/-! A program that was trimmed: plain laws. -/
namespace Vm
set_option linter.unusedSimpArgs false
set_option linter.unusedVariables false
open Ga

def livesL : List Ins → List Int → List Bool
  | i :: l, d :: ds => (decide (d ≠ -1) && (decide (i.1 ≠ 16) || decide (0 < ((livesL l ds).take i.2.toNat).count true))) :: livesL l ds
  | _, _ => []
def trimOne (i : Ins) (n : Nat) : Ins := if i.1 = 15 ∧ n = 0 then (13, 0) else if i.1 = 15 ∨ i.1 = 16 then (i.1, (n : Int)) else i
def trimL : List Ins → List Bool → List Ins
  | i :: l, b :: st => if b = true then trimOne i ((st.take i.2.toNat).count true) :: trimL l st else trimL l st
  | _, _ => []
def pos (st : List Bool) (k : Nat) : Nat := (st.take k).count true
theorem lives_len : ∀ (p : List Ins) (ds : List Int), ds.length = p.length → (livesL p ds).length = p.length
  | [], [], _ => rfl
  | [], d :: ds, h => by cases h
  | i :: l, [], h => by cases h
  | i :: l, d :: ds, h => by
    rw [livesL, List.length_cons, lives_len l ds (by simpa using h), List.length_cons]
theorem pos_zero (st : List Bool) : pos st 0 = 0 := rfl
theorem pos_cons (b : Bool) (st : List Bool) (k : Nat) : pos (b :: st) (k + 1) = (if b = true then 1 else 0) + pos st k := by
  unfold pos
  rw [List.take_succ_cons, List.count_cons]
  cases b <;> simp
  omega
theorem pos_succ : ∀ (st : List Bool) (k : Nat), pos st (k + 1) = pos st k + if st.getD k false = true then 1 else 0
  | [], k => by simp [pos]
  | b :: st, 0 => by rw [pos_cons, pos_zero, pos_zero]; cases b <;> rfl
  | b :: st, k + 1 => by
    rw [pos_cons, pos_cons, pos_succ st k, List.getD_cons_succ]; omega
theorem pos_mono (st : List Bool) (k : Nat) : ∀ n, pos st k ≤ pos st (k + n)
  | 0 => Nat.le_refl _
  | n + 1 => by
    have := pos_succ st (k + n)
    have := pos_mono st k n
    have e : k + (n + 1) = k + n + 1 := rfl
    rw [e]; omega
theorem pos_le {st : List Bool} {k m : Nat} (h : k ≤ m) : pos st k ≤ pos st m := by
  have := pos_mono st k (m - k)
  rwa [show k + (m - k) = m by omega] at this
theorem pos_all {st : List Bool} {k : Nat} (h : st.length ≤ k) : pos st k = st.count true := by
  unfold pos; rw [List.take_of_length_le h]
theorem pos_le_all (st : List Bool) (k : Nat) : pos st k ≤ st.count true := by
  rw [← pos_all (k := st.length + k) (by omega)]
  exact pos_le (by omega)
theorem over_eq (st : List Bool) (j n : Nat) : ((st.drop j).take n).count true = pos st (j + n) - pos st j := by
  unfold pos
  rw [List.take_add, List.count_append]; omega
theorem stay_inj {st : List Bool} {k m : Nat} (hk : st.getD k false = true) (hm : st.getD m false = true) (h : pos st k = pos st m) : k = m := by
  have hk' := pos_succ st k
  have hm' := pos_succ st m
  rw [if_pos hk] at hk'
  rw [if_pos hm] at hm'
  rcases Nat.lt_trichotomy k m with x | x | x
  · have := pos_le (st := st) (show k + 1 ≤ m by omega); omega
  · exact x
  · have := pos_le (st := st) (show m + 1 ≤ k by omega); omega
theorem trim_len : ∀ (p : List Ins) (st : List Bool), st.length = p.length → (trimL p st).length = st.count true
  | [], [], _ => rfl
  | [], b :: st, h => by cases h
  | i :: l, [], h => by cases h
  | i :: l, b :: st, h => by
    have := trim_len l st (by simpa using h)
    rw [trimL]
    cases b <;> simp [this]
theorem trim_at : ∀ (p : List Ins) (st : List Bool) (k : Nat) (i : Ins), st.length = p.length → p[k]? = some i → st.getD k false = true → (trimL p st)[pos st k]? = some (trimOne i (((st.drop (k + 1)).take i.2.toNat).count true))
  | [], st, k, i, _, h, _ => by simp at h
  | j :: l, [], k, i, h, _, _ => by cases h
  | j :: l, b :: st, 0, i, h, hi, hb => by
    rw [List.getElem?_cons_zero] at hi
    cases hi
    rw [List.getD_cons_zero] at hb
    rw [trimL, if_pos hb, pos_zero]
    rfl
  | j :: l, b :: st, k + 1, i, h, hi, hb => by
    rw [List.getElem?_cons_succ] at hi
    rw [List.getD_cons_succ] at hb
    have ih := trim_at l st k i (by simpa using h) hi hb
    rw [pos_cons, trimL, List.drop_succ_cons]
    cases b
    · rw [if_neg (by decide), if_neg (by decide), Nat.zero_add]; exact ih
    · rw [if_pos rfl, if_pos rfl, Nat.add_comm, List.getElem?_cons_succ]; exact ih
theorem lives_at : ∀ (p : List Ins) (ds : List Int) (k : Nat) (i : Ins), ds.length = p.length → p[k]? = some i → (livesL p ds).getD k false = (decide (ds.getD k (-1) ≠ -1) && (decide (i.1 ≠ 16) || decide (0 < ((((livesL p ds).drop (k + 1)).take i.2.toNat).count true))))
  | [], ds, k, i, _, h => by simp at h
  | j :: l, [], k, i, h, _ => by cases h
  | j :: l, d :: ds, 0, i, h, hi => by
    rw [List.getElem?_cons_zero] at hi
    cases hi
    rw [livesL]; rfl
  | j :: l, d :: ds, k + 1, i, h, hi => by
    rw [List.getElem?_cons_succ] at hi
    rw [livesL, List.getD_cons_succ, List.getD_cons_succ, List.drop_succ_cons]
    exact lives_at l ds k i (by simpa using h) hi

/-! ### the ways of the whole, and of what is left -/
theorem goC_len {p : List Ins} {c : Cst} : ∀ (l : List Ins) (k : Nat) (s : Cst), goC p l k s = some c → c.depth.length = s.depth.length
  | [], k, s, h => by cases h; rfl
  | i :: l, k, s, h => by
    rw [goC] at h
    split at h
    · split at h
      · exact (goC_len l _ _ h).trans (stepC_len ..)
      · cases h
    · exact goC_len l _ _ h
theorem checkC_len {p : List Ins} {c : Cst} (h : checkC p = some c) : c.depth.length = p.length := by
  unfold checkC at h
  split at h
  · exact (goC_len p 0 _ h).trans (start_len _)
  · cases h
section
variable {p : List Ins} {c : Cst}
theorem stay_known (hc : checkC p = some c) {k : Nat} {i : Ins} (hi : p[k]? = some i) (hd : c.depth.getD k (-1) ≠ -1) (hs : (livesL p c.depth).getD k false ≠ true) : i.1 = 16 ∧ pos (livesL p c.depth) (k + 1 + i.2.toNat) = pos (livesL p c.depth) (k + 1) := by
  have hl : c.depth.length = p.length := checkC_len hc
  have h := lives_at p c.depth k i hl hi
  rw [over_eq] at h
  have hm := pos_mono (livesL p c.depth) (k + 1) i.2.toNat
  rw [h] at hs
  simp only [Bool.and_eq_true, Bool.or_eq_true, decide_eq_true_eq, ne_eq, not_and, not_or] at hs
  have := hs hd
  omega
theorem stay_off {k : Nat} (hs : (livesL p c.depth).getD k false ≠ true) : pos (livesL p c.depth) (k + 1) = pos (livesL p c.depth) k := by
  rw [pos_succ, if_neg hs]; rfl
theorem stay_on {k : Nat} (hs : (livesL p c.depth).getD k false = true) : pos (livesL p c.depth) (k + 1) = pos (livesL p c.depth) k + 1 := by
  rw [pos_succ, if_pos hs]
/-- where a way leads, past jumps that are left out -/
theorem resolve (hc : checkC p = some c) : ∀ (m k : Nat) (d e : Int), p.length - k ≤ m → Snd p c k d e → pos (livesL p c.depth) k < (trimL p (livesL p c.depth)).length → ∃ k2, (livesL p c.depth).getD k2 false = true ∧ pos (livesL p c.depth) k2 = pos (livesL p c.depth) k ∧ Snd p c k2 d e
  | m, k, d, e, hm, hs, hp => by
    have hl : c.depth.length = p.length := checkC_len hc
    have hlv := lives_len p c.depth hl
    rw [trim_len p _ hlv] at hp
    have hk : k < p.length := by
      rcases Nat.lt_or_ge k p.length with x | x
      · exact x
      · rw [pos_all (by omega)] at hp; omega
    by_cases hst : (livesL p c.depth).getD k false = true
    · exact ⟨k, hst, rfl, hs⟩
    · cases m with
      | zero => omega
      | succ m =>
        obtain ⟨h1, h2, h3⟩ := hs.2.2.2.2 hk
        have hi : p[k]? = some p[k] := List.getElem?_eq_getElem hk
        obtain ⟨h16, hj⟩ := stay_known hc hi (by omega) hst
        have hn : min (k + 1 + p[k].2.toNat) p.length ∈ next p k p[k] := by
          unfold next
          rw [if_neg (by omega), if_pos h16]
          exact List.mem_singleton.2 rfl
        have hs2 := snd_next hc hs hi _ hn
        have ht : takes p[k].1 = 0 := by rw [h16]; rfl
        have hv : leaves p[k].1 = 0 := by rw [h16]; rfl
        rw [ht, hv, if_neg (by omega)] at hs2
        rw [show d - ((0 : Nat) : Int) + ((0 : Nat) : Int) = d by omega, Int.add_zero] at hs2
        have hpe : pos (livesL p c.depth) (min (k + 1 + p[k].2.toNat) p.length) = pos (livesL p c.depth) k := by
          rcases Nat.le_total (k + 1 + p[k].2.toNat) p.length with x | x
          · rw [Nat.min_eq_left x, hj, stay_off hst]
          · rw [Nat.min_eq_right x, pos_all (by omega), ← pos_all (k := k + 1 + p[k].2.toNat) (by omega), hj, stay_off hst]
        obtain ⟨k2, q1, q2, q3⟩ := resolve hc m _ d e (by omega) hs2 (by rw [trim_len p _ hlv, hpe]; exact hp)
        exact ⟨k2, q1, q2.trans hpe, q3⟩
theorem pos_min {st : List Bool} {n x : Nat} (h : st.length = n) : pos st (min x n) = pos st x := by
  rcases Nat.le_total x n with y | y
  · rw [Nat.min_eq_left y]
  · rw [Nat.min_eq_right y, pos_all (by omega), ← pos_all (k := x) (by omega)]
theorem trimOne_op (i : Ins) (n : Nat) : takes (trimOne i n).1 = takes i.1 ∧ leaves (trimOne i n).1 = leaves i.1 ∧ (((trimOne i n).1 = 14) = (i.1 = 14)) := by
  unfold trimOne
  split
  · rename_i h
    rw [h.1]; decide
  split
  · exact ⟨rfl, rfl, rfl⟩
  · exact ⟨rfl, rfl, rfl⟩
theorem trimOne_drop {i : Ins} (h : i.1 = 15) : trimOne i 0 = (13, 0) := if_pos ⟨h, rfl⟩
theorem trimOne_jump {i : Ins} {n : Nat} (h : i.1 = 15 ∨ i.1 = 16) (h0 : i.1 = 15 → n ≠ 0) : trimOne i n = (i.1, (n : Int)) := by
  unfold trimOne
  rw [if_neg (fun x => h0 x.1 x.2), if_pos h]
theorem trimOne_else {i : Ins} {n : Nat} (h : i.1 ≠ 15) (h2 : i.1 ≠ 16) : trimOne i n = i := by
  unfold trimOne
  rw [if_neg (fun x => h x.1), if_neg (fun x => x.elim h h2)]
theorem next_other (p : List Ins) (k : Nat) (i : Ins) (h0 : i.1 ≠ 0) (h15 : i.1 ≠ 15) (h16 : i.1 ≠ 16) : next p k i = [k + 1] := by
  unfold next; rw [if_neg h0, if_neg h16, if_neg h15]
theorem next_halt (p : List Ins) (k : Nat) (i : Ins) (h0 : i.1 = 0) : next p k i = [] := by
  unfold next; rw [if_pos h0]
theorem next_jump (p : List Ins) (k : Nat) (i : Ins) (h : i.1 = 16) : next p k i = [min (k + 1 + i.2.toNat) p.length] := by
  unfold next; rw [if_neg (by omega), if_pos h]
theorem next_jz (p : List Ins) (k : Nat) (i : Ins) (h : i.1 = 15) : next p k i = [k + 1, min (k + 1 + i.2.toNat) p.length] := by
  unfold next; rw [if_neg (by omega), if_neg (by omega), if_pos h]
theorem stay_lt (hc : checkC p = some c) {k : Nat} (hs : (livesL p c.depth).getD k false = true) : k < p.length := by
  have hlv := lives_len p c.depth (checkC_len hc)
  rw [← hlv]
  apply Classical.byContradiction; intro hn
  rw [List.getD_eq_getElem?_getD, List.getElem?_eq_none (by omega)] at hs
  cases hs
/-- the places of the trimmed one -/
def Places (p : List Ins) (c : Cst) (k' : Nat) (d e : Int) : Prop :=
  k' ≤ (trimL p (livesL p c.depth)).length ∧ 0 ≤ e ∧ e ≤ 4 ∧ d ≤ 8 ∧ (k' < (trimL p (livesL p c.depth)).length → ∃ k, (livesL p c.depth).getD k false = true ∧ pos (livesL p c.depth) k = k' ∧ Snd p c k d e)
theorem land (hc : checkC p = some c) {k : Nat} {d e : Int} (hs : Snd p c k d e) : Places p c (pos (livesL p c.depth) k) d e := by
  refine ⟨?_, hs.1, hs.2.2.1, hs.2.1, fun hp => resolve hc _ k d e (Nat.le_refl _) hs hp⟩
  rw [trim_len p _ (lives_len p c.depth (checkC_len hc))]
  exact pos_le_all _ _
theorem trim_next (hc : checkC p = some c) {k : Nat} {i : Ins} (hs : (livesL p c.depth).getD k false = true) : ∀ a ∈ next (trimL p (livesL p c.depth)) (pos (livesL p c.depth) k) (trimOne i ((((livesL p c.depth).drop (k + 1)).take i.2.toNat).count true)), ∃ b ∈ next p k i, a = pos (livesL p c.depth) b := by
  have hlv := lives_len p c.depth (checkC_len hc)
  have hon := stay_on hs
  have hq := trim_len p _ hlv
  have hall := pos_le_all (livesL p c.depth) (k + 1 + i.2.toNat)
  have hmo := pos_mono (livesL p c.depth) (k + 1) i.2.toNat
  rw [over_eq]
  generalize hn : pos (livesL p c.depth) (k + 1 + i.2.toNat) - pos (livesL p c.depth) (k + 1) = n
  intro a ha
  by_cases h15 : i.1 = 15
  · rw [next_jz p k i h15]
    by_cases h0 : n = 0
    · subst h0
      rw [trimOne_drop h15, next_other _ _ _ (by decide) (by decide) (by decide), List.mem_singleton] at ha
      exact ⟨k + 1, List.mem_cons_self .., by omega⟩
    · rw [trimOne_jump (.inl h15) (fun _ => h0), next_jz _ _ (i.1, (n : Int)) h15] at ha
      rcases List.mem_cons.1 ha with e | e
      · exact ⟨k + 1, List.mem_cons_self .., by omega⟩
      · rw [List.mem_singleton] at e
        refine ⟨_, List.mem_cons_of_mem _ (List.mem_singleton.2 rfl), ?_⟩
        rw [pos_min hlv, e]
        simp only [Int.toNat_natCast]
        omega
  · by_cases h16 : i.1 = 16
    · rw [trimOne_jump (.inr h16) (fun x => absurd x h15), next_jump _ _ (i.1, (n : Int)) h16, List.mem_singleton] at ha
      rw [next_jump p k i h16]
      refine ⟨_, List.mem_singleton.2 rfl, ?_⟩
      rw [pos_min hlv, ha]
      simp only [Int.toNat_natCast]
      omega
    · rw [trimOne_else h15 h16] at ha
      by_cases h0 : i.1 = 0
      · rw [next_halt _ _ _ h0] at ha; cases ha
      · rw [next_other _ _ _ h0 h15 h16, List.mem_singleton] at ha
        rw [next_other p k i h0 h15 h16]
        exact ⟨k + 1, List.mem_singleton.2 rfl, by omega⟩
theorem trim_from (hc : checkC p = some c) {k' k : Nat} {i' : Ins} (hi : (trimL p (livesL p c.depth))[k']? = some i') (hs : (livesL p c.depth).getD k false = true) (hk : pos (livesL p c.depth) k = k') : ∃ i, p[k]? = some i ∧ i' = trimOne i ((((livesL p c.depth).drop (k + 1)).take i.2.toNat).count true) := by
  have hlv := lives_len p c.depth (checkC_len hc)
  have hlt := stay_lt hc hs
  have h := trim_at p _ k p[k] hlv (List.getElem?_eq_getElem hlt) hs
  rw [hk, hi] at h
  exact ⟨_, List.getElem?_eq_getElem hlt, Option.some.inj h⟩
theorem trim_closed (hc : checkC p = some c) : Closed (trimL p (livesL p c.depth)) (Places p c) := by
  refine ⟨land hc (snd_zero hc), fun k d e h => ⟨h.2.2.2.1, h.2.1, h.2.2.1, h.1⟩, fun k d e d' e' h1 h2 hk => ?_, fun k d e i' h1 hi => ?_, fun k d e i' h1 hi a ha => ?_⟩
  · obtain ⟨k1, a1, b1, s1⟩ := h1.2.2.2.2 hk
    obtain ⟨k2, a2, b2, s2⟩ := h2.2.2.2.2 hk
    obtain rfl := stay_inj a1 a2 (b1.trans b2.symm)
    have := stay_lt hc a1
    exact (s1.2.2.2.2 this).1.symm.trans (s2.2.2.2.2 this).1
  · obtain ⟨k1, a1, b1, s1⟩ := h1.2.2.2.2 (List.getElem?_eq_some_iff.1 hi).1
    obtain ⟨i, h2, rfl⟩ := trim_from hc hi a1 b1
    rw [(trimOne_op _ _).1]
    exact snd_enough hc s1 h2
  · obtain ⟨k1, a1, b1, s1⟩ := h1.2.2.2.2 (List.getElem?_eq_some_iff.1 hi).1
    obtain ⟨i, h2, rfl⟩ := trim_from hc hi a1 b1
    subst b1
    obtain ⟨b, hb, rfl⟩ := trim_next hc a1 a ha
    obtain ⟨o1, o2, o3⟩ := trimOne_op i ((((livesL p c.depth).drop (k1 + 1)).take i.2.toNat).count true)
    have h3 := land hc (snd_next hc s1 h2 b hb)
    rw [o1, o2]
    simp only [o3]
    exact h3
theorem right_trim {i : Ins} {n : Nat} (h : Co.rightI i = true) (hn : n ≤ 24) (h16 : i.1 = 16 → 0 < n) : Co.rightI (trimOne i n) = true := by
  obtain ⟨o, a⟩ := i
  unfold trimOne
  simp only at h16
  split
  · decide
  · rename_i h1
    simp only at h1
    split
    · rename_i h2
      simp only at h2
      unfold Co.rightI Co.lo Co.hi
      simp only [Bool.and_eq_true, decide_eq_true_eq]
      rcases h2 with rfl | rfl
      · have : n ≠ 0 := fun x => h1 ⟨rfl, x⟩
        simp
        omega
      · have := h16 rfl
        simp
        omega
    · exact h
theorem trim_mem : ∀ (p : List Ins) (st : List Bool), ∀ i' ∈ trimL p st, ∃ k i, p[k]? = some i ∧ st.getD k false = true ∧ i' = trimOne i (((st.drop (k + 1)).take i.2.toNat).count true)
  | [], st, i', h => by simp [trimL] at h
  | j :: l, [], i', h => by simp [trimL] at h
  | j :: l, b :: st, i', h => by
    rw [trimL] at h
    have ih : i' ∈ trimL l st → ∃ k i, (j :: l)[k]? = some i ∧ (b :: st).getD k false = true ∧ i' = trimOne i ((((b :: st).drop (k + 1)).take i.2.toNat).count true) := by
      intro h
      obtain ⟨k, i, h1, h2, h3⟩ := trim_mem l st i' h
      exact ⟨k + 1, i, h1, h2, h3⟩
    split at h
    · rename_i hb
      rcases List.mem_cons.1 h with e | e
      · exact ⟨0, j, rfl, hb, e⟩
      · exact ih e
    · exact ih h
theorem trim_fits (hc : checkC p = some c) : Co.fitsI (trimL p (livesL p c.depth)) = true := by
  have hlv := lives_len p c.depth (checkC_len hc)
  obtain ⟨h24, hr⟩ := Co.fits_parts (checkC_fits hc)
  have hcnt : ∀ (l : List Bool), l.count true ≤ l.length := fun l => List.count_le_length
  unfold Co.fitsI
  rw [Bool.and_eq_true, decide_eq_true_eq, List.all_eq_true]
  refine ⟨?_, fun i' hi => ?_⟩
  · rw [trim_len p _ hlv]
    have := hcnt (livesL p c.depth)
    omega
  · obtain ⟨k, i, h1, h2, rfl⟩ := trim_mem p _ i' hi
    refine right_trim (hr i (List.mem_of_getElem? h1)) ?_ fun h16 => ?_
    · have h3 := hcnt (((livesL p c.depth).drop (k + 1)).take i.2.toNat)
      rw [List.length_take, List.length_drop] at h3
      omega
    · rw [lives_at p c.depth k i (checkC_len hc) h1] at h2
      simp only [Bool.and_eq_true, Bool.or_eq_true, decide_eq_true_eq] at h2
      rcases h2.2 with x | x
      · exact absurd h16 x
      · exact x
theorem trim_safe (hc : checkC p = some c) : safe (trimL p (livesL p c.depth)) = true := safe_of_closed (trim_fits hc) (trim_closed hc)

/-! ### and they run alike -/
def slow (s : St) (k : Nat) (n : Int) : St := { s with pc := k, steps := n }
theorem effect_slow (inp : Val) (i : Ins) (s : St) (k : Nat) (n : Int) (h15 : i.1 ≠ 15) (h16 : i.1 ≠ 16) : effect inp i (slow s k n) = slow (effect inp i s) k n := by
  unfold effect
  by_cases h : i.1 = 1
  · rw [if_pos h, if_pos h]; rfl
  rw [if_neg h, if_neg h]
  clear h
  by_cases h : i.1 = 2
  · rw [if_pos h, if_pos h]; rfl
  rw [if_neg h, if_neg h]
  clear h
  by_cases h : i.1 = 3
  · rw [if_pos h, if_pos h]; rfl
  rw [if_neg h, if_neg h]
  clear h
  by_cases h : i.1 = 4
  · rw [if_pos h, if_pos h]; rfl
  rw [if_neg h, if_neg h]
  clear h
  by_cases h : i.1 = 5
  · rw [if_pos h, if_pos h]; unfold setCellAt; by_cases h0 : i.2 = 0
    · rw [if_pos h0, if_pos h0]; rfl
    · rw [if_neg h0, if_neg h0]; rfl
  rw [if_neg h, if_neg h]
  clear h
  rw [if_neg h15, if_neg h15, if_neg h16, if_neg h16]
  by_cases h : i.1 = 6 ∨ i.1 = 7 ∨ i.1 = 8 ∨ i.1 = 17
  · rw [if_pos h, if_pos h]; rfl
  rw [if_neg h, if_neg h]
  clear h
  by_cases h : i.1 = 9
  · rw [if_pos h, if_pos h]; rfl
  rw [if_neg h, if_neg h]
  clear h
  by_cases h : i.1 = 10
  · rw [if_pos h, if_pos h]; rfl
  rw [if_neg h, if_neg h]
  clear h
  by_cases h : i.1 = 11
  · rw [if_pos h, if_pos h]; rfl
  rw [if_neg h, if_neg h]
  clear h
  by_cases h : i.1 = 12
  · rw [if_pos h, if_pos h]; rfl
  rw [if_neg h, if_neg h]
  clear h
  by_cases h : i.1 = 14
  · rw [if_pos h, if_pos h]; rfl
  rw [if_neg h, if_neg h]
  clear h
  rfl
theorem effect_pc2 {s : St} {o a : Int} (inp : Val) (h15 : o ≠ 15) (h16 : o ≠ 16) (ho : 1 ≤ o ∧ o ≤ 17) : (effect inp (o, a) s).pc = s.pc := by
  rw [effect_pc ho, if_neg h16, if_neg h15]
theorem effect_steps (inp : Val) (i : Ins) (s : St) : (effect inp i s).steps = s.steps := (effect_bounds inp i s).1
theorem slow_self (s : St) : slow s s.pc s.steps = s := rfl
/-- out and cells -/
def Alike (s t : St) : Prop := t.out = s.out ∧ t.c0 = s.c0 ∧ t.c1 = s.c1 ∧ t.steps ≤ s.steps
theorem trim_run (hc : checkC p = some c) (inp : Val) : ∀ (m : Nat) (s : St) (n : Int), p.length - s.pc ≤ m → Good p c s → n ≤ s.steps → Alike (done p inp s) (done (trimL p (livesL p c.depth)) inp (slow s (pos (livesL p c.depth) s.pc) n)) := by
  intro m
  induction m with
  | zero =>
    intro s n hm hg hn
    have hlv := lives_len p c.depth (checkC_len hc)
    have hq := trim_len p _ hlv
    rw [done_none (by omega), done_none (by show _ ≤ pos _ _; rw [hq, pos_all (by omega)]; exact Nat.le_refl _)]
    exact ⟨rfl, rfl, rfl, hn⟩
  | succ m ih =>
    intro s n hm hg hn
    have hlv := lives_len p c.depth (checkC_len hc)
    have hq := trim_len p _ hlv
    have hop := fits_op (checkC_fits hc)
    have hop' := fits_op (trim_fits hc)
    rcases Nat.lt_or_ge s.pc p.length with hk | hk
    · obtain ⟨i, hi⟩ : ∃ i, p[s.pc]? = some i := ⟨_, List.getElem?_eq_getElem hk⟩
      obtain ⟨o, a⟩ := i
      have ho := hop _ (List.mem_of_getElem? hi)
      simp only at ho
      have hd := hg hk
      by_cases hst : (livesL p c.depth).getD s.pc false = true
      · have hat := trim_at p _ s.pc (o, a) hlv hi hst
        have hon := stay_on hst
        have hmo := pos_mono (livesL p c.depth) (s.pc + 1) a.toNat
        rw [over_eq] at hat
        simp only at hat
        replace hat : (trimL p (livesL p c.depth))[(slow s (pos (livesL p c.depth) s.pc) n).pc]? = some (trimOne (o, a) (pos (livesL p c.depth) (s.pc + 1 + a.toNat) - pos (livesL p c.depth) (s.pc + 1))) := hat
        by_cases h0 : o = 0
        · subst h0
          rw [done_halt hi rfl, done_halt hat rfl]
          exact ⟨rfl, rfl, rfl, by show n + 1 ≤ s.steps + 1; omega⟩
        · have hge := good_effect hc hg hi (by omega) inp
          have hlt := effect_gt (p := p) (s := s) (o := o) (a := a) (by omega) inp
          rw [done_step hop hi h0]
          have h1 : (effect inp (o, a) (fetch s)).steps = s.steps + 1 := effect_steps inp (o, a) (fetch s)
          have hih := ih (effect inp (o, a) (fetch s)) (n + 1) (by omega) hge.2 (by omega)
          by_cases h15 : o = 15
          · subst h15
            by_cases hz : pos (livesL p c.depth) (s.pc + 1 + a.toNat) - pos (livesL p c.depth) (s.pc + 1) = 0
            · have e1 : trimOne (15, a) (pos (livesL p c.depth) (s.pc + 1 + a.toNat) - pos (livesL p c.depth) (s.pc + 1)) = (13, 0) := if_pos ⟨rfl, hz⟩
              rw [e1] at hat
              rw [done_step hop' hat (show (13 : Int) ≠ 0 by decide), eff13]
              rw [eff15] at hih ⊢
              by_cases hzz : zeroV (top1 (fetch s)) = true
              · rw [if_pos hzz] at hih ⊢
                have e2 : slow (jump1 (pop1 (fetch s)) a) (pos (livesL p c.depth) (jump1 (pop1 (fetch s)) a).pc) (n + 1) = pop1 (fetch (slow s (pos (livesL p c.depth) s.pc) n)) := by
                  have e3 : pos (livesL p c.depth) (jump1 (pop1 (fetch s)) a).pc = pos (livesL p c.depth) s.pc + 1 := by
                    show pos _ (s.pc + 1 + a.toNat) = _
                    omega
                  rw [e3]; rfl
                rw [e2] at hih
                exact hih
              · rw [if_neg hzz] at hih ⊢
                have e2 : slow (pop1 (fetch s)) (pos (livesL p c.depth) (pop1 (fetch s)).pc) (n + 1) = pop1 (fetch (slow s (pos (livesL p c.depth) s.pc) n)) := by
                  have e3 : pos (livesL p c.depth) (pop1 (fetch s)).pc = pos (livesL p c.depth) s.pc + 1 := hon
                  rw [e3]; rfl
                rw [e2] at hih
                exact hih
            · have e1 : trimOne (15, a) (pos (livesL p c.depth) (s.pc + 1 + a.toNat) - pos (livesL p c.depth) (s.pc + 1)) = (15, ((pos (livesL p c.depth) (s.pc + 1 + a.toNat) - pos (livesL p c.depth) (s.pc + 1) : Nat) : Int)) := by
                unfold trimOne
                rw [if_neg (fun x => hz x.2), if_pos (.inl rfl)]
              rw [e1] at hat
              rw [done_step hop' hat (show (15 : Int) ≠ 0 by decide), eff15]
              rw [eff15] at hih ⊢
              have e0 : top1 (fetch (slow s (pos (livesL p c.depth) s.pc) n)) = top1 (fetch s) := rfl
              rw [e0]
              by_cases hzz : zeroV (top1 (fetch s)) = true
              · rw [if_pos hzz] at hih ⊢
                rw [if_pos hzz]
                have e2 : slow (jump1 (pop1 (fetch s)) a) (pos (livesL p c.depth) (jump1 (pop1 (fetch s)) a).pc) (n + 1) = jump1 (pop1 (fetch (slow s (pos (livesL p c.depth) s.pc) n))) ((pos (livesL p c.depth) (s.pc + 1 + a.toNat) - pos (livesL p c.depth) (s.pc + 1) : Nat) : Int) := by
                  have e3 : pos (livesL p c.depth) (jump1 (pop1 (fetch s)) a).pc = pos (livesL p c.depth) s.pc + 1 + ((pos (livesL p c.depth) (s.pc + 1 + a.toNat) - pos (livesL p c.depth) (s.pc + 1) : Nat) : Int).toNat := by
                    show pos _ (s.pc + 1 + a.toNat) = _
                    rw [Int.toNat_natCast]
                    omega
                  rw [e3]; rfl
                rw [e2] at hih
                exact hih
              · rw [if_neg hzz] at hih ⊢
                rw [if_neg hzz]
                have e2 : slow (pop1 (fetch s)) (pos (livesL p c.depth) (pop1 (fetch s)).pc) (n + 1) = pop1 (fetch (slow s (pos (livesL p c.depth) s.pc) n)) := by
                  have e3 : pos (livesL p c.depth) (pop1 (fetch s)).pc = pos (livesL p c.depth) s.pc + 1 := hon
                  rw [e3]; rfl
                rw [e2] at hih
                exact hih
          · by_cases h16 : o = 16
            · subst h16
              have e1 : trimOne (16, a) (pos (livesL p c.depth) (s.pc + 1 + a.toNat) - pos (livesL p c.depth) (s.pc + 1)) = (16, ((pos (livesL p c.depth) (s.pc + 1 + a.toNat) - pos (livesL p c.depth) (s.pc + 1) : Nat) : Int)) := by
                exact trimOne_jump (.inr rfl) (fun x => absurd x (show (16 : Int) ≠ 15 by decide))
              rw [e1] at hat
              rw [done_step hop' hat (show (16 : Int) ≠ 0 by decide), eff16]
              rw [eff16] at hih ⊢
              have e2 : slow (jump1 (fetch s) a) (pos (livesL p c.depth) (jump1 (fetch s) a).pc) (n + 1) = jump1 (fetch (slow s (pos (livesL p c.depth) s.pc) n)) ((pos (livesL p c.depth) (s.pc + 1 + a.toNat) - pos (livesL p c.depth) (s.pc + 1) : Nat) : Int) := by
                have e3 : pos (livesL p c.depth) (jump1 (fetch s) a).pc = pos (livesL p c.depth) s.pc + 1 + ((pos (livesL p c.depth) (s.pc + 1 + a.toNat) - pos (livesL p c.depth) (s.pc + 1) : Nat) : Int).toNat := by
                  show pos _ (s.pc + 1 + a.toNat) = _
                  rw [Int.toNat_natCast]
                  omega
                rw [e3]; rfl
              rw [e2] at hih
              exact hih
            · have e1 : trimOne (o, a) (pos (livesL p c.depth) (s.pc + 1 + a.toNat) - pos (livesL p c.depth) (s.pc + 1)) = (o, a) := by
                unfold trimOne
                rw [if_neg (fun x => h15 x.1), if_neg (fun x => x.elim h15 h16)]
              rw [e1] at hat
              rw [done_step hop' hat h0]
              have e2 : fetch (slow s (pos (livesL p c.depth) s.pc) n) = slow (fetch s) (pos (livesL p c.depth) s.pc + 1) (n + 1) := rfl
              rw [e2, effect_slow inp (o, a) _ _ _ h15 h16]
              have e3 : pos (livesL p c.depth) (effect inp (o, a) (fetch s)).pc = pos (livesL p c.depth) s.pc + 1 := by
                rw [effect_pc2 inp h15 h16 (by omega), fetch_pc]; exact hon
              rw [e3] at hih
              exact hih
      · obtain ⟨h16, hj⟩ := stay_known hc hi (by omega) hst
        simp only at h16 hj
        subst h16
        have hge := good_effect hc hg hi (by omega) inp
        rw [done_step hop hi (show (16 : Int) ≠ 0 by decide)]
        have h1 : (effect inp (16, a) (fetch s)).steps = s.steps + 1 := effect_steps inp (16, a) (fetch s)
        have h2 : (effect inp (16, a) (fetch s)).pc = s.pc + 1 + a.toNat := rfl
        have hih := ih (effect inp (16, a) (fetch s)) n (by omega) hge.2 (by omega)
        have e2 : slow (effect inp (16, a) (fetch s)) (pos (livesL p c.depth) (effect inp (16, a) (fetch s)).pc) n = slow s (pos (livesL p c.depth) s.pc) n := by
          have e3 : pos (livesL p c.depth) (effect inp (16, a) (fetch s)).pc = pos (livesL p c.depth) s.pc := by
            rw [h2, hj, stay_off hst]
          rw [e3]; rfl
        rw [e2] at hih
        exact hih
    · rw [done_none (by omega), done_none (by show _ ≤ pos _ _; rw [hq, pos_all (by omega)]; exact Nat.le_refl _)]
      exact ⟨rfl, rfl, rfl, hn⟩
theorem trim_each (hc : checkC p = some c) (c0 c1 inp : Val) : (each (trimL p (livesL p c.depth)) ⟨[], c0, c1, 0⟩ [inp]).out = (each p ⟨[], c0, c1, 0⟩ [inp]).out ∧ (each (trimL p (livesL p c.depth)) ⟨[], c0, c1, 0⟩ [inp]).c0 = (each p ⟨[], c0, c1, 0⟩ [inp]).c0 ∧ (each (trimL p (livesL p c.depth)) ⟨[], c0, c1, 0⟩ [inp]).c1 = (each p ⟨[], c0, c1, 0⟩ [inp]).c1 ∧ (each (trimL p (livesL p c.depth)) ⟨[], c0, c1, 0⟩ [inp]).steps ≤ (each p ⟨[], c0, c1, 0⟩ [inp]).steps :=
  trim_run hc inp p.length (stOf ⟨[], c0, c1, 0⟩) 0 (by omega) (fun hl => checkC_zero hc hl) (Int.le_refl _)
end
end Vm
