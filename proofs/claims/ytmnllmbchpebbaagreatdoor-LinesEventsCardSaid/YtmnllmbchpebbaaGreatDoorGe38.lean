import Derived.Test.YtmnllmbchpebbaaGreatDoorGe33
import Derived.Test.YtmnllmbchpebbaaGreatDoorGe30
import Derived.Test.YtmnllmbchpebbaaGreatDoorGe34
import Derived.Test.YtmnllmbchpebbaaGreatDoorGe36
import Derived.BigGuard
import Derived.Test.YtmnllmbchpebbaaGreatDoorGe0
/-! lines: bare, in plain words. -/
namespace Go.Proofs.YtmnllmbchpebbaaGreatDoor
set_option linter.unusedSimpArgs false
set_option linter.unusedVariables false
open Go.RowKit Ga
set_option maxRecDepth 100000

theorem bare_iff (v : Li.Ev) {k : Nat} (hkd : v.kind = (k : Int)) (hk : 1 ≤ k ∧ k ≤ 13) : bareL (lettersN k) v = true ↔ Li.Bare gpL v := by
  obtain ⟨h65, h66, h67, h82, h80⟩ := has_k hk
  unfold bareL Li.Bare
  rw [h65, h66, h67, h82, h80, hkd]
  simp only [Bool.and_eq_true, Bool.or_eq_true, decide_eq_true_eq, List.all_cons, List.all_nil, Bool.and_true, allRq_iff, Bool.not_eq_true', decide_eq_false_iff_not, List.isEmpty_iff, List.length_eq_zero_iff]
  have hne : ∀ l : List UInt8, (l.isEmpty = false) ↔ l ≠ [] := fun l => by cases l <;> simp
  simp only [hne]
  constructor
  · rintro ⟨⟨a1, a2, a3⟩, h2, h3, h4, h5, h6, h7, h8, h9, h10⟩
    refine ⟨⟨a1, a2, a3, h2, h3⟩, fun n => ?_, fun n => ?_, fun n => ?_, fun n => ?_, fun n => ?_, fun e => ?_, h10⟩
    · exact h4.resolve_left n
    · exact h5.resolve_left n
    · exact h6.resolve_left n
    · exact h7.resolve_left n
    · exact h8.resolve_left n
    · exact h9.resolve_left (fun q => q e)
  · rintro ⟨⟨a1, a2, a3, h2, h3⟩, h4, h5, h6, h7, h8, h9, h10⟩
    refine ⟨⟨a1, a2, a3⟩, h2, h3, ?_, ?_, ?_, ?_, ?_, ?_, h10⟩
    · exact (Decidable.em _).imp_right h4
    · exact (Decidable.em _).imp_right h5
    · exact (Decidable.em _).imp_right h6
    · exact (Decidable.em _).imp_right h7
    · exact (Decidable.em _).imp_right h8
    · by_cases e : (k : Int) = 2
      · exact .inr (h9 e)
      · exact .inl e
end Go.Proofs.YtmnllmbchpebbaaGreatDoor

/-! lines: the words of an event. -/
namespace Go.Proofs.YtmnllmbchpebbaaGreatDoor
set_option linter.unusedSimpArgs false
set_option linter.unusedVariables false
open Go.RowKit Ga
set_option maxRecDepth 100000

theorem emp_false {l : List UInt8} (h : l ≠ []) : l.isEmpty = false := by cases l <;> simp_all
theorem words_eq (v : Li.Ev) {k : Nat} (hkd : v.kind = (k : Int)) (hk : 1 ≤ k ∧ k ≤ 13) (hB : Li.Bare gpL v) : wordsF v (lettersN k) = Li.wordsE gpL v := by
  obtain ⟨-, -, -, -, -, -, hp, -⟩ := hB
  have hi : ∀ n : Int, (Lib.itoa n).isEmpty = false := fun n => emp_false (Li.itoa_ne n)
  have hb : (Li.bitsT v.keep).isEmpty = false := emp_false (Li.bitsT_ne _)
  unfold Li.wordsE
  rw [hkd] at hp ⊢
  rcases (show k = 1 ∨ k = 2 ∨ k = 3 ∨ k = 4 ∨ k = 5 ∨ k = 6 ∨ k = 7 ∨ k = 8 ∨ k = 9 ∨ k = 10 ∨ k = 11 ∨ k = 12 ∨ k = 13 by omega) with rfl | rfl | rfl | rfl | rfl | rfl | rfl | rfl | rfl | rfl | rfl | rfl | rfl
  case inl =>
    by_cases hr : v.recs = []
    · simp [wordsF, lettersN, lettersL, wordL, hr, Li.recsT, Lib.join]
    · simp [wordsF, lettersN, lettersL, wordL, hr, emp_false (Li.recsT_ne hr)]
  case inr.inl =>
    have := emp_false (hp rfl)
    simp [wordsF, lettersN, lettersL, wordL, this]
  all_goals simp [wordsF, lettersN, lettersL, wordL, Li.hasA1, hi, hb]
end Go.Proofs.YtmnllmbchpebbaaGreatDoor

/-! lines: Event. -/
namespace Go.Proofs.YtmnllmbchpebbaaGreatDoor
set_option linter.unusedSimpArgs false
set_option linter.unusedVariables false
open Go.RowKit Ga
set_option maxRecDepth 100000

theorem wordsE_len (v : Li.Ev) (hB : Li.Bare gpL v) (h8 : ∀ x ∈ (gpL v.plan).1, x.nd.route.length = 8) : (Li.wordsE gpL v).length ≤ 2 ∧ ∀ x ∈ Li.wordsE gpL v, x.length ≤ 20000 := by
  obtain ⟨⟨b1, b2, b3, b4, b5⟩, -, -, -, -, -, hp, ho⟩ := hB
  have l1 := Li.itoa_len8 b1
  have l2 := Li.itoa_len8 b2
  have l3 := Li.itoa_len8 b3
  have lr : (Li.recsT v.recs).length ≤ 20000 := by
    have := join_len (v.recs.map Li.recW) [32] 100 fun x hx => by
      obtain ⟨n, hn2, rfl⟩ := List.mem_map.1 hx
      exact recW_len (ho n hn2)
    rw [List.length_map] at this
    have e : ([32] : List UInt8).length = 1 := rfl
    rw [e] at this
    show (Lib.join (v.recs.map Li.recW) [32]).length ≤ 20000
    omega
  have lb : (Li.bitsT v.keep).length ≤ 20000 := by
    unfold Li.bitsT
    split
    · simp
    · rw [List.length_map]; omega
  have lp : (Li.planT (gpL v.plan).1).length ≤ 20000 := by
    by_cases hn : Li.planT (gpL v.plan).1 = []
    · rw [hn]; simp
    · obtain ⟨⟨p1, p2, p3⟩, e⟩ := Li.planT_ne hn
      rw [e]
      have := join_len ((gpL v.plan).1.map Li.stepT) Li.between 1300 fun x hx => by
        obtain ⟨n, hn2, rfl⟩ := List.mem_map.1 hx
        exact stepT_len (h8 n hn2) (p3 n hn2)
      rw [List.length_map] at this
      have e : Li.between.length = 3 := rfl
      rw [e] at this
      omega
  unfold Li.wordsE
  constructor
  · repeat' split
    all_goals simp
  · intro x hx
    repeat' split at hx
    all_goals
      simp at hx
      try (rcases hx with rfl | rfl)
    all_goals first | omega | (subst hx; omega)
theorem event_any (v : Li.Ev) (rv kv : Value) (w : World) (hP : Pow w) (hA : Asc w) (hE : EvIs w v rv kv) (hp : v.plan.length ≤ 100000) (h8 : ∀ x ∈ (gpL v.plan).1, x.nd.route.length = 8) : Calls Tryz.prog 5 #[evV v rv kv] w (Gives (str (Li.eventT gpL v)) w) := by
  by_cases hk : 1 ≤ v.kind ∧ v.kind ≤ 13
  · obtain ⟨k, hkd⟩ : ∃ k : Nat, v.kind = (k : Int) := ⟨v.kind.toNat, by omega⟩
    have hk2 : 1 ≤ k ∧ k ≤ 13 := by omega
    obtain ⟨l2, lc⟩ := letters_ok hk2
    have hiff := bare_iff v hkd hk2
    have hres : (if bareL (lettersN k) v = true then Lib.join (nameN k :: wordsF v (lettersN k)) [32] else []) = Li.eventT gpL v := by
      by_cases hB : Li.Bare gpL v
      · rw [if_pos (hiff.2 hB), Li.eventT_some ⟨hk, hB⟩, words_eq v hkd hk2 hB, hkd]
        rfl
      · rw [if_neg (fun h => hB (hiff.1 h)), Li.eventT_none (fun h => hB h.2)]
    rw [← hres]
    refine event_walk v rv kv k (nameN k) (lettersN k) _ w hP hA hE hkd hk2 rfl rfl (fun W g => bare_any v rv kv _ _ _ _ _ _ W (hP.grew g) (hA.grew g) (hE.grew g) hp ⟨rfl, rfl, rfl, rfl, rfl⟩ (has_mem hk2)) (fun hq W g c hc => ?_) (fun c hc => (lc c hc).1) l2 (fun hq => ?_)
    · obtain ⟨⟨b1, b2, b3, b4, b5⟩, -, -, -, -, -, -, ho⟩ := hiff.1 hq
      refine word_any v rv kv _ W (hP.grew g) (hA.grew g) (hE.grew g) ⟨b1, b2, b3, b4, b5, hp, ho⟩ ?_
      have := (lc c hc).2
      omega
    · have hB := hiff.1 hq
      rw [words_eq v hkd hk2 hB]
      obtain ⟨w2, wl⟩ := wordsE_len v hB h8
      have hn : (nameN k).length ≤ 20000 := by
        have key : ∀ n < 14, (nameN n).length ≤ 20000 := by decide +kernel
        exact key k (by omega)
      have := join_len (nameN k :: Li.wordsE gpL v) [32] 20000 fun x hx => by
        rcases List.mem_cons.1 hx with rfl | hx
        · exact hn
        · exact wl x hx
      have e : ([32] : List UInt8).length = 1 := rfl
      rw [e, show (nameN k :: Li.wordsE gpL v).length = (Li.wordsE gpL v).length + 1 from rfl] at this
      refine Nat.le_trans this ?_
      have := Nat.mul_le_mul_right (20000 + 1) (show (Li.wordsE gpL v).length + 1 ≤ 3 by omega)
      omega
  · rw [Li.eventT_none (fun h => hk h.1)]
    exact event_no v rv kv w hE (by omega)
end Go.Proofs.YtmnllmbchpebbaaGreatDoor

/-! lines: the steps of a read plan have routes of eight. -/
namespace Go.Proofs.YtmnllmbchpebbaaGreatDoor
set_option linter.unusedSimpArgs false
set_option linter.unusedVariables false
open Go.RowKit Ga
set_option maxRecDepth 100000

theorem route8 (s : List UInt8) : ∀ x ∈ (gpL s).1, x.nd.route.length = 8 := by
  intro x hx
  by_cases hc : (gpL s).2 = 0
  · have hq : Gr.getPl getL s = ((gpL s).1, 0) := by rw [← hc]; rfl
    obtain ⟨⟨-, -, h⟩, -, hcl⟩ := Gr.getPl_can codecI hq
    have h2 := (h x hx).2
    rw [hcl x hx] at h2
    exact h2.ol
  · rw [show (gpL s).1 = [] from Gr.getPl_bad hc] at hx
    cases hx
theorem event_all (v : Li.Ev) (rv kv : Value) (w : World) (hP : Pow w) (hA : Asc w) (hE : EvIs w v rv kv) (hp : v.plan.length ≤ 100000) : Calls Tryz.prog 5 #[evV v rv kv] w (Gives (str (Li.eventT gpL v)) w) := event_any v rv kv w hP hA hE hp (route8 v.plan)
end Go.Proofs.YtmnllmbchpebbaaGreatDoor

/-! lines: what readE_event asks. -/
namespace Go.Proofs.YtmnllmbchpebbaaGreatDoor
set_option linter.unusedSimpArgs false
set_option linter.unusedVariables false
open Go.RowKit Ga
set_option maxRecDepth 100000

theorem hg_ev (s : List UInt8) (hn : Li.planT (gpL s).1 ≠ []) : (∀ x ∈ (gpL s).1, x.nd.route.length = 8) ∧ (planR (gpL s).1).1 = s := by
  refine ⟨route8 s, ?_⟩
  by_cases hc : (gpL s).2 = 0
  · have hq : Gr.getPl getL s = ((gpL s).1, 0) := by rw [← hc]; rfl
    obtain ⟨h1, h2, -⟩ := Gr.getPl_can codecI hq
    rw [planR_ok h1]
    exact h2
  · rw [show (gpL s).1 = [] from Gr.getPl_bad hc] at hn
    exact absurd (Li.planT_none (by simp)) hn
theorem hv_ev (x y : Int) (hx : -524288 ≤ x ∧ x < 524288) (hy : -524288 ≤ y ∧ y < 524288) : gvL (Tx.textL x y) = (x, y) := by
  have h := parseOut_text x y
  rw [into_id hx, into_id hy] at h
  unfold gvL
  rw [h]
end Go.Proofs.YtmnllmbchpebbaaGreatDoor

/-! forebaylaw27.line. -/
namespace Go.Proofs.YtmnllmbchpebbaaGreatDoor
set_option linter.unusedSimpArgs false
set_option linter.unusedVariables false
open Go.RowKit Ga
set_option maxRecDepth 100000

theorem names_get (k : Nat) (h : k < 14) : (#[.string ⟨#[]⟩, .string ⟨#[65, 80, 80, 69, 78, 68]⟩, .string ⟨#[83, 85, 66, 77, 73, 84]⟩, .string ⟨#[84, 82, 73, 71, 71, 69, 82]⟩, .string ⟨#[80, 73, 67, 75]⟩, .string ⟨#[68, 69, 76, 73, 86, 69, 82]⟩, .string ⟨#[76, 79, 83, 69]⟩, .string ⟨#[84, 87, 73, 67, 69]⟩, .string ⟨#[84, 85, 82, 78]⟩, .string ⟨#[84, 73, 67, 75]⟩, .string ⟨#[70, 85, 83, 69]⟩, .string ⟨#[67, 82, 65, 83, 72]⟩, .string ⟨#[82, 79, 85, 78, 68, 83]⟩, .string ⟨#[83, 69, 84, 84, 76, 69]⟩] : Array Value)[k]? = some (.string ⟨(nameN k).toArray⟩) := by
  rcases (show k = 0 ∨ k = 1 ∨ k = 2 ∨ k = 3 ∨ k = 4 ∨ k = 5 ∨ k = 6 ∨ k = 7 ∨ k = 8 ∨ k = 9 ∨ k = 10 ∨ k = 11 ∨ k = 12 ∨ k = 13 by omega) with rfl | rfl | rfl | rfl | rfl | rfl | rfl | rfl | rfl | rfl | rfl | rfl | rfl | rfl <;> rfl
theorem nameN_len (k : Nat) (h : k < 14) : (nameN k).length ≤ 10 := by
  have key : ∀ k : Nat, k < 14 → (nameN k).length ≤ 10 := by decide +kernel
  exact key k h
theorem planT_len (s : List UInt8) : (Li.planT (gpL s).1).length ≤ 20000 := by
  by_cases hn : Li.planT (gpL s).1 = []
  · rw [hn]; simp
  · obtain ⟨⟨p1, p2, p3⟩, e⟩ := Li.planT_ne hn
    rw [e]
    have := join_len ((gpL s).1.map Li.stepT) Li.between 1300 fun x hx => by
      obtain ⟨n, hn2, rfl⟩ := List.mem_map.1 hx
      exact stepT_len (route8 s n hn2) (p3 n hn2)
    rw [List.length_map] at this
    have e : Li.between.length = 3 := rfl
    rw [e] at this
    have := Nat.mul_le_mul_left (1300 + 3) p2
    omega
theorem bitsT_len {l : List Bool} (h : l.length ≤ 60) : (Li.bitsT l).length ≤ 60 := by
  unfold Li.bitsT
  split
  · simp
  · rw [List.length_map]; exact h
theorem ev_A {k : Nat} {a : Int} (hk : k = 4 ∨ k = 5 ∨ k = 6 ∨ k = 7 ∨ k = 10 ∨ k = 12) : Lib.join (Li.nameE (k : Int) :: Li.wordsE gpL ⟨k, a, 0, [], [], [], 0⟩) [32] = nameN k ++ 32 :: Lib.itoa a := by
  have hw : Li.wordsE gpL ⟨k, a, 0, [], [], [], 0⟩ = [Lib.itoa a] := by
    unfold Li.wordsE
    rw [if_neg (by simp only; omega), if_neg (by simp only; omega), if_neg (by simp only; omega), if_neg (by simp only; omega), if_pos (by unfold Li.hasA1; simp only; omega)]
  rw [hw, Li.join2, nameN_eq]
  rfl
theorem ev_O {k : Nat} (hk : k = 3 ∨ k = 9 ∨ k = 13) : Lib.join (Li.nameE (k : Int) :: Li.wordsE gpL ⟨k, 0, 0, [], [], [], 0⟩) [32] = nameN k := by
  have hw : Li.wordsE gpL ⟨k, 0, 0, [], [], [], 0⟩ = [] := by
    unfold Li.wordsE
    rw [if_neg (by simp only; omega), if_neg (by simp only; omega), if_neg (by simp only; omega), if_neg (by simp only; omega), if_neg (by unfold Li.hasA1; simp only; omega)]
  rw [hw, nameN_eq, Lib.join_cons]
  simp [Lib.joinTail]
theorem ev_8 {a b : Int} : Lib.join (Li.nameE ((8 : Nat) : Int) :: Li.wordsE gpL ⟨(8 : Nat), a, b, [], [], [], 0⟩) [32] = nameN 8 ++ 32 :: (Lib.itoa a ++ 32 :: Lib.itoa b) := by
  have hw : Li.wordsE gpL ⟨(8 : Nat), a, b, [], [], [], 0⟩ = [Lib.itoa a, Lib.itoa b] := by
    unfold Li.wordsE
    rw [if_neg (show ¬ ((8 : Nat) : Int) = 1 by decide), if_neg (show ¬ ((8 : Nat) : Int) = 2 by decide), if_pos (show ((8 : Nat) : Int) = 8 from rfl)]
  rw [hw, Li.join3, nameN_eq]
  rfl
theorem ev_11 {l : List Bool} {ct : Int} : Lib.join (Li.nameE ((11 : Nat) : Int) :: Li.wordsE gpL ⟨(11 : Nat), 0, 0, [], [], l, ct⟩) [32] = nameN 11 ++ 32 :: (Li.bitsT l ++ 32 :: Lib.itoa ct) := by
  have hw : Li.wordsE gpL ⟨(11 : Nat), 0, 0, [], [], l, ct⟩ = [Li.bitsT l, Lib.itoa ct] := by
    unfold Li.wordsE
    rw [if_neg (show ¬ ((11 : Nat) : Int) = 1 by decide), if_neg (show ¬ ((11 : Nat) : Int) = 2 by decide), if_neg (show ¬ ((11 : Nat) : Int) = 8 by decide), if_pos (show ((11 : Nat) : Int) = 11 from rfl)]
  rw [hw, Li.join3, nameN_eq]
  rfl
theorem ev_1 {l : List Rq} : Lib.join (Li.nameE ((1 : Nat) : Int) :: Li.wordsE gpL ⟨(1 : Nat), 0, 0, l, [], [], 0⟩) [32] = nameN 1 ++ recsS l := by
  cases l with
  | nil => rfl
  | cons r l =>
    have hw : Li.wordsE gpL ⟨(1 : Nat), 0, 0, r :: l, [], [], 0⟩ = [Li.recsT (r :: l)] := by
      unfold Li.wordsE
      rw [if_pos (show ((1 : Nat) : Int) = 1 from rfl), if_neg (by simp)]
    rw [hw, Li.join2, recsS_cons, nameN_eq]
    rfl
theorem ev_2 {s : List UInt8} : Lib.join (Li.nameE ((2 : Nat) : Int) :: Li.wordsE gpL ⟨(2 : Nat), 0, 0, [], s, [], 0⟩) [32] = nameN 2 ++ 32 :: Li.planT (gpL s).1 := by
  have hw : Li.wordsE gpL ⟨(2 : Nat), 0, 0, [], s, [], 0⟩ = [Li.planT (gpL s).1] := by
    unfold Li.wordsE
    rw [if_neg (show ¬ ((2 : Nat) : Int) = 1 by decide), if_pos (show ((2 : Nat) : Int) = 2 from rfl)]
  rw [hw, Li.join2, nameN_eq]
  rfl
theorem cat_R (n a : List UInt8) : Ending.returned (.string (⟨n.toArray⟩ ++ ⟨a.toArray⟩)) = Ending.returned (str (n ++ a)) := by rw [str_cat]
theorem cat_AR (n a : List UInt8) : Ending.returned (.string (⟨n.toArray⟩ ++ (⟨#[32]⟩ ++ ⟨a.toArray⟩))) = Ending.returned (str (n ++ 32 :: a)) := by
  rw [show (⟨#[32]⟩ : ByteArray) = ⟨[32].toArray⟩ from rfl, str_cat, str_cat]
  rfl
theorem cat_8R (n a b : List UInt8) : Ending.returned (.string (⟨n.toArray⟩ ++ (⟨#[32]⟩ ++ ⟨a.toArray⟩ ++ ⟨#[32]⟩ ++ ⟨b.toArray⟩))) = Ending.returned (str (n ++ 32 :: (a ++ 32 :: b))) := by
  rw [show (⟨#[32]⟩ : ByteArray) = ⟨[32].toArray⟩ from rfl, str_cat, str_cat, str_cat, str_cat]
  simp
end Go.Proofs.YtmnllmbchpebbaaGreatDoor

/-! forebaylaw27.line. -/
namespace Go.Proofs.YtmnllmbchpebbaaGreatDoor
set_option linter.unusedSimpArgs false
set_option linter.unusedVariables false
open Go.RowKit Ga
set_option maxRecDepth 100000

set_option maxHeartbeats 64000000 in
theorem line_A (v : Li.Ev) (rv kv : Value) (k : Nat) (w : World) (hE : EvIs w v rv kv) (hr0 : v.recs.length ≤ 1000) (hk0 : v.keep.length ≤ 1000) (hp0 : v.plan.length ≤ 100000) (hkd : v.kind = (k : Int)) (hk : k = 4 ∨ k = 5 ∨ k = 6 ∨ k = 7) : Calls Tryz.prog 6 #[evV v rv kv] w (Gives (str (Li.eventT gpL v)) w) := by
  obtain ⟨r1, rc1, e1, m1, -⟩ := rq_open hE.r
  obtain ⟨k1, kc1, e3, m3, -⟩ := bools_open hE.k
  subst e1 e3
  have HE := Lib.hid hE
  have HN : Hid (¬ Li.Bare gpL v → Li.eventT gpL v = []) := Lib.hid fun h => Li.eventT_none fun h2 => h h2.2
  have HY : Hid (Li.Bare gpL v → Li.eventT gpL v = Lib.join (Li.nameE v.kind :: Li.wordsE gpL v) [32]) := Lib.hid fun h => Li.eventT_some ⟨by omega, h⟩
  clear hE m1 m3
  generalize Li.eventT gpL v = res at *
  obtain ⟨kind, a, b, recs, plan, keep, ct⟩ := v
  simp only [evV] at *
  subst hkd
  have HK := Lib.hid hk
  have hnc := names_get k (by omega)
  have hnl := nameN_len k (by omega)
  have HR0 := Lib.hid hr0
  have HK0 := Lib.hid hk0
  have HP0 := Lib.hid hp0
  have hrn : recs.length ≤ 1000 := hr0
  have hkn : keep.length ≤ 1000 := hk0
  clear hr0 hk0 hp0
  obtain ⟨rn, hrne⟩ : ∃ rn, recs.length = rn := ⟨_, rfl⟩
  obtain ⟨kn, hkne⟩ : ∃ kn, keep.length = kn := ⟨_, rfl⟩
  rw [hrne, hkne]
  rw [hrne] at hrn
  rw [hkne] at hkn
  have HRN := Lib.hid hrne
  have HKN := Lib.hid hkne
  clear hrne hkne
  have HA1 := Lib.hid fun W => line1_any a W
  have HA2 := Lib.hid fun W => line1_any b W
  have HA3 := Lib.hid fun W => line1_any ct W
  obtain ⟨qa, hqa⟩ : ∃ q, Li.num a = q := ⟨_, rfl⟩
  obtain ⟨qb, hqb⟩ : ∃ q, Li.num b = q := ⟨_, rfl⟩
  obtain ⟨qc, hqc⟩ : ∃ q, Li.num ct = q := ⟨_, rfl⟩
  rw [hqa] at HA1
  rw [hqb] at HA2
  rw [hqc] at HA3
  have HQA := Lib.hid hqa
  have HQB := Lib.hid hqb
  have HQC := Lib.hid hqc
  clear hqa hqb hqc
  have k14 : k < 14 := by omega
  have kl1 : ¬ ((k : Int) < 1) := by omega
  have kl2 : ¬ (13 < (k : Int)) := by omega
  have b8 : ¬ (k : Int) = 8 := by omega
  have b11 : ¬ (k : Int) = 11 := by omega
  have b1 : ¬ (k : Int) = 1 := by omega
  have b2 : ¬ (k : Int) = 2 := by omega
  have m4 : 4 ≤ (k : Int) := by omega
  have m8 : (k : Int) ≤ 8 := by omega
  clear hk
  go_enter Tryz.func6, Tryz.ntmps6
  go_upto_region 6 with fail
  generalize (#[.string ⟨#[]⟩, .string ⟨#[65, 80, 80, 69, 78, 68]⟩, .string ⟨#[83, 85, 66, 77, 73, 84]⟩, .string ⟨#[84, 82, 73, 71, 71, 69, 82]⟩, .string ⟨#[80, 73, 67, 75]⟩, .string ⟨#[68, 69, 76, 73, 86, 69, 82]⟩, .string ⟨#[76, 79, 83, 69]⟩, .string ⟨#[84, 87, 73, 67, 69]⟩, .string ⟨#[84, 85, 82, 78]⟩, .string ⟨#[84, 73, 67, 75]⟩, .string ⟨#[70, 85, 83, 69]⟩, .string ⟨#[67, 82, 65, 83, 72]⟩, .string ⟨#[82, 79, 85, 78, 68, 83]⟩, .string ⟨#[83, 69, 84, 84, 76, 69]⟩] : Array Value) = na at *
  have hcn : ((w.alloc (.cells #[.int .i64 k, .int .i64 a, .int .i64 b, .slice r1 rn rc1, .string ⟨plan.toArray⟩, .slice k1 kn kc1, .int .i64 ct] 27)).alloc (.cells na 9)).cell? ⟨w.heap.size + 1, k, none⟩ = some (.string ⟨(nameN k).toArray⟩) := (cell_of (heap_new_at _ _ _ (by simp [World.size_alloc]))).trans hnc
  have HCN := Lib.hid hcn
  clear hcn
  go_wp2_with fail
  refine (HA1.out _).mono ?_
  rintro e w1 ⟨rfl, R1, n1, rfl⟩
  cases qa
  case false =>
    have HQ := Lib.hid (HN.out fun h => Bool.noConfusion (h.1.1.symm.trans HQA.out))
    rename (∀ (a : Act) (w_1 : World), wpList _ _ _ _ _ _ → _) => hx
    refine hx _ _ ?_
    clear hx
    iterate 2 go_step
    refine wpList_yes 115 (by kernel_rfl) fun a' hy => ?_
    rename (∀ (a : Act) (w_1 : World), Code.wp _ (Code.cond _ _ _) _ _ _ → _) => hx
    exact hx _ _ (fail_ret hy rfl (by rfl) rfl rfl ⟨by rw [HQ.out], by repeat (first | with_reducible exact Grew.refl _ | apply Grew.more | apply Grew.alloc | apply Grew.drew | apply Grew.drewN)⟩)
  go_wp2_with fail
  refine (HA2.out _).mono ?_
  rintro e w1 ⟨rfl, R2, n2, rfl⟩
  cases qb
  case false =>
    have HQ := Lib.hid (HN.out fun h => Bool.noConfusion (h.1.2.1.symm.trans HQB.out))
    rename (∀ (a : Act) (w_1 : World), wpList _ _ _ _ _ _ → _) => hx
    refine hx _ _ ?_
    clear hx
    iterate 2 go_step
    refine wpList_yes 115 (by kernel_rfl) fun a' hy => ?_
    rename (∀ (a : Act) (w_1 : World), Code.wp _ (Code.cond _ _ _) _ _ _ → _) => hx
    exact hx _ _ (fail_ret hy rfl (by rfl) rfl rfl ⟨by rw [HQ.out], by repeat (first | with_reducible exact Grew.refl _ | apply Grew.more | apply Grew.alloc | apply Grew.drew | apply Grew.drewN)⟩)
  go_wp2_with fail
  refine (HA3.out _).mono ?_
  rintro e w1 ⟨rfl, R3, n3, rfl⟩
  cases qc
  case false =>
    have HQ := Lib.hid (HN.out fun h => Bool.noConfusion (h.1.2.2.1.symm.trans HQC.out))
    rename (∀ (a : Act) (w_1 : World), wpList _ _ _ _ _ _ → _) => hx
    refine hx _ _ ?_
    clear hx
    iterate 2 go_step
    refine wpList_yes 115 (by kernel_rfl) fun a' hy => ?_
    rename (∀ (a : Act) (w_1 : World), Code.wp _ (Code.cond _ _ _) _ _ _ → _) => hx
    exact hx _ _ (fail_ret hy rfl (by rfl) rfl rfl ⟨by rw [HQ.out], by repeat (first | with_reducible exact Grew.refl _ | apply Grew.more | apply Grew.alloc | apply Grew.drew | apply Grew.drewN)⟩)
  rename (∀ (a : Act) (w_1 : World), wpList _ _ _ _ _ _ → _) => hx
  refine hx _ _ ?_
  clear hx
  by_cases hb : b = 0
  case neg =>
    have HQ := Lib.hid (HN.out fun h => hb (h.2.2.1 (by have := HK.out; (try simp only); omega)))
    iterate 36 go_step
    try rw [show (b != 0) = true by simpa using hb]
    try rw [show ((k : Int) != 8) = true from bne_iff_ne.2 b8]
    refine wpList_yes 115 (by kernel_rfl) fun a' hy => ?_
    rename (∀ (a : Act) (w_1 : World), Code.wp _ (Code.cond _ _ _) _ _ _ → _) => hx
    exact hx _ _ (fail_ret hy rfl (by rfl) rfl rfl ⟨by rw [HQ.out], by repeat (first | with_reducible exact Grew.refl _ | apply Grew.more | apply Grew.alloc | apply Grew.drew | apply Grew.drewN)⟩)
  subst hb
  iterate 36 go_step
  by_cases hc : ct = 0
  case neg =>
    have HQ := Lib.hid (HN.out fun h => hc (h.2.2.2.1 (by have := HK.out; (try simp only); omega)).1)
    iterate 20 go_step
    try rw [show (ct != 0) = true by simpa using hc]
    try rw [show ((k : Int) != 11) = true from bne_iff_ne.2 b11]
    refine wpList_yes 115 (by kernel_rfl) fun a' hy => ?_
    rename (∀ (a : Act) (w_1 : World), Code.wp _ (Code.cond _ _ _) _ _ _ → _) => hx
    exact hx _ _ (fail_ret hy rfl (by rfl) rfl rfl ⟨by rw [HQ.out], by repeat (first | with_reducible exact Grew.refl _ | apply Grew.more | apply Grew.alloc | apply Grew.drew | apply Grew.drewN)⟩)
  subst hc
  iterate 20 go_step
  by_cases hkz : kn = 0
  case neg =>
    have hkp : (0 : Int) < kn := by omega
    have HQ := Lib.hid (HN.out fun h => hkz (HKN.out.symm.trans (congrArg List.length (h.2.2.2.1 (by have := HK.out; (try simp only); omega)).2)))
    iterate 14 go_step
    try rw [@decide_eq_true _ _ hkp]
    try rw [@decide_eq_true _ _ (show 0 < kn by omega)]
    try rw [show ((k : Int) != 11) = true from bne_iff_ne.2 b11]
    refine wpList_yes 115 (by kernel_rfl) fun a' hy => ?_
    rename (∀ (a : Act) (w_1 : World), Code.wp _ (Code.cond _ _ _) _ _ _ → _) => hx
    exact hx _ _ (fail_ret hy rfl (by rfl) rfl rfl ⟨by rw [HQ.out], by repeat (first | with_reducible exact Grew.refl _ | apply Grew.more | apply Grew.alloc | apply Grew.drew | apply Grew.drewN)⟩)
  subst hkz
  obtain rfl : keep = [] := List.length_eq_zero_iff.1 HKN.out
  iterate 14 go_step
  by_cases hrz : rn = 0
  case neg =>
    have hrp : (0 : Int) < rn := by omega
    have HQ := Lib.hid (HN.out fun h => hrz (HRN.out.symm.trans (congrArg List.length (h.2.2.2.2.1 (by have := HK.out; (try simp only); omega)))))
    iterate 24 go_step
    try rw [@decide_eq_true _ _ hrp]
    try rw [@decide_eq_true _ _ (show 0 < rn by omega)]
    try rw [show ((k : Int) != 1) = true from bne_iff_ne.2 b1]
    refine wpList_yes 115 (by kernel_rfl) fun a' hy => ?_
    rename (∀ (a : Act) (w_1 : World), Code.wp _ (Code.cond _ _ _) _ _ _ → _) => hx
    exact hx _ _ (fail_ret hy rfl (by rfl) rfl rfl ⟨by rw [HQ.out], by repeat (first | with_reducible exact Grew.refl _ | apply Grew.more | apply Grew.alloc | apply Grew.drew | apply Grew.drewN)⟩)
  subst hrz
  obtain rfl : recs = [] := List.length_eq_zero_iff.1 HRN.out
  iterate 24 go_step
  by_cases hpz : plan = []
  case neg =>
    cases plan with
    | nil => exact absurd rfl hpz
    | cons px pxs =>
    have HQ := Lib.hid (HN.out fun h => hpz (h.2.2.2.2.2.1 (by have := HK.out; (try simp only); omega)))
    iterate 18 go_step
    try rw [show (!plan.isEmpty) = true by rw [hpe]; rfl]
    try rw [show ((k : Int) != 2) = true from bne_iff_ne.2 b2]
    refine wpList_yes 115 (by kernel_rfl) fun a' hy => ?_
    rename (∀ (a : Act) (w_1 : World), Code.wp _ (Code.cond _ _ _) _ _ _ → _) => hx
    exact hx _ _ (fail_ret hy rfl (by rfl) rfl rfl ⟨by rw [HQ.out], by repeat (first | with_reducible exact Grew.refl _ | apply Grew.more | apply Grew.alloc | apply Grew.drew | apply Grew.drewN)⟩)
  subst hpz
  iterate 18 go_step
  have hB := HY.out ⟨⟨HQA.out, HQB.out, HQC.out, Nat.zero_le _, Nat.zero_le _⟩, fun h => absurd (.inl (by have := HK.out; unfold Li.hasA1; (try simp only); omega)) h, fun _ => rfl, fun _ => ⟨rfl, rfl⟩, fun _ => rfl, fun _ => rfl, fun h => absurd h (by have := HK.out; (try simp only); omega), fun r hr => by cases hr⟩
  rw [ev_A (by have := HK.out; omega)] at hB
  have l1 := Li.itoa_len8 HQA.out
  have HDa := Lib.hid fun W => digitsG_any a (num_range HQA.out) W
  have HB := Lib.hid hB
  clear hB
  generalize Lib.itoa a = ia at *
  generalize nameN k = nk at *
  have hcn := HCN.out
  go_wp2_with (first
    | (go_at_call 15; ((with_reducible refine (HA1.out _).mono ?_)); rintro e w1 ⟨rfl, R1, n1, rfl⟩)
    | (go_at_call 15; ((with_reducible refine (HA2.out _).mono ?_)); rintro e w1 ⟨rfl, R2, n2, rfl⟩)
    | (go_at_call 15; ((with_reducible refine (HA3.out _).mono ?_)); rintro e w1 ⟨rfl, R3, n3, rfl⟩)
    | (go_at_call 19; refine (HDa.out _).mono ?_; rintro e w1 ⟨rfl, R4, n4, rfl⟩))
  go_ret
  exact ⟨by rw [HB.out]; first | exact cat_8R _ _ _ | exact cat_AR _ _ | exact cat_R _ _, by repeat (first | with_reducible exact Grew.refl _ | apply Grew.more | apply Grew.alloc | apply Grew.drew | apply Grew.drewN)⟩
end Go.Proofs.YtmnllmbchpebbaaGreatDoor
