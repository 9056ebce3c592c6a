import Derived.Test.YtlgbipfpnfphjaaGreatDoorGb45
import Derived.Test.YtlgbipfpnfphjaaGreatDoorGb42
import Derived.Test.YtlgbipfpnfphjaaGreatDoorGb41
import Derived.Test.YtlgbipfpnfphjaaGreatDoorGb47
import Derived.Test.YtlgbipfpnfphjaaGreatDoorGb35
import Derived.Test.YtlgbipfpnfphjaaGreatDoorGb46
import Derived.Test.YtlgbipfpnfphjaaGreatDoorGb44
/-! lines: bare, in plain words. -/
namespace Go.Proofs.YtlgbipfpnfphjaaGreatDoor
set_option linter.unusedSimpArgs false
set_option linter.unusedVariables false
open Go.RowKit Ga
set_option maxRecDepth 100000

theorem bare_iff (v : Li.Ev) {k : Nat} (hkd : v.kind = (k : Int)) (hk : 1 ≤ k ∧ k ≤ 13) : bareL (lettersN k) v = true ↔ Li.Bare gpL v := by
  obtain ⟨h65, h66, h67, h82, h80⟩ := has_k hk
  unfold bareL Li.Bare
  rw [h65, h66, h67, h82, h80, hkd]
  simp only [Bool.and_eq_true, Bool.or_eq_true, decide_eq_true_eq, List.all_cons, List.all_nil, Bool.and_true, allRq_iff, Bool.not_eq_true', decide_eq_false_iff_not, List.isEmpty_iff, List.length_eq_zero_iff]
  have hne : ∀ l : List UInt8, (l.isEmpty = false) ↔ l ≠ [] := fun l => by cases l <;> simp
  simp only [hne]
  constructor
  · rintro ⟨⟨a1, a2, a3⟩, h2, h3, h4, h5, h6, h7, h8, h9, h10⟩
    refine ⟨⟨a1, a2, a3, h2, h3⟩, fun n => ?_, fun n => ?_, fun n => ?_, fun n => ?_, fun n => ?_, fun e => ?_, h10⟩
    · exact h4.resolve_left n
    · exact h5.resolve_left n
    · exact h6.resolve_left n
    · exact h7.resolve_left n
    · exact h8.resolve_left n
    · exact h9.resolve_left (fun q => q e)
  · rintro ⟨⟨a1, a2, a3, h2, h3⟩, h4, h5, h6, h7, h8, h9, h10⟩
    refine ⟨⟨a1, a2, a3⟩, h2, h3, ?_, ?_, ?_, ?_, ?_, ?_, h10⟩
    · exact (Decidable.em _).imp_right h4
    · exact (Decidable.em _).imp_right h5
    · exact (Decidable.em _).imp_right h6
    · exact (Decidable.em _).imp_right h7
    · exact (Decidable.em _).imp_right h8
    · by_cases e : (k : Int) = 2
      · exact .inr (h9 e)
      · exact .inl e
end Go.Proofs.YtlgbipfpnfphjaaGreatDoor

/-! lines: the words of an event. -/
namespace Go.Proofs.YtlgbipfpnfphjaaGreatDoor
set_option linter.unusedSimpArgs false
set_option linter.unusedVariables false
open Go.RowKit Ga
set_option maxRecDepth 100000

theorem emp_false {l : List UInt8} (h : l ≠ []) : l.isEmpty = false := by cases l <;> simp_all
theorem words_eq (v : Li.Ev) {k : Nat} (hkd : v.kind = (k : Int)) (hk : 1 ≤ k ∧ k ≤ 13) (hB : Li.Bare gpL v) : wordsF v (lettersN k) = Li.wordsE gpL v := by
  obtain ⟨-, -, -, -, -, -, hp, -⟩ := hB
  have hi : ∀ n : Int, (Lib.itoa n).isEmpty = false := fun n => emp_false (Li.itoa_ne n)
  have hb : (Li.bitsT v.keep).isEmpty = false := emp_false (Li.bitsT_ne _)
  unfold Li.wordsE
  rw [hkd] at hp ⊢
  rcases (show k = 1 ∨ k = 2 ∨ k = 3 ∨ k = 4 ∨ k = 5 ∨ k = 6 ∨ k = 7 ∨ k = 8 ∨ k = 9 ∨ k = 10 ∨ k = 11 ∨ k = 12 ∨ k = 13 by omega) with rfl | rfl | rfl | rfl | rfl | rfl | rfl | rfl | rfl | rfl | rfl | rfl | rfl
  case inl =>
    by_cases hr : v.recs = []
    · simp [wordsF, lettersN, lettersL, wordL, hr, Li.recsT, Lib.join]
    · simp [wordsF, lettersN, lettersL, wordL, hr, emp_false (Li.recsT_ne hr)]
  case inr.inl =>
    have := emp_false (hp rfl)
    simp [wordsF, lettersN, lettersL, wordL, this]
  all_goals simp [wordsF, lettersN, lettersL, wordL, Li.hasA1, hi, hb]
end Go.Proofs.YtlgbipfpnfphjaaGreatDoor

/-! lines: Event. -/
namespace Go.Proofs.YtlgbipfpnfphjaaGreatDoor
set_option linter.unusedSimpArgs false
set_option linter.unusedVariables false
open Go.RowKit Ga
set_option maxRecDepth 100000

theorem wordsE_len (v : Li.Ev) (hB : Li.Bare gpL v) (h8 : ∀ x ∈ (gpL v.plan).1, x.nd.route.length = 8) : (Li.wordsE gpL v).length ≤ 2 ∧ ∀ x ∈ Li.wordsE gpL v, x.length ≤ 20000 := by
  obtain ⟨⟨b1, b2, b3, b4, b5⟩, -, -, -, -, -, hp, ho⟩ := hB
  have l1 := Li.itoa_len8 b1
  have l2 := Li.itoa_len8 b2
  have l3 := Li.itoa_len8 b3
  have lr : (Li.recsT v.recs).length ≤ 20000 := by
    have := join_len (v.recs.map Li.recW) [32] 100 fun x hx => by
      obtain ⟨n, hn2, rfl⟩ := List.mem_map.1 hx
      exact recW_len (ho n hn2)
    rw [List.length_map] at this
    have e : ([32] : List UInt8).length = 1 := rfl
    rw [e] at this
    show (Lib.join (v.recs.map Li.recW) [32]).length ≤ 20000
    omega
  have lb : (Li.bitsT v.keep).length ≤ 20000 := by
    unfold Li.bitsT
    split
    · simp
    · rw [List.length_map]; omega
  have lp : (Li.planT (gpL v.plan).1).length ≤ 20000 := by
    by_cases hn : Li.planT (gpL v.plan).1 = []
    · rw [hn]; simp
    · obtain ⟨⟨p1, p2, p3⟩, e⟩ := Li.planT_ne hn
      rw [e]
      have := join_len ((gpL v.plan).1.map Li.stepT) Li.between 1300 fun x hx => by
        obtain ⟨n, hn2, rfl⟩ := List.mem_map.1 hx
        exact stepT_len (h8 n hn2) (p3 n hn2)
      rw [List.length_map] at this
      have e : Li.between.length = 3 := rfl
      rw [e] at this
      omega
  unfold Li.wordsE
  constructor
  · repeat' split
    all_goals simp
  · intro x hx
    repeat' split at hx
    all_goals
      simp at hx
      try (rcases hx with rfl | rfl)
    all_goals first | omega | (subst hx; omega)
theorem event_any (v : Li.Ev) (rv kv : Value) (w : World) (hP : Pow w) (hA : Asc w) (hE : EvIs w v rv kv) (hp : v.plan.length ≤ 100000) (h8 : ∀ x ∈ (gpL v.plan).1, x.nd.route.length = 8) : Calls Tryz.prog 6 #[evV v rv kv] w (Gives (str (Li.eventT gpL v)) w) := by
  by_cases hk : 1 ≤ v.kind ∧ v.kind ≤ 13
  · obtain ⟨k, hkd⟩ : ∃ k : Nat, v.kind = (k : Int) := ⟨v.kind.toNat, by omega⟩
    have hk2 : 1 ≤ k ∧ k ≤ 13 := by omega
    obtain ⟨l2, lc⟩ := letters_ok hk2
    have hiff := bare_iff v hkd hk2
    have hres : (if bareL (lettersN k) v = true then Lib.join (nameN k :: wordsF v (lettersN k)) [32] else []) = Li.eventT gpL v := by
      by_cases hB : Li.Bare gpL v
      · rw [if_pos (hiff.2 hB), Li.eventT_some ⟨hk, hB⟩, words_eq v hkd hk2 hB, hkd]
        rfl
      · rw [if_neg (fun h => hB (hiff.1 h)), Li.eventT_none (fun h => hB h.2)]
    rw [← hres]
    refine event_walk v rv kv k (nameN k) (lettersN k) _ w hP hA hE hkd hk2 rfl rfl (fun W g => bare_any v rv kv _ _ _ _ _ _ W (hP.grew g) (hA.grew g) (hE.grew g) hp ⟨rfl, rfl, rfl, rfl, rfl⟩ (has_mem hk2)) (fun hq W g c hc => ?_) (fun c hc => (lc c hc).1) l2 (fun hq => ?_)
    · obtain ⟨⟨b1, b2, b3, b4, b5⟩, -, -, -, -, -, -, ho⟩ := hiff.1 hq
      refine word_any v rv kv _ W (hP.grew g) (hA.grew g) (hE.grew g) ⟨b1, b2, b3, b4, b5, hp, ho⟩ ?_
      have := (lc c hc).2
      omega
    · have hB := hiff.1 hq
      rw [words_eq v hkd hk2 hB]
      obtain ⟨w2, wl⟩ := wordsE_len v hB h8
      have hn : (nameN k).length ≤ 20000 := by
        have key : ∀ n < 14, (nameN n).length ≤ 20000 := by decide +kernel
        exact key k (by omega)
      have := join_len (nameN k :: Li.wordsE gpL v) [32] 20000 fun x hx => by
        rcases List.mem_cons.1 hx with rfl | hx
        · exact hn
        · exact wl x hx
      have e : ([32] : List UInt8).length = 1 := rfl
      rw [e, show (nameN k :: Li.wordsE gpL v).length = (Li.wordsE gpL v).length + 1 from rfl] at this
      refine Nat.le_trans this ?_
      have := Nat.mul_le_mul_right (20000 + 1) (show (Li.wordsE gpL v).length + 1 ≤ 3 by omega)
      omega
  · rw [Li.eventT_none (fun h => hk h.1)]
    exact event_no v rv kv w hE (by omega)
end Go.Proofs.YtlgbipfpnfphjaaGreatDoor

/-! lines: the steps of a read plan have routes of eight. -/
namespace Go.Proofs.YtlgbipfpnfphjaaGreatDoor
set_option linter.unusedSimpArgs false
set_option linter.unusedVariables false
open Go.RowKit Ga
set_option maxRecDepth 100000

theorem route8 (s : List UInt8) : ∀ x ∈ (gpL s).1, x.nd.route.length = 8 := by
  intro x hx
  by_cases hc : (gpL s).2 = 0
  · have hq : Gr.getPl getL s = ((gpL s).1, 0) := by rw [← hc]; rfl
    obtain ⟨⟨-, -, h⟩, -, hcl⟩ := Gr.getPl_can codecI hq
    have h2 := (h x hx).2
    rw [hcl x hx] at h2
    exact h2.ol
  · rw [show (gpL s).1 = [] from Gr.getPl_bad hc] at hx
    cases hx
theorem event_all (v : Li.Ev) (rv kv : Value) (w : World) (hP : Pow w) (hA : Asc w) (hE : EvIs w v rv kv) (hp : v.plan.length ≤ 100000) : Calls Tryz.prog 6 #[evV v rv kv] w (Gives (str (Li.eventT gpL v)) w) := event_any v rv kv w hP hA hE hp (route8 v.plan)
end Go.Proofs.YtlgbipfpnfphjaaGreatDoor

/-! lines: what readE_event asks. -/
namespace Go.Proofs.YtlgbipfpnfphjaaGreatDoor
set_option linter.unusedSimpArgs false
set_option linter.unusedVariables false
open Go.RowKit Ga
set_option maxRecDepth 100000

theorem hg_ev (s : List UInt8) (hn : Li.planT (gpL s).1 ≠ []) : (∀ x ∈ (gpL s).1, x.nd.route.length = 8) ∧ (planR (gpL s).1).1 = s := by
  refine ⟨route8 s, ?_⟩
  by_cases hc : (gpL s).2 = 0
  · have hq : Gr.getPl getL s = ((gpL s).1, 0) := by rw [← hc]; rfl
    obtain ⟨h1, h2, -⟩ := Gr.getPl_can codecI hq
    rw [planR_ok h1]
    exact h2
  · rw [show (gpL s).1 = [] from Gr.getPl_bad hc] at hn
    exact absurd (Li.planT_none (by simp)) hn
theorem hv_ev (x y : Int) (hx : -524288 ≤ x ∧ x < 524288) (hy : -524288 ≤ y ∧ y < 524288) : gvL (Tx.textL x y) = (x, y) := by
  have h := parseOut_text x y
  rw [into_id hx, into_id hy] at h
  unfold gvL
  rw [h]
end Go.Proofs.YtlgbipfpnfphjaaGreatDoor

/-! lines: Parse. -/
namespace Go.Proofs.YtlgbipfpnfphjaaGreatDoor
set_option linter.unusedSimpArgs false
set_option linter.unusedVariables false
open Go.RowKit Ga
set_option maxRecDepth 100000

/-- what Parse answers -/
noncomputable def parseL (s : List UInt8) : Li.Ev × Int := Li.parseE gpL planR gvL s
noncomputable def readEv (s : List UInt8) : Li.Ev := Li.readE planR gvL s
theorem parseL_ok {s : List UInt8} (h1 : s ≠ []) (h2 : Li.eventT gpL (readEv s) = s) : parseL s = (readEv s, 0) := by unfold parseL Li.parseE; exact if_pos ⟨h1, h2⟩
theorem parseL_no1 {s : List UInt8} (h1 : s = []) : parseL s = (Li.ev0, 4) := by unfold parseL Li.parseE; exact if_neg (fun q => q.1 h1)
theorem parseL_no2 {s : List UInt8} (h2 : Li.eventT gpL (readEv s) ≠ s) : parseL s = (Li.ev0, 4) := by unfold parseL Li.parseE; exact if_neg (fun q => h2 q.2)
/-- what Parse leaves -/
def ParsePost (w : World) (r : Li.Ev × Int) (e : Ending) (w' : World) : Prop := ∃ rv kv, e = .returned (.tuple #[evV r.1 rv kv, .int .i64 r.2]) ∧ EvIs w' r.1 rv kv ∧ Grew w w'
set_option maxHeartbeats 16000000 in
theorem lparse_any (s : List UInt8) (hs : s.length ≤ 100000) (w : World) (hV : EnvEv w) : Calls Tryz.prog 8 #[.string ⟨s.toArray⟩] w (ParsePost w (parseL s)) := by
  have HR : Hid (∀ W, Grew w W → Calls Tryz.prog 25 #[.string ⟨s.toArray⟩] W (ReadPost W (readEv s))) := Lib.hid fun W q => read_any s hs W (hV.grew q)
  have HE := Lib.hid fun W (q : Grew w W) rv kv (h : EvIs W (readEv s) rv kv) => event_all (readEv s) rv kv W (hV.l.p.grew q) (hV.l.a.grew q) h (readL_len s)
  have hcase : (s.isEmpty = true ∧ parseL s = (Li.ev0, 4)) ∨ (s.isEmpty = false ∧ Li.eventT gpL (readEv s) = s ∧ parseL s = (readEv s, 0)) ∨ (s.isEmpty = false ∧ (Li.eventT gpL (readEv s) == s) = false ∧ parseL s = (Li.ev0, 4)) := by
    by_cases hse : s = []
    · exact .inl ⟨by rw [hse]; rfl, parseL_no1 hse⟩
    · have heb : s.isEmpty = false := by simpa using hse
      by_cases hq : Li.eventT gpL (readEv s) = s
      · exact .inr (.inl ⟨heb, hq, parseL_ok hse hq⟩)
      · exact .inr (.inr ⟨heb, beq_eq_false_iff_ne.2 hq, parseL_no2 hq⟩)
  clear hV
  generalize parseL s = r at *
  generalize readEv s = n at *
  generalize Li.eventT gpL n = nt at *
  rcases hcase with ⟨h1, rfl⟩ | ⟨h1, rfl, rfl⟩ | ⟨h1, h2, rfl⟩
  all_goals
    go_enter Tryz.func8, Tryz.ntmps8
    go_wp2_with fail
    refine (HR.out _ (by repeat (first | with_reducible exact Grew.refl _ | apply Grew.more | apply Grew.alloc | apply Grew.drew | apply Grew.drewN))).mono ?_
    rintro e w1 ⟨rv, kv, rfl, hr, hk, R1, n1, rfl⟩
    obtain ⟨ra, rc, rfl⟩ := (OwnAt.rows hr encRq_len).len
    obtain ⟨ka, kc, rfl⟩ := (OwnAt.rows hk encBo_len).len
    have HRV := Lib.hid hr
    have HKV := Lib.hid hk
    clear hr hk
    obtain ⟨kind, a, b, recs, plan, keep, ct⟩ := n
    unfold evV
    simp only at *
    go_wp2_with (go_at_call 6; refine (HE.out _ (by repeat (first | with_reducible exact Grew.refl _ | apply Grew.more | apply Grew.alloc | apply Grew.drew | apply Grew.drewN)) _ _ ⟨(OwnAt.rows HRV.out encRq_len).grew (by repeat (first | with_reducible exact Grew.refl _ | apply Grew.more | apply Grew.alloc | apply Grew.drew | apply Grew.drewN)), (OwnAt.rows HKV.out encBo_len).grew (by repeat (first | with_reducible exact Grew.refl _ | apply Grew.more | apply Grew.alloc | apply Grew.drew | apply Grew.drewN))⟩).mono ?_; rintro e w3 ⟨rfl, R3, n3, rfl⟩)
  · refine bodyPost_ret (v := .tuple #[.agg #[.int .i64 0, .int .i64 0, .int .i64 0, .slice none 0 0, .string ⟨#[]⟩, .slice none 0 0, .int .i64 0], .int .i64 4]) (by simp [results, Tryz.results8, go_sem]) rfl ⟨_, _, rfl, ⟨RowsAt.nil, RowsAt.nil⟩, by repeat (first | with_reducible exact Grew.refl _ | apply Grew.more | apply Grew.alloc | apply Grew.drew | apply Grew.drewN)⟩
  · have HOP : ∀ A', OwnAt w.heap.size 67 3 encRq ((w.alloc (.cells A' 27)).more R1 n1) (.slice ra recs.length rc) recs ∧ OwnAt w.heap.size 4 1 encBo ((w.alloc (.cells A' 27)).more R1 n1) (.slice ka keep.length kc) keep := fun A' => ⟨OwnAt.sw (OwnAt.low HRV.out (by simp [World.size_alloc])) (SwT.more (SwT.alloc2 (SwT.refl _ w) _ _) R1 n1 n1) (by decide), OwnAt.sw (OwnAt.low HKV.out (by simp [World.size_alloc])) (SwT.more (SwT.alloc2 (SwT.refl _ w) _ _) R1 n1 n1) (by decide)⟩
    refine bodyPost_ret (v := .tuple #[.agg #[.int .i64 kind, .int .i64 a, .int .i64 b, .slice ra recs.length rc, .string ⟨plan.toArray⟩, .slice ka keep.length kc, .int .i64 ct], .int .i64 0]) (by simp [results, Tryz.results8, go_sem]) rfl ⟨_, _, rfl, ⟨?_, ?_⟩, by repeat (first | with_reducible exact Grew.refl _ | apply Grew.more | apply Grew.alloc | apply Grew.drew | apply Grew.drewN)⟩
    · exact RowsAt.grew (OwnAt.rows (HOP _).1 encRq_len) (by repeat (first | with_reducible exact Grew.refl _ | apply Grew.more | apply Grew.alloc | apply Grew.drew | apply Grew.drewN))
    · exact RowsAt.grew (OwnAt.rows (HOP _).2 encBo_len) (by repeat (first | with_reducible exact Grew.refl _ | apply Grew.more | apply Grew.alloc | apply Grew.drew | apply Grew.drewN))
  · refine bodyPost_ret (v := .tuple #[.agg #[.int .i64 0, .int .i64 0, .int .i64 0, .slice none 0 0, .string ⟨#[]⟩, .slice none 0 0, .int .i64 0], .int .i64 4]) (by simp [results, Tryz.results8, go_sem]) rfl ⟨_, _, rfl, ⟨RowsAt.nil, RowsAt.nil⟩, by repeat (first | with_reducible exact Grew.refl _ | apply Grew.more | apply Grew.alloc | apply Grew.drew | apply Grew.drewN)⟩
end Go.Proofs.YtlgbipfpnfphjaaGreatDoor

/-! forebaylaw27.line. -/
namespace Go.Proofs.YtlgbipfpnfphjaaGreatDoor
set_option linter.unusedSimpArgs false
set_option linter.unusedVariables false
open Go.RowKit Ga
set_option maxRecDepth 100000

theorem nameN_len (k : Nat) (h : k < 14) : (nameN k).length ≤ 10 := by
  have key : ∀ k : Nat, k < 14 → (nameN k).length ≤ 10 := by decide +kernel
  exact key k h
end Go.Proofs.YtlgbipfpnfphjaaGreatDoor

/-! What Parse answers to an event's line. -/
namespace Go.Proofs.YtlgbipfpnfphjaaGreatDoor
set_option linter.unusedSimpArgs false
set_option linter.unusedVariables false
open Go.RowKit Ga
set_option maxRecDepth 100000

theorem parsed_event (v : Li.Ev) : (Li.eventT gpL v = [] ∧ parseL (Li.eventT gpL v) = (Li.ev0, 4)) ∨ ((Li.eventT gpL v).isEmpty = false ∧ parseL (Li.eventT gpL v) = (v, 0)) := by
  by_cases h : Li.eventT gpL v = []
  · exact .inl ⟨h, parseL_no1 h⟩
  · exact .inr ⟨by simpa using h, Li.parseE_event hg_ev hv_ev h⟩
theorem event_len (v : Li.Ev) : (Li.eventT gpL v).length ≤ 100000 := by
  by_cases h : Li.eventT gpL v = []
  · rw [h]; simp
  · obtain ⟨⟨hk, hB⟩, e⟩ := Li.eventT_ne h
    rw [e]
    obtain ⟨w2, wl⟩ := wordsE_len v hB (route8 v.plan)
    have hn : (Li.nameE v.kind).length ≤ 20000 := by
      have := nameN_len v.kind.toNat (by omega)
      have e : Li.nameE v.kind = nameN v.kind.toNat := by rw [← nameN_eq]; congr 1; omega
      rw [e]; omega
    have := join_len (Li.nameE v.kind :: Li.wordsE gpL v) [32] 20000 fun x hx => by
      rcases List.mem_cons.1 hx with rfl | hx
      · exact hn
      · exact wl x hx
    have e : ([32] : List UInt8).length = 1 := rfl
    rw [e, show (Li.nameE v.kind :: Li.wordsE gpL v).length = (Li.wordsE gpL v).length + 1 from rfl] at this
    have := Nat.mul_le_mul_left (20000 + 1) (show (Li.wordsE gpL v).length + 1 ≤ 3 by omega)
    omega
end Go.Proofs.YtlgbipfpnfphjaaGreatDoor

/-! The law LinesBytes. -/
namespace Go.Proofs.YtlgbipfpnfphjaaGreatDoor
set_option linter.unusedSimpArgs false
set_option linter.unusedVariables false
open Go.RowKit Ga
set_option maxRecDepth 100000

theorem num00 : Li.num 0 = true := by decide
theorem kind2 : (1 : Int) ≤ 2 ∧ (2 : Int) ≤ 13 := by decide
theorem told_clean {p : List Gr.Stp} (h : ∀ s ∈ p, Li.Told s) : p.map Gr.cleanS = p :=
  (List.map_congr_left fun s hs => (h s hs).2.2.2).trans (List.map_id _)
def evPlan (b : List UInt8) : Li.Ev := ⟨2, 0, 0, [], b, [], 0⟩
def evCrash (l : List Bool) (ct : Int) : Li.Ev := ⟨11, 0, 0, [], [], l, ct⟩
theorem planned_event {p : List Gr.Stp} (h : Li.planT p ≠ []) (ho : Gr.OkPl fitsP p) : parseL ([83, 85, 66, 77, 73, 84, 32] ++ Li.planT p) = (evPlan (Gr.putPl putI p), 0) := by
  have hg : gpL (Gr.putPl putI p) = (p, 0) := by
    have := Gr.getPl_put codecI ho
    rw [told_clean (Li.planT_ne h).1.2.2] at this
    exact this
  have hB : Li.Bare gpL (evPlan (Gr.putPl putI p)) := by
    refine ⟨⟨num00, num00, num00, Nat.zero_le _, Nat.zero_le _⟩, fun _ => rfl, fun _ => rfl, fun _ => ⟨rfl, rfl⟩, fun _ => rfl, fun h => absurd rfl h, fun _ => ?_, fun r hr => by cases hr⟩
    show Li.planT (gpL (Gr.putPl putI p)).1 ≠ []
    rw [hg]
    exact h
  have hE : Li.eventT gpL (evPlan (Gr.putPl putI p)) = [83, 85, 66, 77, 73, 84, 32] ++ Li.planT p := by
    rw [Li.eventT_some ⟨kind2, hB⟩]
    have hw : Li.wordsE gpL (evPlan (Gr.putPl putI p)) = [Li.planT p] := by
      show Li.wordsE gpL ⟨2, 0, 0, [], _, [], 0⟩ = _
      unfold Li.wordsE
      rw [if_neg (show ¬ (2 : Int) = 1 by decide), if_pos rfl]
      show [Li.planT (gpL (Gr.putPl putI p)).1] = _
      rw [hg]
    rw [hw, Li.join2]
    rfl
  rw [← hE]
  exact Li.parseE_event hg_ev hv_ev (Li.eventT_some_ne ⟨kind2, hB⟩)
theorem planTp_len {p : List Gr.Stp} (h8 : ∀ s ∈ p, s.nd.route.length = 8) : (Li.planT p).length ≤ 20000 := by
  by_cases hn : Li.planT p = []
  · rw [hn]; simp
  · obtain ⟨⟨p1, p2, p3⟩, e⟩ := Li.planT_ne hn
    rw [e]
    have := join_len (p.map Li.stepT) Li.between 1300 fun x hx => by
      obtain ⟨n, hn2, rfl⟩ := List.mem_map.1 hx
      exact stepT_len (h8 n hn2) (p3 n hn2)
    rw [List.length_map] at this
    have e : Li.between.length = 3 := rfl
    rw [e] at this
    have := Nat.mul_le_mul_left (1300 + 3) p2
    omega
theorem crash_none {l : List Bool} {ct : Int} (h : Li.eventT gpL (evCrash l ct) = []) : 60 < l.length ∨ 1000000 < ct ∨ ct < -1000000 := by
  by_cases h1 : 60 < l.length
  · exact .inl h1
  by_cases h2 : Li.num ct = true
  · refine absurd h (Li.eventT_some_ne ⟨by show (1 : Int) ≤ 11 ∧ (11 : Int) ≤ 13; decide, ⟨⟨num00, num00, h2, Nat.zero_le _, by show l.length ≤ 60; omega⟩, fun _ => rfl, fun _ => rfl, fun h => absurd rfl h, fun _ => rfl, fun _ => rfl, fun h => absurd h (by show ¬ (11 : Int) = 2; decide), fun r hr => by cases hr⟩⟩)
  · rw [Li.num_iff] at h2
    omega
set_option maxHeartbeats 32000000 in
theorem linesBytes_out (v kv : Value) (p : List Gr.Stp) (l : List Bool) (ct : Int) (w : World) (hV : EnvEv w) (hv : StepsAt w v p) (hk : BoolsAt w kv l) (h : greatP p = true ∨ (greatP p = false ∧ 100 < l.length)) : Calls Tryz.prog 4 #[v, .agg #[kv, .int .i64 ct]] w (Gives (.bool true) w) := by
  have HAW := Lib.hid fun W (q : Grew w W) => awake27_any W (hV.l.grew q)
  have HGR := Lib.hid fun W (q : Grew w W) => great10_p v p W (hv.grew q)
  obtain ⟨a, cap, rfl, -, -⟩ := hv.openC
  obtain ⟨kb, kc, rfl, -, -⟩ := bools_open hk
  clear hV hv hk
  rcases h with h | ⟨h, h2⟩
  · rw [h] at HGR
    clear h
    go_enter Tryz.func4, Tryz.ntmps4
    go_wp2_with (first
      | (go_at_call 5; refine (HAW.out _ (by repeat (first | with_reducible exact Grew.refl _ | apply Grew.more | apply Grew.alloc | apply Grew.drew | apply Grew.drewN))).mono ?_; rintro e w1 ⟨rfl, R1, n1, rfl⟩)
      | (go_at_call 10; refine (HGR.out _ (by repeat (first | with_reducible exact Grew.refl _ | apply Grew.more | apply Grew.alloc | apply Grew.drew | apply Grew.drewN))).mono ?_; rintro e w1 ⟨rfl, R2, n2, rfl⟩))
    go_ret
    exact ⟨rfl, by repeat (first | with_reducible exact Grew.refl _ | apply Grew.more | apply Grew.alloc | apply Grew.drew | apply Grew.drewN)⟩
  · rw [h] at HGR
    have h3 : (100 : Int) < l.length := by omega
    clear h h2
    go_enter Tryz.func4, Tryz.ntmps4
    go_wp2_with (first
      | (go_at_call 5; refine (HAW.out _ (by repeat (first | with_reducible exact Grew.refl _ | apply Grew.more | apply Grew.alloc | apply Grew.drew | apply Grew.drewN))).mono ?_; rintro e w1 ⟨rfl, R1, n1, rfl⟩)
      | (go_at_call 10; refine (HGR.out _ (by repeat (first | with_reducible exact Grew.refl _ | apply Grew.more | apply Grew.alloc | apply Grew.drew | apply Grew.drewN))).mono ?_; rintro e w1 ⟨rfl, R2, n2, rfl⟩))
    go_ret
    exact ⟨rfl, by repeat (first | with_reducible exact Grew.refl _ | apply Grew.more | apply Grew.alloc | apply Grew.drew | apply Grew.drewN)⟩
set_option maxHeartbeats 32000000 in
theorem linesBytes_in (v kv : Value) (p : List Gr.Stp) (l : List Bool) (ct : Int) (w : World) (hV : EnvEv w) (hv : StepsAt w v p) (hk : BoolsAt w kv l) (hg : greatP p = false) (hl : l.length ≤ 100) : Calls Tryz.prog 4 #[v, .agg #[kv, .int .i64 ct]] w (Gives (.bool true) w) := by
  have HV := Lib.hid hV
  have HAW := Lib.hid fun W (q : Grew w W) => awake27_any W (hV.l.grew q)
  have HGR := Lib.hid fun W (q : Grew w W) => great10_p v p W (hv.grew q)
  rw [hg] at HGR
  have hsm := greatP_small hg
  have HPL := Lib.hid fun W (q : Grew w W) => linesPlan_any v p W (hV.l.p.grew q) (hV.l.a.grew q) (hv.grew q)
  have HPP := Lib.hid fun W (q : Grew w W) => plan16_any v p W (hv.grew q) hsm
  have HEV := Lib.hid fun W (q : Grew w W) => event_all (evCrash l ct) (.slice none 0 0) kv W (hV.l.p.grew q) (hV.l.a.grew q) ⟨RowsAt.nil, RowsAt.grew hk q⟩ (by show (0 : Nat) ≤ 100000; decide)
  have HPC := Lib.hid fun W (q : Grew w W) => lparse_any (Li.eventT gpL (evCrash l ct)) (event_len _) W (hV.grew q)
  have HPE := Lib.hid (parsed_event (evCrash l ct))
  have HCN := Lib.hid (crash_none (l := l) (ct := ct))
  have HK := Lib.hid hk
  have hd : ¬ (100 : Int) < l.length := by omega
  have HRO := Lib.hid fun W (q : Grew w W) (h : Gr.OkPl fitsP p) => ref13_ok v p W (hv.grew q) h
  have HPS := Lib.hid fun W (q : Grew w W) (h : Li.planT p ≠ []) (ho : Gr.OkPl fitsP p) => (by
    have h1 := lparse_any ([83, 85, 66, 77, 73, 84, 32] ++ Li.planT p) (by
      have := planTp_len (p := p) hv.r8
      rw [List.length_append]
      show 7 + _ ≤ _
      omega) W (hV.grew q)
    rw [planned_event h ho] at h1
    exact h1 : Calls Tryz.prog 8 #[.string ⟨([83, 85, 66, 77, 73, 84, 32] ++ Li.planT p).toArray⟩] W (ParsePost W (evPlan (Gr.putPl putI p), 0)))
  have hplen := planTp_len (p := p) hv.r8
  obtain ⟨a, cap, rfl, -, -⟩ := hv.openC
  obtain ⟨kb, kc, rfl, -, -⟩ := bools_open hk
  clear hl hg hsm hV hv hk
  have hcase : (Li.planT p = []) ∨ (Li.planT p ≠ [] ∧ planR p = ([], 11)) ∨ (Li.planT p ≠ [] ∧ Gr.OkPl fitsP p ∧ planR p = (Gr.putPl putI p, 0)) := by
    by_cases h1 : Li.planT p = []
    · exact .inl h1
    by_cases h2 : Gr.OkPl fitsP p
    · exact .inr (.inr ⟨h1, h2, planR_ok h2⟩)
    · exact .inr (.inl ⟨h1, planR_no h2⟩)
  have HCS := Lib.hid hcase
  clear hcase
  generalize Li.planT p = pt at *
  generalize planR p = pr at *
  generalize Gr.putPl putI p = pb at *
  have HE4 : Hid ((Li.eventT gpL (evCrash l ct) = [] ∧ 60 < l.length) ∨ (Li.eventT gpL (evCrash l ct) = [] ∧ ¬ 60 < l.length ∧ 1000000 < ct) ∨ (Li.eventT gpL (evCrash l ct) = [] ∧ ¬ 60 < l.length ∧ ¬ 1000000 < ct ∧ ct < -1000000) ∨ ((Li.eventT gpL (evCrash l ct)).isEmpty = false ∧ parseL (Li.eventT gpL (evCrash l ct)) = (evCrash l ct, 0))) := Lib.hid (by
    rcases HPE.out with ⟨h1, h2⟩ | ⟨h1, h2⟩
    · have h3 := HCN.out h1
      by_cases h4 : 60 < l.length
      · exact .inl ⟨h1, h4⟩
      by_cases h5 : 1000000 < ct
      · exact .inr (.inl ⟨h1, h4, h5⟩)
      · exact .inr (.inr (.inl ⟨h1, h4, h5, by omega⟩))
    · exact .inr (.inr (.inr ⟨h1, h2⟩)))
  clear HPE HCN
  generalize parseL (Li.eventT gpL (evCrash l ct)) = r9 at *
  generalize Li.eventT gpL (evCrash l ct) = et at *
  rcases HE4.out with ⟨rfl, h60⟩ | ⟨rfl, h60, hc1⟩ | ⟨rfl, h60, hc1, hc2⟩ | ⟨het, rfl⟩
  · have d1 : decide ((60 : Int) < l.length) = true := decide_eq_true (by omega)
    clear HE4 h60
    rcases HCS.out with rfl | ⟨hne, rfl⟩ | ⟨hne, ho, rfl⟩
    · clear HCS
      go_enter Tryz.func4, Tryz.ntmps4
      go_wp2_with (first
        | (go_at_call 5; refine (HAW.out _ (by repeat (first | with_reducible exact Grew.refl _ | apply Grew.more | apply Grew.alloc | apply Grew.drew | apply Grew.drewN))).mono ?_; rintro e w1 ⟨rfl, R1, n1, rfl⟩)
        | (go_at_call 10; refine (HGR.out _ (by repeat (first | with_reducible exact Grew.refl _ | apply Grew.more | apply Grew.alloc | apply Grew.drew | apply Grew.drewN))).mono ?_; rintro e w1 ⟨rfl, R2, n2, rfl⟩)
        | (go_at_call 11; refine (HPL.out _ (by repeat (first | with_reducible exact Grew.refl _ | apply Grew.more | apply Grew.alloc | apply Grew.drew | apply Grew.drewN))).mono ?_; rintro e w1 ⟨rfl, R3, n3, rfl⟩)
        | (go_at_call 12; refine (HPP.out _ (by repeat (first | with_reducible exact Grew.refl _ | apply Grew.more | apply Grew.alloc | apply Grew.drew | apply Grew.drewN))).mono ?_; rintro e w1 ⟨rfl, R4, n4, rfl⟩)
        | (go_at_call 13; refine (HRO.out _ (by repeat (first | with_reducible exact Grew.refl _ | apply Grew.more | apply Grew.alloc | apply Grew.drew | apply Grew.drewN)) HOK.out).mono ?_; rintro e w1 ⟨rfl, R6, n6, rfl⟩)
        | (go_at_call 6; refine (HEV.out _ (by repeat (first | with_reducible exact Grew.refl _ | apply Grew.more | apply Grew.alloc | apply Grew.drew | apply Grew.drewN))).mono ?_; rintro e w1 ⟨rfl, R7, n7, rfl⟩)
        | fail)
      go_ret
      exact ⟨rfl, by repeat (first | with_reducible exact Grew.refl _ | apply Grew.more | apply Grew.alloc | apply Grew.drew | apply Grew.drewN)⟩
    · clear HCS
      have hpe : pt.isEmpty = false := by cases pt with
        | nil => exact absurd rfl hne
        | cons => rfl
      clear hne
      go_enter Tryz.func4, Tryz.ntmps4
      go_wp2_with (first
        | (go_at_call 5; refine (HAW.out _ (by repeat (first | with_reducible exact Grew.refl _ | apply Grew.more | apply Grew.alloc | apply Grew.drew | apply Grew.drewN))).mono ?_; rintro e w1 ⟨rfl, R1, n1, rfl⟩)
        | (go_at_call 10; refine (HGR.out _ (by repeat (first | with_reducible exact Grew.refl _ | apply Grew.more | apply Grew.alloc | apply Grew.drew | apply Grew.drewN))).mono ?_; rintro e w1 ⟨rfl, R2, n2, rfl⟩)
        | (go_at_call 11; refine (HPL.out _ (by repeat (first | with_reducible exact Grew.refl _ | apply Grew.more | apply Grew.alloc | apply Grew.drew | apply Grew.drewN))).mono ?_; rintro e w1 ⟨rfl, R3, n3, rfl⟩)
        | (go_at_call 12; refine (HPP.out _ (by repeat (first | with_reducible exact Grew.refl _ | apply Grew.more | apply Grew.alloc | apply Grew.drew | apply Grew.drewN))).mono ?_; rintro e w1 ⟨rfl, R4, n4, rfl⟩)
        | (go_at_call 13; refine (HRO.out _ (by repeat (first | with_reducible exact Grew.refl _ | apply Grew.more | apply Grew.alloc | apply Grew.drew | apply Grew.drewN)) HOK.out).mono ?_; rintro e w1 ⟨rfl, R6, n6, rfl⟩)
        | (go_at_call 6; refine (HEV.out _ (by repeat (first | with_reducible exact Grew.refl _ | apply Grew.more | apply Grew.alloc | apply Grew.drew | apply Grew.drewN))).mono ?_; rintro e w1 ⟨rfl, R7, n7, rfl⟩)
        | fail)
      go_ret
      exact ⟨rfl, by repeat (first | with_reducible exact Grew.refl _ | apply Grew.more | apply Grew.alloc | apply Grew.drew | apply Grew.drewN)⟩
    · clear HCS
      have hpe : pt.isEmpty = false := by cases pt with
        | nil => exact absurd rfl hne
        | cons => rfl
      have HOK := Lib.hid ho
      have HPS2 := Lib.hid fun W (q : Grew w W) => HPS.out W q hne ho
      clear hne ho
      go_enter Tryz.func4, Tryz.ntmps4
      go_wp2_with (first
        | (go_at_call 5; refine (HAW.out _ (by repeat (first | with_reducible exact Grew.refl _ | apply Grew.more | apply Grew.alloc | apply Grew.drew | apply Grew.drewN))).mono ?_; rintro e w1 ⟨rfl, R1, n1, rfl⟩)
        | (go_at_call 10; refine (HGR.out _ (by repeat (first | with_reducible exact Grew.refl _ | apply Grew.more | apply Grew.alloc | apply Grew.drew | apply Grew.drewN))).mono ?_; rintro e w1 ⟨rfl, R2, n2, rfl⟩)
        | (go_at_call 11; refine (HPL.out _ (by repeat (first | with_reducible exact Grew.refl _ | apply Grew.more | apply Grew.alloc | apply Grew.drew | apply Grew.drewN))).mono ?_; rintro e w1 ⟨rfl, R3, n3, rfl⟩)
        | (go_at_call 12; refine (HPP.out _ (by repeat (first | with_reducible exact Grew.refl _ | apply Grew.more | apply Grew.alloc | apply Grew.drew | apply Grew.drewN))).mono ?_; rintro e w1 ⟨rfl, R4, n4, rfl⟩)
        | (go_at_call 13; refine (HRO.out _ (by repeat (first | with_reducible exact Grew.refl _ | apply Grew.more | apply Grew.alloc | apply Grew.drew | apply Grew.drewN)) HOK.out).mono ?_; rintro e w1 ⟨rfl, R6, n6, rfl⟩)
        | (go_at_call 6; refine (HEV.out _ (by repeat (first | with_reducible exact Grew.refl _ | apply Grew.more | apply Grew.alloc | apply Grew.drew | apply Grew.drewN))).mono ?_; rintro e w1 ⟨rfl, R7, n7, rfl⟩)
        | fail)
      refine (HPS2.out _ (by repeat (first | with_reducible exact Grew.refl _ | apply Grew.more | apply Grew.alloc | apply Grew.drew | apply Grew.drewN))).mono ?_
      rintro e w1 ⟨rv1, kv1, rfl, hx, R5, n5, rfl⟩
      obtain ⟨ax, cx, e1, -, -⟩ := rq_open hx.r
      obtain ⟨bx, dx, e2, -, -⟩ := bools_open hx.k
      subst e1 e2
      clear hx
      simp only [evV, evPlan]
      go_wp2_with (first
        | (go_at_call 5; refine (HAW.out _ (by repeat (first | with_reducible exact Grew.refl _ | apply Grew.more | apply Grew.alloc | apply Grew.drew | apply Grew.drewN))).mono ?_; rintro e w1 ⟨rfl, R1, n1, rfl⟩)
        | (go_at_call 10; refine (HGR.out _ (by repeat (first | with_reducible exact Grew.refl _ | apply Grew.more | apply Grew.alloc | apply Grew.drew | apply Grew.drewN))).mono ?_; rintro e w1 ⟨rfl, R2, n2, rfl⟩)
        | (go_at_call 11; refine (HPL.out _ (by repeat (first | with_reducible exact Grew.refl _ | apply Grew.more | apply Grew.alloc | apply Grew.drew | apply Grew.drewN))).mono ?_; rintro e w1 ⟨rfl, R3, n3, rfl⟩)
        | (go_at_call 12; refine (HPP.out _ (by repeat (first | with_reducible exact Grew.refl _ | apply Grew.more | apply Grew.alloc | apply Grew.drew | apply Grew.drewN))).mono ?_; rintro e w1 ⟨rfl, R4, n4, rfl⟩)
        | (go_at_call 13; refine (HRO.out _ (by repeat (first | with_reducible exact Grew.refl _ | apply Grew.more | apply Grew.alloc | apply Grew.drew | apply Grew.drewN)) HOK.out).mono ?_; rintro e w1 ⟨rfl, R6, n6, rfl⟩)
        | (go_at_call 6; refine (HEV.out _ (by repeat (first | with_reducible exact Grew.refl _ | apply Grew.more | apply Grew.alloc | apply Grew.drew | apply Grew.drewN))).mono ?_; rintro e w1 ⟨rfl, R7, n7, rfl⟩)
        | fail)
      go_ret
      exact ⟨rfl, by repeat (first | with_reducible exact Grew.refl _ | apply Grew.more | apply Grew.alloc | apply Grew.drew | apply Grew.drewN)⟩
  · have d1 : decide ((60 : Int) < l.length) = false := decide_eq_false (by omega)
    clear HE4 h60
    rcases HCS.out with rfl | ⟨hne, rfl⟩ | ⟨hne, ho, rfl⟩
    · clear HCS
      go_enter Tryz.func4, Tryz.ntmps4
      go_wp2_with (first
        | (go_at_call 5; refine (HAW.out _ (by repeat (first | with_reducible exact Grew.refl _ | apply Grew.more | apply Grew.alloc | apply Grew.drew | apply Grew.drewN))).mono ?_; rintro e w1 ⟨rfl, R1, n1, rfl⟩)
        | (go_at_call 10; refine (HGR.out _ (by repeat (first | with_reducible exact Grew.refl _ | apply Grew.more | apply Grew.alloc | apply Grew.drew | apply Grew.drewN))).mono ?_; rintro e w1 ⟨rfl, R2, n2, rfl⟩)
        | (go_at_call 11; refine (HPL.out _ (by repeat (first | with_reducible exact Grew.refl _ | apply Grew.more | apply Grew.alloc | apply Grew.drew | apply Grew.drewN))).mono ?_; rintro e w1 ⟨rfl, R3, n3, rfl⟩)
        | (go_at_call 12; refine (HPP.out _ (by repeat (first | with_reducible exact Grew.refl _ | apply Grew.more | apply Grew.alloc | apply Grew.drew | apply Grew.drewN))).mono ?_; rintro e w1 ⟨rfl, R4, n4, rfl⟩)
        | (go_at_call 13; refine (HRO.out _ (by repeat (first | with_reducible exact Grew.refl _ | apply Grew.more | apply Grew.alloc | apply Grew.drew | apply Grew.drewN)) HOK.out).mono ?_; rintro e w1 ⟨rfl, R6, n6, rfl⟩)
        | (go_at_call 6; refine (HEV.out _ (by repeat (first | with_reducible exact Grew.refl _ | apply Grew.more | apply Grew.alloc | apply Grew.drew | apply Grew.drewN))).mono ?_; rintro e w1 ⟨rfl, R7, n7, rfl⟩)
        | fail)
      go_ret
      exact ⟨rfl, by repeat (first | with_reducible exact Grew.refl _ | apply Grew.more | apply Grew.alloc | apply Grew.drew | apply Grew.drewN)⟩
    · clear HCS
      have hpe : pt.isEmpty = false := by cases pt with
        | nil => exact absurd rfl hne
        | cons => rfl
      clear hne
      go_enter Tryz.func4, Tryz.ntmps4
      go_wp2_with (first
        | (go_at_call 5; refine (HAW.out _ (by repeat (first | with_reducible exact Grew.refl _ | apply Grew.more | apply Grew.alloc | apply Grew.drew | apply Grew.drewN))).mono ?_; rintro e w1 ⟨rfl, R1, n1, rfl⟩)
        | (go_at_call 10; refine (HGR.out _ (by repeat (first | with_reducible exact Grew.refl _ | apply Grew.more | apply Grew.alloc | apply Grew.drew | apply Grew.drewN))).mono ?_; rintro e w1 ⟨rfl, R2, n2, rfl⟩)
        | (go_at_call 11; refine (HPL.out _ (by repeat (first | with_reducible exact Grew.refl _ | apply Grew.more | apply Grew.alloc | apply Grew.drew | apply Grew.drewN))).mono ?_; rintro e w1 ⟨rfl, R3, n3, rfl⟩)
        | (go_at_call 12; refine (HPP.out _ (by repeat (first | with_reducible exact Grew.refl _ | apply Grew.more | apply Grew.alloc | apply Grew.drew | apply Grew.drewN))).mono ?_; rintro e w1 ⟨rfl, R4, n4, rfl⟩)
        | (go_at_call 13; refine (HRO.out _ (by repeat (first | with_reducible exact Grew.refl _ | apply Grew.more | apply Grew.alloc | apply Grew.drew | apply Grew.drewN)) HOK.out).mono ?_; rintro e w1 ⟨rfl, R6, n6, rfl⟩)
        | (go_at_call 6; refine (HEV.out _ (by repeat (first | with_reducible exact Grew.refl _ | apply Grew.more | apply Grew.alloc | apply Grew.drew | apply Grew.drewN))).mono ?_; rintro e w1 ⟨rfl, R7, n7, rfl⟩)
        | fail)
      go_ret
      exact ⟨rfl, by repeat (first | with_reducible exact Grew.refl _ | apply Grew.more | apply Grew.alloc | apply Grew.drew | apply Grew.drewN)⟩
    · clear HCS
      have hpe : pt.isEmpty = false := by cases pt with
        | nil => exact absurd rfl hne
        | cons => rfl
      have HOK := Lib.hid ho
      have HPS2 := Lib.hid fun W (q : Grew w W) => HPS.out W q hne ho
      clear hne ho
      go_enter Tryz.func4, Tryz.ntmps4
      go_wp2_with (first
        | (go_at_call 5; refine (HAW.out _ (by repeat (first | with_reducible exact Grew.refl _ | apply Grew.more | apply Grew.alloc | apply Grew.drew | apply Grew.drewN))).mono ?_; rintro e w1 ⟨rfl, R1, n1, rfl⟩)
        | (go_at_call 10; refine (HGR.out _ (by repeat (first | with_reducible exact Grew.refl _ | apply Grew.more | apply Grew.alloc | apply Grew.drew | apply Grew.drewN))).mono ?_; rintro e w1 ⟨rfl, R2, n2, rfl⟩)
        | (go_at_call 11; refine (HPL.out _ (by repeat (first | with_reducible exact Grew.refl _ | apply Grew.more | apply Grew.alloc | apply Grew.drew | apply Grew.drewN))).mono ?_; rintro e w1 ⟨rfl, R3, n3, rfl⟩)
        | (go_at_call 12; refine (HPP.out _ (by repeat (first | with_reducible exact Grew.refl _ | apply Grew.more | apply Grew.alloc | apply Grew.drew | apply Grew.drewN))).mono ?_; rintro e w1 ⟨rfl, R4, n4, rfl⟩)
        | (go_at_call 13; refine (HRO.out _ (by repeat (first | with_reducible exact Grew.refl _ | apply Grew.more | apply Grew.alloc | apply Grew.drew | apply Grew.drewN)) HOK.out).mono ?_; rintro e w1 ⟨rfl, R6, n6, rfl⟩)
        | (go_at_call 6; refine (HEV.out _ (by repeat (first | with_reducible exact Grew.refl _ | apply Grew.more | apply Grew.alloc | apply Grew.drew | apply Grew.drewN))).mono ?_; rintro e w1 ⟨rfl, R7, n7, rfl⟩)
        | fail)
      refine (HPS2.out _ (by repeat (first | with_reducible exact Grew.refl _ | apply Grew.more | apply Grew.alloc | apply Grew.drew | apply Grew.drewN))).mono ?_
      rintro e w1 ⟨rv1, kv1, rfl, hx, R5, n5, rfl⟩
      obtain ⟨ax, cx, e1, -, -⟩ := rq_open hx.r
      obtain ⟨bx, dx, e2, -, -⟩ := bools_open hx.k
      subst e1 e2
      clear hx
      simp only [evV, evPlan]
      go_wp2_with (first
        | (go_at_call 5; refine (HAW.out _ (by repeat (first | with_reducible exact Grew.refl _ | apply Grew.more | apply Grew.alloc | apply Grew.drew | apply Grew.drewN))).mono ?_; rintro e w1 ⟨rfl, R1, n1, rfl⟩)
        | (go_at_call 10; refine (HGR.out _ (by repeat (first | with_reducible exact Grew.refl _ | apply Grew.more | apply Grew.alloc | apply Grew.drew | apply Grew.drewN))).mono ?_; rintro e w1 ⟨rfl, R2, n2, rfl⟩)
        | (go_at_call 11; refine (HPL.out _ (by repeat (first | with_reducible exact Grew.refl _ | apply Grew.more | apply Grew.alloc | apply Grew.drew | apply Grew.drewN))).mono ?_; rintro e w1 ⟨rfl, R3, n3, rfl⟩)
        | (go_at_call 12; refine (HPP.out _ (by repeat (first | with_reducible exact Grew.refl _ | apply Grew.more | apply Grew.alloc | apply Grew.drew | apply Grew.drewN))).mono ?_; rintro e w1 ⟨rfl, R4, n4, rfl⟩)
        | (go_at_call 13; refine (HRO.out _ (by repeat (first | with_reducible exact Grew.refl _ | apply Grew.more | apply Grew.alloc | apply Grew.drew | apply Grew.drewN)) HOK.out).mono ?_; rintro e w1 ⟨rfl, R6, n6, rfl⟩)
        | (go_at_call 6; refine (HEV.out _ (by repeat (first | with_reducible exact Grew.refl _ | apply Grew.more | apply Grew.alloc | apply Grew.drew | apply Grew.drewN))).mono ?_; rintro e w1 ⟨rfl, R7, n7, rfl⟩)
        | fail)
      go_ret
      exact ⟨rfl, by repeat (first | with_reducible exact Grew.refl _ | apply Grew.more | apply Grew.alloc | apply Grew.drew | apply Grew.drewN)⟩
  · have d1 : decide ((60 : Int) < l.length) = false := decide_eq_false (by omega)
    clear HE4 h60
    rcases HCS.out with rfl | ⟨hne, rfl⟩ | ⟨hne, ho, rfl⟩
    · clear HCS
      go_enter Tryz.func4, Tryz.ntmps4
      go_wp2_with (first
        | (go_at_call 5; refine (HAW.out _ (by repeat (first | with_reducible exact Grew.refl _ | apply Grew.more | apply Grew.alloc | apply Grew.drew | apply Grew.drewN))).mono ?_; rintro e w1 ⟨rfl, R1, n1, rfl⟩)
        | (go_at_call 10; refine (HGR.out _ (by repeat (first | with_reducible exact Grew.refl _ | apply Grew.more | apply Grew.alloc | apply Grew.drew | apply Grew.drewN))).mono ?_; rintro e w1 ⟨rfl, R2, n2, rfl⟩)
        | (go_at_call 11; refine (HPL.out _ (by repeat (first | with_reducible exact Grew.refl _ | apply Grew.more | apply Grew.alloc | apply Grew.drew | apply Grew.drewN))).mono ?_; rintro e w1 ⟨rfl, R3, n3, rfl⟩)
        | (go_at_call 12; refine (HPP.out _ (by repeat (first | with_reducible exact Grew.refl _ | apply Grew.more | apply Grew.alloc | apply Grew.drew | apply Grew.drewN))).mono ?_; rintro e w1 ⟨rfl, R4, n4, rfl⟩)
        | (go_at_call 13; refine (HRO.out _ (by repeat (first | with_reducible exact Grew.refl _ | apply Grew.more | apply Grew.alloc | apply Grew.drew | apply Grew.drewN)) HOK.out).mono ?_; rintro e w1 ⟨rfl, R6, n6, rfl⟩)
        | (go_at_call 6; refine (HEV.out _ (by repeat (first | with_reducible exact Grew.refl _ | apply Grew.more | apply Grew.alloc | apply Grew.drew | apply Grew.drewN))).mono ?_; rintro e w1 ⟨rfl, R7, n7, rfl⟩)
        | fail)
      go_ret
      exact ⟨rfl, by repeat (first | with_reducible exact Grew.refl _ | apply Grew.more | apply Grew.alloc | apply Grew.drew | apply Grew.drewN)⟩
    · clear HCS
      have hpe : pt.isEmpty = false := by cases pt with
        | nil => exact absurd rfl hne
        | cons => rfl
      clear hne
      go_enter Tryz.func4, Tryz.ntmps4
      go_wp2_with (first
        | (go_at_call 5; refine (HAW.out _ (by repeat (first | with_reducible exact Grew.refl _ | apply Grew.more | apply Grew.alloc | apply Grew.drew | apply Grew.drewN))).mono ?_; rintro e w1 ⟨rfl, R1, n1, rfl⟩)
        | (go_at_call 10; refine (HGR.out _ (by repeat (first | with_reducible exact Grew.refl _ | apply Grew.more | apply Grew.alloc | apply Grew.drew | apply Grew.drewN))).mono ?_; rintro e w1 ⟨rfl, R2, n2, rfl⟩)
        | (go_at_call 11; refine (HPL.out _ (by repeat (first | with_reducible exact Grew.refl _ | apply Grew.more | apply Grew.alloc | apply Grew.drew | apply Grew.drewN))).mono ?_; rintro e w1 ⟨rfl, R3, n3, rfl⟩)
        | (go_at_call 12; refine (HPP.out _ (by repeat (first | with_reducible exact Grew.refl _ | apply Grew.more | apply Grew.alloc | apply Grew.drew | apply Grew.drewN))).mono ?_; rintro e w1 ⟨rfl, R4, n4, rfl⟩)
        | (go_at_call 13; refine (HRO.out _ (by repeat (first | with_reducible exact Grew.refl _ | apply Grew.more | apply Grew.alloc | apply Grew.drew | apply Grew.drewN)) HOK.out).mono ?_; rintro e w1 ⟨rfl, R6, n6, rfl⟩)
        | (go_at_call 6; refine (HEV.out _ (by repeat (first | with_reducible exact Grew.refl _ | apply Grew.more | apply Grew.alloc | apply Grew.drew | apply Grew.drewN))).mono ?_; rintro e w1 ⟨rfl, R7, n7, rfl⟩)
        | fail)
      go_ret
      exact ⟨rfl, by repeat (first | with_reducible exact Grew.refl _ | apply Grew.more | apply Grew.alloc | apply Grew.drew | apply Grew.drewN)⟩
    · clear HCS
      have hpe : pt.isEmpty = false := by cases pt with
        | nil => exact absurd rfl hne
        | cons => rfl
      have HOK := Lib.hid ho
      have HPS2 := Lib.hid fun W (q : Grew w W) => HPS.out W q hne ho
      clear hne ho
      go_enter Tryz.func4, Tryz.ntmps4
      go_wp2_with (first
        | (go_at_call 5; refine (HAW.out _ (by repeat (first | with_reducible exact Grew.refl _ | apply Grew.more | apply Grew.alloc | apply Grew.drew | apply Grew.drewN))).mono ?_; rintro e w1 ⟨rfl, R1, n1, rfl⟩)
        | (go_at_call 10; refine (HGR.out _ (by repeat (first | with_reducible exact Grew.refl _ | apply Grew.more | apply Grew.alloc | apply Grew.drew | apply Grew.drewN))).mono ?_; rintro e w1 ⟨rfl, R2, n2, rfl⟩)
        | (go_at_call 11; refine (HPL.out _ (by repeat (first | with_reducible exact Grew.refl _ | apply Grew.more | apply Grew.alloc | apply Grew.drew | apply Grew.drewN))).mono ?_; rintro e w1 ⟨rfl, R3, n3, rfl⟩)
        | (go_at_call 12; refine (HPP.out _ (by repeat (first | with_reducible exact Grew.refl _ | apply Grew.more | apply Grew.alloc | apply Grew.drew | apply Grew.drewN))).mono ?_; rintro e w1 ⟨rfl, R4, n4, rfl⟩)
        | (go_at_call 13; refine (HRO.out _ (by repeat (first | with_reducible exact Grew.refl _ | apply Grew.more | apply Grew.alloc | apply Grew.drew | apply Grew.drewN)) HOK.out).mono ?_; rintro e w1 ⟨rfl, R6, n6, rfl⟩)
        | (go_at_call 6; refine (HEV.out _ (by repeat (first | with_reducible exact Grew.refl _ | apply Grew.more | apply Grew.alloc | apply Grew.drew | apply Grew.drewN))).mono ?_; rintro e w1 ⟨rfl, R7, n7, rfl⟩)
        | fail)
      refine (HPS2.out _ (by repeat (first | with_reducible exact Grew.refl _ | apply Grew.more | apply Grew.alloc | apply Grew.drew | apply Grew.drewN))).mono ?_
      rintro e w1 ⟨rv1, kv1, rfl, hx, R5, n5, rfl⟩
      obtain ⟨ax, cx, e1, -, -⟩ := rq_open hx.r
      obtain ⟨bx, dx, e2, -, -⟩ := bools_open hx.k
      subst e1 e2
      clear hx
      simp only [evV, evPlan]
      go_wp2_with (first
        | (go_at_call 5; refine (HAW.out _ (by repeat (first | with_reducible exact Grew.refl _ | apply Grew.more | apply Grew.alloc | apply Grew.drew | apply Grew.drewN))).mono ?_; rintro e w1 ⟨rfl, R1, n1, rfl⟩)
        | (go_at_call 10; refine (HGR.out _ (by repeat (first | with_reducible exact Grew.refl _ | apply Grew.more | apply Grew.alloc | apply Grew.drew | apply Grew.drewN))).mono ?_; rintro e w1 ⟨rfl, R2, n2, rfl⟩)
        | (go_at_call 11; refine (HPL.out _ (by repeat (first | with_reducible exact Grew.refl _ | apply Grew.more | apply Grew.alloc | apply Grew.drew | apply Grew.drewN))).mono ?_; rintro e w1 ⟨rfl, R3, n3, rfl⟩)
        | (go_at_call 12; refine (HPP.out _ (by repeat (first | with_reducible exact Grew.refl _ | apply Grew.more | apply Grew.alloc | apply Grew.drew | apply Grew.drewN))).mono ?_; rintro e w1 ⟨rfl, R4, n4, rfl⟩)
        | (go_at_call 13; refine (HRO.out _ (by repeat (first | with_reducible exact Grew.refl _ | apply Grew.more | apply Grew.alloc | apply Grew.drew | apply Grew.drewN)) HOK.out).mono ?_; rintro e w1 ⟨rfl, R6, n6, rfl⟩)
        | (go_at_call 6; refine (HEV.out _ (by repeat (first | with_reducible exact Grew.refl _ | apply Grew.more | apply Grew.alloc | apply Grew.drew | apply Grew.drewN))).mono ?_; rintro e w1 ⟨rfl, R7, n7, rfl⟩)
        | fail)
      go_ret
      exact ⟨rfl, by repeat (first | with_reducible exact Grew.refl _ | apply Grew.more | apply Grew.alloc | apply Grew.drew | apply Grew.drewN)⟩
  · clear HE4
    rcases HCS.out with rfl | ⟨hne, rfl⟩ | ⟨hne, ho, rfl⟩
    · clear HCS
      go_enter Tryz.func4, Tryz.ntmps4
      go_wp2_with (first
        | (go_at_call 5; refine (HAW.out _ (by repeat (first | with_reducible exact Grew.refl _ | apply Grew.more | apply Grew.alloc | apply Grew.drew | apply Grew.drewN))).mono ?_; rintro e w1 ⟨rfl, R1, n1, rfl⟩)
        | (go_at_call 10; refine (HGR.out _ (by repeat (first | with_reducible exact Grew.refl _ | apply Grew.more | apply Grew.alloc | apply Grew.drew | apply Grew.drewN))).mono ?_; rintro e w1 ⟨rfl, R2, n2, rfl⟩)
        | (go_at_call 11; refine (HPL.out _ (by repeat (first | with_reducible exact Grew.refl _ | apply Grew.more | apply Grew.alloc | apply Grew.drew | apply Grew.drewN))).mono ?_; rintro e w1 ⟨rfl, R3, n3, rfl⟩)
        | (go_at_call 12; refine (HPP.out _ (by repeat (first | with_reducible exact Grew.refl _ | apply Grew.more | apply Grew.alloc | apply Grew.drew | apply Grew.drewN))).mono ?_; rintro e w1 ⟨rfl, R4, n4, rfl⟩)
        | (go_at_call 13; refine (HRO.out _ (by repeat (first | with_reducible exact Grew.refl _ | apply Grew.more | apply Grew.alloc | apply Grew.drew | apply Grew.drewN)) HOK.out).mono ?_; rintro e w1 ⟨rfl, R6, n6, rfl⟩)
        | (go_at_call 6; refine (HEV.out _ (by repeat (first | with_reducible exact Grew.refl _ | apply Grew.more | apply Grew.alloc | apply Grew.drew | apply Grew.drewN))).mono ?_; rintro e w1 ⟨rfl, R7, n7, rfl⟩)
        | fail)
      refine (HPC.out _ (by repeat (first | with_reducible exact Grew.refl _ | apply Grew.more | apply Grew.alloc | apply Grew.drew | apply Grew.drewN))).mono ?_
      rintro e w1 ⟨rv2, kv2, rfl, hx2, R8, n8, rfl⟩
      have HX2 := Lib.hid hx2
      obtain ⟨ay, cy, e3, -, -⟩ := rq_open hx2.r
      obtain ⟨by2, dy, e4, -, -⟩ := bools_open hx2.k
      subst e3 e4
      clear hx2
      simp only [evV, evCrash]
      go_wp2_with (go_at_call 9; refine (same27_any (evCrash l ct) (evCrash l ct) _ _ (.slice none 0 0) _ _ (HX2.out.grew (by repeat (first | with_reducible exact Grew.refl _ | apply Grew.more | apply Grew.alloc | apply Grew.drew | apply Grew.drewN))) ⟨RowsAt.nil, RowsAt.grew HK.out (by repeat (first | with_reducible exact Grew.refl _ | apply Grew.more | apply Grew.alloc | apply Grew.drew | apply Grew.drewN))⟩).mono ?_; rintro e w1 ⟨rfl, R9, n9, rfl⟩; rw [sameE_true rfl])
      go_ret
      exact ⟨rfl, by repeat (first | with_reducible exact Grew.refl _ | apply Grew.more | apply Grew.alloc | apply Grew.drew | apply Grew.drewN)⟩
    · clear HCS
      have hpe : pt.isEmpty = false := by cases pt with
        | nil => exact absurd rfl hne
        | cons => rfl
      clear hne
      go_enter Tryz.func4, Tryz.ntmps4
      go_wp2_with (first
        | (go_at_call 5; refine (HAW.out _ (by repeat (first | with_reducible exact Grew.refl _ | apply Grew.more | apply Grew.alloc | apply Grew.drew | apply Grew.drewN))).mono ?_; rintro e w1 ⟨rfl, R1, n1, rfl⟩)
        | (go_at_call 10; refine (HGR.out _ (by repeat (first | with_reducible exact Grew.refl _ | apply Grew.more | apply Grew.alloc | apply Grew.drew | apply Grew.drewN))).mono ?_; rintro e w1 ⟨rfl, R2, n2, rfl⟩)
        | (go_at_call 11; refine (HPL.out _ (by repeat (first | with_reducible exact Grew.refl _ | apply Grew.more | apply Grew.alloc | apply Grew.drew | apply Grew.drewN))).mono ?_; rintro e w1 ⟨rfl, R3, n3, rfl⟩)
        | (go_at_call 12; refine (HPP.out _ (by repeat (first | with_reducible exact Grew.refl _ | apply Grew.more | apply Grew.alloc | apply Grew.drew | apply Grew.drewN))).mono ?_; rintro e w1 ⟨rfl, R4, n4, rfl⟩)
        | (go_at_call 13; refine (HRO.out _ (by repeat (first | with_reducible exact Grew.refl _ | apply Grew.more | apply Grew.alloc | apply Grew.drew | apply Grew.drewN)) HOK.out).mono ?_; rintro e w1 ⟨rfl, R6, n6, rfl⟩)
        | (go_at_call 6; refine (HEV.out _ (by repeat (first | with_reducible exact Grew.refl _ | apply Grew.more | apply Grew.alloc | apply Grew.drew | apply Grew.drewN))).mono ?_; rintro e w1 ⟨rfl, R7, n7, rfl⟩)
        | fail)
      refine (HPC.out _ (by repeat (first | with_reducible exact Grew.refl _ | apply Grew.more | apply Grew.alloc | apply Grew.drew | apply Grew.drewN))).mono ?_
      rintro e w1 ⟨rv2, kv2, rfl, hx2, R8, n8, rfl⟩
      have HX2 := Lib.hid hx2
      obtain ⟨ay, cy, e3, -, -⟩ := rq_open hx2.r
      obtain ⟨by2, dy, e4, -, -⟩ := bools_open hx2.k
      subst e3 e4
      clear hx2
      simp only [evV, evCrash]
      go_wp2_with (go_at_call 9; refine (same27_any (evCrash l ct) (evCrash l ct) _ _ (.slice none 0 0) _ _ (HX2.out.grew (by repeat (first | with_reducible exact Grew.refl _ | apply Grew.more | apply Grew.alloc | apply Grew.drew | apply Grew.drewN))) ⟨RowsAt.nil, RowsAt.grew HK.out (by repeat (first | with_reducible exact Grew.refl _ | apply Grew.more | apply Grew.alloc | apply Grew.drew | apply Grew.drewN))⟩).mono ?_; rintro e w1 ⟨rfl, R9, n9, rfl⟩; rw [sameE_true rfl])
      go_ret
      exact ⟨rfl, by repeat (first | with_reducible exact Grew.refl _ | apply Grew.more | apply Grew.alloc | apply Grew.drew | apply Grew.drewN)⟩
    · clear HCS
      have hpe : pt.isEmpty = false := by cases pt with
        | nil => exact absurd rfl hne
        | cons => rfl
      have HOK := Lib.hid ho
      have HPS2 := Lib.hid fun W (q : Grew w W) => HPS.out W q hne ho
      clear hne ho
      go_enter Tryz.func4, Tryz.ntmps4
      go_wp2_with (first
        | (go_at_call 5; refine (HAW.out _ (by repeat (first | with_reducible exact Grew.refl _ | apply Grew.more | apply Grew.alloc | apply Grew.drew | apply Grew.drewN))).mono ?_; rintro e w1 ⟨rfl, R1, n1, rfl⟩)
        | (go_at_call 10; refine (HGR.out _ (by repeat (first | with_reducible exact Grew.refl _ | apply Grew.more | apply Grew.alloc | apply Grew.drew | apply Grew.drewN))).mono ?_; rintro e w1 ⟨rfl, R2, n2, rfl⟩)
        | (go_at_call 11; refine (HPL.out _ (by repeat (first | with_reducible exact Grew.refl _ | apply Grew.more | apply Grew.alloc | apply Grew.drew | apply Grew.drewN))).mono ?_; rintro e w1 ⟨rfl, R3, n3, rfl⟩)
        | (go_at_call 12; refine (HPP.out _ (by repeat (first | with_reducible exact Grew.refl _ | apply Grew.more | apply Grew.alloc | apply Grew.drew | apply Grew.drewN))).mono ?_; rintro e w1 ⟨rfl, R4, n4, rfl⟩)
        | (go_at_call 13; refine (HRO.out _ (by repeat (first | with_reducible exact Grew.refl _ | apply Grew.more | apply Grew.alloc | apply Grew.drew | apply Grew.drewN)) HOK.out).mono ?_; rintro e w1 ⟨rfl, R6, n6, rfl⟩)
        | (go_at_call 6; refine (HEV.out _ (by repeat (first | with_reducible exact Grew.refl _ | apply Grew.more | apply Grew.alloc | apply Grew.drew | apply Grew.drewN))).mono ?_; rintro e w1 ⟨rfl, R7, n7, rfl⟩)
        | fail)
      refine (HPS2.out _ (by repeat (first | with_reducible exact Grew.refl _ | apply Grew.more | apply Grew.alloc | apply Grew.drew | apply Grew.drewN))).mono ?_
      rintro e w1 ⟨rv1, kv1, rfl, hx, R5, n5, rfl⟩
      obtain ⟨ax, cx, e1, -, -⟩ := rq_open hx.r
      obtain ⟨bx, dx, e2, -, -⟩ := bools_open hx.k
      subst e1 e2
      clear hx
      simp only [evV, evPlan]
      go_wp2_with (first
        | (go_at_call 5; refine (HAW.out _ (by repeat (first | with_reducible exact Grew.refl _ | apply Grew.more | apply Grew.alloc | apply Grew.drew | apply Grew.drewN))).mono ?_; rintro e w1 ⟨rfl, R1, n1, rfl⟩)
        | (go_at_call 10; refine (HGR.out _ (by repeat (first | with_reducible exact Grew.refl _ | apply Grew.more | apply Grew.alloc | apply Grew.drew | apply Grew.drewN))).mono ?_; rintro e w1 ⟨rfl, R2, n2, rfl⟩)
        | (go_at_call 11; refine (HPL.out _ (by repeat (first | with_reducible exact Grew.refl _ | apply Grew.more | apply Grew.alloc | apply Grew.drew | apply Grew.drewN))).mono ?_; rintro e w1 ⟨rfl, R3, n3, rfl⟩)
        | (go_at_call 12; refine (HPP.out _ (by repeat (first | with_reducible exact Grew.refl _ | apply Grew.more | apply Grew.alloc | apply Grew.drew | apply Grew.drewN))).mono ?_; rintro e w1 ⟨rfl, R4, n4, rfl⟩)
        | (go_at_call 13; refine (HRO.out _ (by repeat (first | with_reducible exact Grew.refl _ | apply Grew.more | apply Grew.alloc | apply Grew.drew | apply Grew.drewN)) HOK.out).mono ?_; rintro e w1 ⟨rfl, R6, n6, rfl⟩)
        | (go_at_call 6; refine (HEV.out _ (by repeat (first | with_reducible exact Grew.refl _ | apply Grew.more | apply Grew.alloc | apply Grew.drew | apply Grew.drewN))).mono ?_; rintro e w1 ⟨rfl, R7, n7, rfl⟩)
        | fail)
      refine (HPC.out _ (by repeat (first | with_reducible exact Grew.refl _ | apply Grew.more | apply Grew.alloc | apply Grew.drew | apply Grew.drewN))).mono ?_
      rintro e w1 ⟨rv2, kv2, rfl, hx2, R8, n8, rfl⟩
      have HX2 := Lib.hid hx2
      obtain ⟨ay, cy, e3, -, -⟩ := rq_open hx2.r
      obtain ⟨by2, dy, e4, -, -⟩ := bools_open hx2.k
      subst e3 e4
      clear hx2
      simp only [evV, evCrash]
      go_wp2_with (go_at_call 9; refine (same27_any (evCrash l ct) (evCrash l ct) _ _ (.slice none 0 0) _ _ (HX2.out.grew (by repeat (first | with_reducible exact Grew.refl _ | apply Grew.more | apply Grew.alloc | apply Grew.drew | apply Grew.drewN))) ⟨RowsAt.nil, RowsAt.grew HK.out (by repeat (first | with_reducible exact Grew.refl _ | apply Grew.more | apply Grew.alloc | apply Grew.drew | apply Grew.drewN))⟩).mono ?_; rintro e w1 ⟨rfl, R9, n9, rfl⟩; rw [sameE_true rfl])
      go_ret
      exact ⟨rfl, by repeat (first | with_reducible exact Grew.refl _ | apply Grew.more | apply Grew.alloc | apply Grew.drew | apply Grew.drewN)⟩
theorem linesBytes_any (v kv : Value) (p : List Gr.Stp) (l : List Bool) (ct : Int) (w : World) (hV : EnvEv w) (hv : StepsAt w v p) (hk : BoolsAt w kv l) : Calls Tryz.prog 4 #[v, .agg #[kv, .int .i64 ct]] w (Gives (.bool true) w) := by
  cases hg : greatP p
  · by_cases hl : l.length ≤ 100
    · exact linesBytes_in v kv p l ct w hV hv hk hg hl
    · exact linesBytes_out v kv p l ct w hV hv hk (.inr ⟨hg, by omega⟩)
  · exact linesBytes_out v kv p l ct w hV hv hk (.inl hg)
end Go.Proofs.YtlgbipfpnfphjaaGreatDoor
