import Derived.Test.YtmnllmbchpebbaaGreatDoorGe40
import Derived.Test.YtmnllmbchpebbaaGreatDoorGe38
import Derived.Test.YtmnllmbchpebbaaGreatDoorGe27
import Derived.BigGuard
import Derived.Test.YtmnllmbchpebbaaGreatDoorGe0
/-! lines: Parse. -/
namespace Go.Proofs.YtmnllmbchpebbaaGreatDoor
set_option linter.unusedSimpArgs false
set_option linter.unusedVariables false
open Go.RowKit Ga
set_option maxRecDepth 100000

/-- what Parse answers -/
noncomputable def parseL (s : List UInt8) : Li.Ev × Int := Li.parseE gpL planR gvL s
noncomputable def readEv (s : List UInt8) : Li.Ev := Li.readE planR gvL s
theorem parseL_ok {s : List UInt8} (h1 : s ≠ []) (h2 : Li.eventT gpL (readEv s) = s) : parseL s = (readEv s, 0) := by unfold parseL Li.parseE; exact if_pos ⟨h1, h2⟩
theorem parseL_no1 {s : List UInt8} (h1 : s = []) : parseL s = (Li.ev0, 4) := by unfold parseL Li.parseE; exact if_neg (fun q => q.1 h1)
theorem parseL_no2 {s : List UInt8} (h2 : Li.eventT gpL (readEv s) ≠ s) : parseL s = (Li.ev0, 4) := by unfold parseL Li.parseE; exact if_neg (fun q => h2 q.2)
/-- what Parse leaves -/
def ParsePost (w : World) (r : Li.Ev × Int) (e : Ending) (w' : World) : Prop := ∃ rv kv, e = .returned (.tuple #[evV r.1 rv kv, .int .i64 r.2]) ∧ EvIs w' r.1 rv kv ∧ Grew w w'
set_option maxHeartbeats 16000000 in
theorem lparse_any (s : List UInt8) (hs : s.length ≤ 100000) (w : World) (hV : EnvEv w) : Calls Tryz.prog 7 #[.string ⟨s.toArray⟩] w (ParsePost w (parseL s)) := by
  have HR : Hid (∀ W, Grew w W → Calls Tryz.prog 21 #[.string ⟨s.toArray⟩] W (ReadPost W (readEv s))) := Lib.hid fun W q => read_any s hs W (hV.grew q)
  have HE := Lib.hid fun W (q : Grew w W) rv kv (h : EvIs W (readEv s) rv kv) => event_all (readEv s) rv kv W (hV.l.p.grew q) (hV.l.a.grew q) h (readL_len s)
  have hcase : (s.isEmpty = true ∧ parseL s = (Li.ev0, 4)) ∨ (s.isEmpty = false ∧ Li.eventT gpL (readEv s) = s ∧ parseL s = (readEv s, 0)) ∨ (s.isEmpty = false ∧ (Li.eventT gpL (readEv s) == s) = false ∧ parseL s = (Li.ev0, 4)) := by
    by_cases hse : s = []
    · exact .inl ⟨by rw [hse]; rfl, parseL_no1 hse⟩
    · have heb : s.isEmpty = false := by simpa using hse
      by_cases hq : Li.eventT gpL (readEv s) = s
      · exact .inr (.inl ⟨heb, hq, parseL_ok hse hq⟩)
      · exact .inr (.inr ⟨heb, beq_eq_false_iff_ne.2 hq, parseL_no2 hq⟩)
  clear hV
  generalize parseL s = r at *
  generalize readEv s = n at *
  generalize Li.eventT gpL n = nt at *
  rcases hcase with ⟨h1, rfl⟩ | ⟨h1, rfl, rfl⟩ | ⟨h1, h2, rfl⟩
  all_goals
    go_enter Tryz.func7, Tryz.ntmps7
    go_wp2_with fail
    refine (HR.out _ (by repeat (first | with_reducible exact Grew.refl _ | apply Grew.more | apply Grew.alloc | apply Grew.drew | apply Grew.drewN))).mono ?_
    rintro e w1 ⟨rv, kv, rfl, hr, hk, R1, n1, rfl⟩
    obtain ⟨ra, rc, rfl⟩ := (OwnAt.rows hr encRq_len).len
    obtain ⟨ka, kc, rfl⟩ := (OwnAt.rows hk encBo_len).len
    have HRV := Lib.hid hr
    have HKV := Lib.hid hk
    clear hr hk
    obtain ⟨kind, a, b, recs, plan, keep, ct⟩ := n
    unfold evV
    simp only at *
    go_wp2_with (go_at_call 5; refine (HE.out _ (by repeat (first | with_reducible exact Grew.refl _ | apply Grew.more | apply Grew.alloc | apply Grew.drew | apply Grew.drewN)) _ _ ⟨(OwnAt.rows HRV.out encRq_len).grew (by repeat (first | with_reducible exact Grew.refl _ | apply Grew.more | apply Grew.alloc | apply Grew.drew | apply Grew.drewN)), (OwnAt.rows HKV.out encBo_len).grew (by repeat (first | with_reducible exact Grew.refl _ | apply Grew.more | apply Grew.alloc | apply Grew.drew | apply Grew.drewN))⟩).mono ?_; rintro e w3 ⟨rfl, R3, n3, rfl⟩)
  · refine bodyPost_ret (v := .tuple #[.agg #[.int .i64 0, .int .i64 0, .int .i64 0, .slice none 0 0, .string ⟨#[]⟩, .slice none 0 0, .int .i64 0], .int .i64 4]) (by simp [results, Tryz.results7, go_sem]) rfl ⟨_, _, rfl, ⟨RowsAt.nil, RowsAt.nil⟩, by repeat (first | with_reducible exact Grew.refl _ | apply Grew.more | apply Grew.alloc | apply Grew.drew | apply Grew.drewN)⟩
  · have HOP : ∀ A', OwnAt w.heap.size 62 3 encRq ((w.alloc (.cells A' 27)).more R1 n1) (.slice ra recs.length rc) recs ∧ OwnAt w.heap.size 4 1 encBo ((w.alloc (.cells A' 27)).more R1 n1) (.slice ka keep.length kc) keep := fun A' => ⟨OwnAt.sw (OwnAt.low HRV.out (by simp [World.size_alloc])) (SwT.more (SwT.alloc2 (SwT.refl _ w) _ _) R1 n1 n1) (by decide), OwnAt.sw (OwnAt.low HKV.out (by simp [World.size_alloc])) (SwT.more (SwT.alloc2 (SwT.refl _ w) _ _) R1 n1 n1) (by decide)⟩
    refine bodyPost_ret (v := .tuple #[.agg #[.int .i64 kind, .int .i64 a, .int .i64 b, .slice ra recs.length rc, .string ⟨plan.toArray⟩, .slice ka keep.length kc, .int .i64 ct], .int .i64 0]) (by simp [results, Tryz.results7, go_sem]) rfl ⟨_, _, rfl, ⟨?_, ?_⟩, by repeat (first | with_reducible exact Grew.refl _ | apply Grew.more | apply Grew.alloc | apply Grew.drew | apply Grew.drewN)⟩
    · exact RowsAt.grew (OwnAt.rows (HOP _).1 encRq_len) (by repeat (first | with_reducible exact Grew.refl _ | apply Grew.more | apply Grew.alloc | apply Grew.drew | apply Grew.drewN))
    · exact RowsAt.grew (OwnAt.rows (HOP _).2 encBo_len) (by repeat (first | with_reducible exact Grew.refl _ | apply Grew.more | apply Grew.alloc | apply Grew.drew | apply Grew.drewN))
  · refine bodyPost_ret (v := .tuple #[.agg #[.int .i64 0, .int .i64 0, .int .i64 0, .slice none 0 0, .string ⟨#[]⟩, .slice none 0 0, .int .i64 0], .int .i64 4]) (by simp [results, Tryz.results7, go_sem]) rfl ⟨_, _, rfl, ⟨RowsAt.nil, RowsAt.nil⟩, by repeat (first | with_reducible exact Grew.refl _ | apply Grew.more | apply Grew.alloc | apply Grew.drew | apply Grew.drewN)⟩
end Go.Proofs.YtmnllmbchpebbaaGreatDoor

/-! What Parse answers to an event's line. -/
namespace Go.Proofs.YtmnllmbchpebbaaGreatDoor
set_option linter.unusedSimpArgs false
set_option linter.unusedVariables false
open Go.RowKit Ga
set_option maxRecDepth 100000

/-- an event that is read has little -/
theorem parsed_small (s : List UInt8) : (parseL s).1.recs.length ≤ 1000 ∧ (parseL s).1.keep.length ≤ 1000 ∧ (parseL s).1.plan.length ≤ 100000 ∧ ((parseL s = (Li.ev0, 4)) ∨ ((parseL s).2 = 0 ∧ s ≠ [] ∧ Li.eventT gpL (parseL s).1 = s)) := by
  by_cases h1 : s = []
  · rw [parseL_no1 h1]; exact ⟨by decide, by decide, by decide, .inl rfl⟩
  by_cases h2 : Li.eventT gpL (readEv s) = s
  · have hb := (Li.eventT_ne (gp := gpL) (v := readEv s) (by rw [h2]; exact h1)).1.2
    rw [parseL_ok h1 h2]
    obtain ⟨⟨-, -, -, h4, h5⟩, -⟩ := hb
    exact ⟨by simp only; omega, by simp only; omega, readL_len s, .inr ⟨rfl, h1, h2⟩⟩
  · rw [parseL_no2 h2]; exact ⟨by decide, by decide, by decide, .inl rfl⟩
theorem parsed_event (v : Li.Ev) : (Li.eventT gpL v = [] ∧ parseL (Li.eventT gpL v) = (Li.ev0, 4)) ∨ ((Li.eventT gpL v).isEmpty = false ∧ parseL (Li.eventT gpL v) = (v, 0)) := by
  by_cases h : Li.eventT gpL v = []
  · exact .inl ⟨h, parseL_no1 h⟩
  · exact .inr ⟨by simpa using h, Li.parseE_event hg_ev hv_ev h⟩
theorem event_len (v : Li.Ev) : (Li.eventT gpL v).length ≤ 100000 := by
  by_cases h : Li.eventT gpL v = []
  · rw [h]; simp
  · obtain ⟨⟨hk, hB⟩, e⟩ := Li.eventT_ne h
    rw [e]
    obtain ⟨w2, wl⟩ := wordsE_len v hB (route8 v.plan)
    have hn : (Li.nameE v.kind).length ≤ 20000 := by
      have := nameN_len v.kind.toNat (by omega)
      have e : Li.nameE v.kind = nameN v.kind.toNat := by rw [← nameN_eq]; congr 1; omega
      rw [e]; omega
    have := join_len (Li.nameE v.kind :: Li.wordsE gpL v) [32] 20000 fun x hx => by
      rcases List.mem_cons.1 hx with rfl | hx
      · exact hn
      · exact wl x hx
    have e : ([32] : List UInt8).length = 1 := rfl
    rw [e, show (Li.nameE v.kind :: Li.wordsE gpL v).length = (Li.wordsE gpL v).length + 1 from rfl] at this
    have := Nat.mul_le_mul_left (20000 + 1) (show (Li.wordsE gpL v).length + 1 ≤ 3 by omega)
    omega
end Go.Proofs.YtmnllmbchpebbaaGreatDoor

/-! forebaylaw27.line. -/
namespace Go.Proofs.YtmnllmbchpebbaaGreatDoor
set_option linter.unusedSimpArgs false
set_option linter.unusedVariables false
open Go.RowKit Ga
set_option maxRecDepth 100000

set_option maxHeartbeats 64000000 in
theorem line_9 (v : Li.Ev) (rv kv : Value) (k : Nat) (w : World) (hE : EvIs w v rv kv) (hr0 : v.recs.length ≤ 1000) (hk0 : v.keep.length ≤ 1000) (hp0 : v.plan.length ≤ 100000) (hkd : v.kind = (k : Int)) (hk : k = 9) : Calls Tryz.prog 6 #[evV v rv kv] w (Gives (str (Li.eventT gpL v)) w) := by
  obtain ⟨r1, rc1, e1, m1, -⟩ := rq_open hE.r
  obtain ⟨k1, kc1, e3, m3, -⟩ := bools_open hE.k
  subst e1 e3
  have HE := Lib.hid hE
  have HN : Hid (¬ Li.Bare gpL v → Li.eventT gpL v = []) := Lib.hid fun h => Li.eventT_none fun h2 => h h2.2
  have HY : Hid (Li.Bare gpL v → Li.eventT gpL v = Lib.join (Li.nameE v.kind :: Li.wordsE gpL v) [32]) := Lib.hid fun h => Li.eventT_some ⟨by omega, h⟩
  clear hE m1 m3
  generalize Li.eventT gpL v = res at *
  obtain ⟨kind, a, b, recs, plan, keep, ct⟩ := v
  simp only [evV] at *
  subst hkd
  subst hk
  have HK := Lib.hid (rfl : (9 : Nat) = 9)
  have hnc := names_get 9 (by omega)
  have hnl := nameN_len 9 (by omega)
  have HR0 := Lib.hid hr0
  have HK0 := Lib.hid hk0
  have HP0 := Lib.hid hp0
  have hrn : recs.length ≤ 1000 := hr0
  have hkn : keep.length ≤ 1000 := hk0
  clear hr0 hk0 hp0
  obtain ⟨rn, hrne⟩ : ∃ rn, recs.length = rn := ⟨_, rfl⟩
  obtain ⟨kn, hkne⟩ : ∃ kn, keep.length = kn := ⟨_, rfl⟩
  rw [hrne, hkne]
  rw [hrne] at hrn
  rw [hkne] at hkn
  have HRN := Lib.hid hrne
  have HKN := Lib.hid hkne
  clear hrne hkne
  have HA1 := Lib.hid fun W => line1_any a W
  have HA2 := Lib.hid fun W => line1_any b W
  have HA3 := Lib.hid fun W => line1_any ct W
  obtain ⟨qa, hqa⟩ : ∃ q, Li.num a = q := ⟨_, rfl⟩
  obtain ⟨qb, hqb⟩ : ∃ q, Li.num b = q := ⟨_, rfl⟩
  obtain ⟨qc, hqc⟩ : ∃ q, Li.num ct = q := ⟨_, rfl⟩
  rw [hqa] at HA1
  rw [hqb] at HA2
  rw [hqc] at HA3
  have HQA := Lib.hid hqa
  have HQB := Lib.hid hqb
  have HQC := Lib.hid hqc
  clear hqa hqb hqc
  go_enter Tryz.func6, Tryz.ntmps6
  go_upto_region 6 with fail
  generalize (#[.string ⟨#[]⟩, .string ⟨#[65, 80, 80, 69, 78, 68]⟩, .string ⟨#[83, 85, 66, 77, 73, 84]⟩, .string ⟨#[84, 82, 73, 71, 71, 69, 82]⟩, .string ⟨#[80, 73, 67, 75]⟩, .string ⟨#[68, 69, 76, 73, 86, 69, 82]⟩, .string ⟨#[76, 79, 83, 69]⟩, .string ⟨#[84, 87, 73, 67, 69]⟩, .string ⟨#[84, 85, 82, 78]⟩, .string ⟨#[84, 73, 67, 75]⟩, .string ⟨#[70, 85, 83, 69]⟩, .string ⟨#[67, 82, 65, 83, 72]⟩, .string ⟨#[82, 79, 85, 78, 68, 83]⟩, .string ⟨#[83, 69, 84, 84, 76, 69]⟩] : Array Value) = na at *
  have hcn : ((w.alloc (.cells #[.int .i64 9, .int .i64 a, .int .i64 b, .slice r1 rn rc1, .string ⟨plan.toArray⟩, .slice k1 kn kc1, .int .i64 ct] 27)).alloc (.cells na 9)).cell? ⟨w.heap.size + 1, 9, none⟩ = some (.string ⟨(nameN 9).toArray⟩) := (cell_of (heap_new_at _ _ _ (by simp [World.size_alloc]))).trans hnc
  have HCN := Lib.hid hcn
  clear hcn
  go_wp2_with fail
  refine (HA1.out _).mono ?_
  rintro e w1 ⟨rfl, R1, n1, rfl⟩
  cases qa
  case false =>
    have HQ := Lib.hid (HN.out fun h => Bool.noConfusion (h.1.1.symm.trans HQA.out))
    rename (∀ (a : Act) (w_1 : World), wpList _ _ _ _ _ _ → _) => hx
    refine hx _ _ ?_
    clear hx
    iterate 2 go_step
    refine wpList_yes 115 (by kernel_rfl) fun a' hy => ?_
    rename (∀ (a : Act) (w_1 : World), Code.wp _ (Code.cond _ _ _) _ _ _ → _) => hx
    exact hx _ _ (fail_ret hy rfl (by rfl) rfl rfl ⟨by rw [HQ.out], by repeat (first | with_reducible exact Grew.refl _ | apply Grew.more | apply Grew.alloc | apply Grew.drew | apply Grew.drewN)⟩)
  go_wp2_with fail
  refine (HA2.out _).mono ?_
  rintro e w1 ⟨rfl, R2, n2, rfl⟩
  cases qb
  case false =>
    have HQ := Lib.hid (HN.out fun h => Bool.noConfusion (h.1.2.1.symm.trans HQB.out))
    rename (∀ (a : Act) (w_1 : World), wpList _ _ _ _ _ _ → _) => hx
    refine hx _ _ ?_
    clear hx
    iterate 2 go_step
    refine wpList_yes 115 (by kernel_rfl) fun a' hy => ?_
    rename (∀ (a : Act) (w_1 : World), Code.wp _ (Code.cond _ _ _) _ _ _ → _) => hx
    exact hx _ _ (fail_ret hy rfl (by rfl) rfl rfl ⟨by rw [HQ.out], by repeat (first | with_reducible exact Grew.refl _ | apply Grew.more | apply Grew.alloc | apply Grew.drew | apply Grew.drewN)⟩)
  go_wp2_with fail
  refine (HA3.out _).mono ?_
  rintro e w1 ⟨rfl, R3, n3, rfl⟩
  cases qc
  case false =>
    have HQ := Lib.hid (HN.out fun h => Bool.noConfusion (h.1.2.2.1.symm.trans HQC.out))
    rename (∀ (a : Act) (w_1 : World), wpList _ _ _ _ _ _ → _) => hx
    refine hx _ _ ?_
    clear hx
    iterate 2 go_step
    refine wpList_yes 115 (by kernel_rfl) fun a' hy => ?_
    rename (∀ (a : Act) (w_1 : World), Code.wp _ (Code.cond _ _ _) _ _ _ → _) => hx
    exact hx _ _ (fail_ret hy rfl (by rfl) rfl rfl ⟨by rw [HQ.out], by repeat (first | with_reducible exact Grew.refl _ | apply Grew.more | apply Grew.alloc | apply Grew.drew | apply Grew.drewN)⟩)
  rename (∀ (a : Act) (w_1 : World), wpList _ _ _ _ _ _ → _) => hx
  refine hx _ _ ?_
  clear hx
  by_cases ha : a = 0
  case neg =>
    have HQ := Lib.hid (HN.out fun h => ha (h.2.1 (by have := HK.out; unfold Li.hasA1; (try simp only); omega)))
    iterate 18 go_step
    try rw [show (a != 0) = true by simpa using ha]
    refine wpList_yes 115 (by kernel_rfl) fun a' hy => ?_
    rename (∀ (a : Act) (w_1 : World), Code.wp _ (Code.cond _ _ _) _ _ _ → _) => hx
    exact hx _ _ (fail_ret hy rfl (by rfl) rfl rfl ⟨by rw [HQ.out], by repeat (first | with_reducible exact Grew.refl _ | apply Grew.more | apply Grew.alloc | apply Grew.drew | apply Grew.drewN)⟩)
  subst ha
  iterate 18 go_step
  by_cases hb : b = 0
  case neg =>
    have HQ := Lib.hid (HN.out fun h => hb (h.2.2.1 (by have := HK.out; (try simp only); omega)))
    iterate 18 go_step
    try rw [show (b != 0) = true by simpa using hb]
    refine wpList_yes 115 (by kernel_rfl) fun a' hy => ?_
    rename (∀ (a : Act) (w_1 : World), Code.wp _ (Code.cond _ _ _) _ _ _ → _) => hx
    exact hx _ _ (fail_ret hy rfl (by rfl) rfl rfl ⟨by rw [HQ.out], by repeat (first | with_reducible exact Grew.refl _ | apply Grew.more | apply Grew.alloc | apply Grew.drew | apply Grew.drewN)⟩)
  subst hb
  iterate 18 go_step
  by_cases hc : ct = 0
  case neg =>
    have HQ := Lib.hid (HN.out fun h => hc (h.2.2.2.1 (by have := HK.out; (try simp only); omega)).1)
    iterate 20 go_step
    try rw [show (ct != 0) = true by simpa using hc]
    refine wpList_yes 115 (by kernel_rfl) fun a' hy => ?_
    rename (∀ (a : Act) (w_1 : World), Code.wp _ (Code.cond _ _ _) _ _ _ → _) => hx
    exact hx _ _ (fail_ret hy rfl (by rfl) rfl rfl ⟨by rw [HQ.out], by repeat (first | with_reducible exact Grew.refl _ | apply Grew.more | apply Grew.alloc | apply Grew.drew | apply Grew.drewN)⟩)
  subst hc
  iterate 20 go_step
  by_cases hkz : kn = 0
  case neg =>
    have hkp : (0 : Int) < kn := by omega
    have HQ := Lib.hid (HN.out fun h => hkz (HKN.out.symm.trans (congrArg List.length (h.2.2.2.1 (by have := HK.out; (try simp only); omega)).2)))
    iterate 14 go_step
    try rw [@decide_eq_true _ _ hkp]
    try rw [@decide_eq_true _ _ (show 0 < kn by omega)]
    refine wpList_yes 115 (by kernel_rfl) fun a' hy => ?_
    rename (∀ (a : Act) (w_1 : World), Code.wp _ (Code.cond _ _ _) _ _ _ → _) => hx
    exact hx _ _ (fail_ret hy rfl (by rfl) rfl rfl ⟨by rw [HQ.out], by repeat (first | with_reducible exact Grew.refl _ | apply Grew.more | apply Grew.alloc | apply Grew.drew | apply Grew.drewN)⟩)
  subst hkz
  obtain rfl : keep = [] := List.length_eq_zero_iff.1 HKN.out
  iterate 14 go_step
  by_cases hrz : rn = 0
  case neg =>
    have hrp : (0 : Int) < rn := by omega
    have HQ := Lib.hid (HN.out fun h => hrz (HRN.out.symm.trans (congrArg List.length (h.2.2.2.2.1 (by have := HK.out; (try simp only); omega)))))
    iterate 24 go_step
    try rw [@decide_eq_true _ _ hrp]
    try rw [@decide_eq_true _ _ (show 0 < rn by omega)]
    refine wpList_yes 115 (by kernel_rfl) fun a' hy => ?_
    rename (∀ (a : Act) (w_1 : World), Code.wp _ (Code.cond _ _ _) _ _ _ → _) => hx
    exact hx _ _ (fail_ret hy rfl (by rfl) rfl rfl ⟨by rw [HQ.out], by repeat (first | with_reducible exact Grew.refl _ | apply Grew.more | apply Grew.alloc | apply Grew.drew | apply Grew.drewN)⟩)
  subst hrz
  obtain rfl : recs = [] := List.length_eq_zero_iff.1 HRN.out
  iterate 24 go_step
  by_cases hpz : plan = []
  case neg =>
    cases plan with
    | nil => exact absurd rfl hpz
    | cons px pxs =>
    have HQ := Lib.hid (HN.out fun h => hpz (h.2.2.2.2.2.1 (by have := HK.out; (try simp only); omega)))
    iterate 18 go_step
    try rw [show (!plan.isEmpty) = true by rw [hpe]; rfl]
    refine wpList_yes 115 (by kernel_rfl) fun a' hy => ?_
    rename (∀ (a : Act) (w_1 : World), Code.wp _ (Code.cond _ _ _) _ _ _ → _) => hx
    exact hx _ _ (fail_ret hy rfl (by rfl) rfl rfl ⟨by rw [HQ.out], by repeat (first | with_reducible exact Grew.refl _ | apply Grew.more | apply Grew.alloc | apply Grew.drew | apply Grew.drewN)⟩)
  subst hpz
  iterate 18 go_step
  have hB := HY.out ⟨⟨HQA.out, HQB.out, HQC.out, Nat.zero_le _, Nat.zero_le _⟩, fun _ => rfl, fun _ => rfl, fun _ => ⟨rfl, rfl⟩, fun _ => rfl, fun _ => rfl, fun h => absurd h (by have := HK.out; (try simp only); omega), fun r hr => by cases hr⟩
  rw [ev_O (by have := HK.out; omega)] at hB
  have HB := Lib.hid hB
  clear hB
  generalize nameN 9 = nk at *
  have hcn := HCN.out
  go_wp2_with (first
    | (go_at_call 15; ((with_reducible refine (HA1.out _).mono ?_)); rintro e w1 ⟨rfl, R1, n1, rfl⟩)
    | (go_at_call 15; ((with_reducible refine (HA2.out _).mono ?_)); rintro e w1 ⟨rfl, R2, n2, rfl⟩)
    | (go_at_call 15; ((with_reducible refine (HA3.out _).mono ?_)); rintro e w1 ⟨rfl, R3, n3, rfl⟩))
  go_ret
  exact ⟨by rw [HB.out]; rfl, by repeat (first | with_reducible exact Grew.refl _ | apply Grew.more | apply Grew.alloc | apply Grew.drew | apply Grew.drewN)⟩
end Go.Proofs.YtmnllmbchpebbaaGreatDoor
