import Derived.Test.YtmnllmbchpebbaaGreatDoorGe38
import Derived.BigGuard
import Derived.Test.YtmnllmbchpebbaaGreatDoorGe0
/-! forebaylaw27.line. -/
namespace Go.Proofs.YtmnllmbchpebbaaGreatDoor
set_option linter.unusedSimpArgs false
set_option linter.unusedVariables false
open Go.RowKit Ga
set_option maxRecDepth 100000

set_option maxHeartbeats 64000000 in
theorem line_13 (v : Li.Ev) (rv kv : Value) (k : Nat) (w : World) (hE : EvIs w v rv kv) (hr0 : v.recs.length ≤ 1000) (hk0 : v.keep.length ≤ 1000) (hp0 : v.plan.length ≤ 100000) (hkd : v.kind = (k : Int)) (hk : k = 13) : Calls Tryz.prog 6 #[evV v rv kv] w (Gives (str (Li.eventT gpL v)) w) := by
  obtain ⟨r1, rc1, e1, m1, -⟩ := rq_open hE.r
  obtain ⟨k1, kc1, e3, m3, -⟩ := bools_open hE.k
  subst e1 e3
  have HE := Lib.hid hE
  have HN : Hid (¬ Li.Bare gpL v → Li.eventT gpL v = []) := Lib.hid fun h => Li.eventT_none fun h2 => h h2.2
  have HY : Hid (Li.Bare gpL v → Li.eventT gpL v = Lib.join (Li.nameE v.kind :: Li.wordsE gpL v) [32]) := Lib.hid fun h => Li.eventT_some ⟨by omega, h⟩
  clear hE m1 m3
  generalize Li.eventT gpL v = res at *
  obtain ⟨kind, a, b, recs, plan, keep, ct⟩ := v
  simp only [evV] at *
  subst hkd
  subst hk
  have HK := Lib.hid (rfl : (13 : Nat) = 13)
  have hnc := names_get 13 (by omega)
  have hnl := nameN_len 13 (by omega)
  have HR0 := Lib.hid hr0
  have HK0 := Lib.hid hk0
  have HP0 := Lib.hid hp0
  have hrn : recs.length ≤ 1000 := hr0
  have hkn : keep.length ≤ 1000 := hk0
  clear hr0 hk0 hp0
  obtain ⟨rn, hrne⟩ : ∃ rn, recs.length = rn := ⟨_, rfl⟩
  obtain ⟨kn, hkne⟩ : ∃ kn, keep.length = kn := ⟨_, rfl⟩
  rw [hrne, hkne]
  rw [hrne] at hrn
  rw [hkne] at hkn
  have HRN := Lib.hid hrne
  have HKN := Lib.hid hkne
  clear hrne hkne
  have HA1 := Lib.hid fun W => line1_any a W
  have HA2 := Lib.hid fun W => line1_any b W
  have HA3 := Lib.hid fun W => line1_any ct W
  obtain ⟨qa, hqa⟩ : ∃ q, Li.num a = q := ⟨_, rfl⟩
  obtain ⟨qb, hqb⟩ : ∃ q, Li.num b = q := ⟨_, rfl⟩
  obtain ⟨qc, hqc⟩ : ∃ q, Li.num ct = q := ⟨_, rfl⟩
  rw [hqa] at HA1
  rw [hqb] at HA2
  rw [hqc] at HA3
  have HQA := Lib.hid hqa
  have HQB := Lib.hid hqb
  have HQC := Lib.hid hqc
  clear hqa hqb hqc
  go_enter Tryz.func6, Tryz.ntmps6
  go_upto_region 6 with fail
  generalize (#[.string ⟨#[]⟩, .string ⟨#[65, 80, 80, 69, 78, 68]⟩, .string ⟨#[83, 85, 66, 77, 73, 84]⟩, .string ⟨#[84, 82, 73, 71, 71, 69, 82]⟩, .string ⟨#[80, 73, 67, 75]⟩, .string ⟨#[68, 69, 76, 73, 86, 69, 82]⟩, .string ⟨#[76, 79, 83, 69]⟩, .string ⟨#[84, 87, 73, 67, 69]⟩, .string ⟨#[84, 85, 82, 78]⟩, .string ⟨#[84, 73, 67, 75]⟩, .string ⟨#[70, 85, 83, 69]⟩, .string ⟨#[67, 82, 65, 83, 72]⟩, .string ⟨#[82, 79, 85, 78, 68, 83]⟩, .string ⟨#[83, 69, 84, 84, 76, 69]⟩] : Array Value) = na at *
  have hcn : ((w.alloc (.cells #[.int .i64 13, .int .i64 a, .int .i64 b, .slice r1 rn rc1, .string ⟨plan.toArray⟩, .slice k1 kn kc1, .int .i64 ct] 27)).alloc (.cells na 9)).cell? ⟨w.heap.size + 1, 13, none⟩ = some (.string ⟨(nameN 13).toArray⟩) := (cell_of (heap_new_at _ _ _ (by simp [World.size_alloc]))).trans hnc
  have HCN := Lib.hid hcn
  clear hcn
  go_wp2_with fail
  refine (HA1.out _).mono ?_
  rintro e w1 ⟨rfl, R1, n1, rfl⟩
  cases qa
  case false =>
    have HQ := Lib.hid (HN.out fun h => Bool.noConfusion (h.1.1.symm.trans HQA.out))
    rename (∀ (a : Act) (w_1 : World), wpList _ _ _ _ _ _ → _) => hx
    refine hx _ _ ?_
    clear hx
    iterate 2 go_step
    refine wpList_yes 115 (by kernel_rfl) fun a' hy => ?_
    rename (∀ (a : Act) (w_1 : World), Code.wp _ (Code.cond _ _ _) _ _ _ → _) => hx
    exact hx _ _ (fail_ret hy rfl (by rfl) rfl rfl ⟨by rw [HQ.out], by repeat (first | with_reducible exact Grew.refl _ | apply Grew.more | apply Grew.alloc | apply Grew.drew | apply Grew.drewN)⟩)
  go_wp2_with fail
  refine (HA2.out _).mono ?_
  rintro e w1 ⟨rfl, R2, n2, rfl⟩
  cases qb
  case false =>
    have HQ := Lib.hid (HN.out fun h => Bool.noConfusion (h.1.2.1.symm.trans HQB.out))
    rename (∀ (a : Act) (w_1 : World), wpList _ _ _ _ _ _ → _) => hx
    refine hx _ _ ?_
    clear hx
    iterate 2 go_step
    refine wpList_yes 115 (by kernel_rfl) fun a' hy => ?_
    rename (∀ (a : Act) (w_1 : World), Code.wp _ (Code.cond _ _ _) _ _ _ → _) => hx
    exact hx _ _ (fail_ret hy rfl (by rfl) rfl rfl ⟨by rw [HQ.out], by repeat (first | with_reducible exact Grew.refl _ | apply Grew.more | apply Grew.alloc | apply Grew.drew | apply Grew.drewN)⟩)
  go_wp2_with fail
  refine (HA3.out _).mono ?_
  rintro e w1 ⟨rfl, R3, n3, rfl⟩
  cases qc
  case false =>
    have HQ := Lib.hid (HN.out fun h => Bool.noConfusion (h.1.2.2.1.symm.trans HQC.out))
    rename (∀ (a : Act) (w_1 : World), wpList _ _ _ _ _ _ → _) => hx
    refine hx _ _ ?_
    clear hx
    iterate 2 go_step
    refine wpList_yes 115 (by kernel_rfl) fun a' hy => ?_
    rename (∀ (a : Act) (w_1 : World), Code.wp _ (Code.cond _ _ _) _ _ _ → _) => hx
    exact hx _ _ (fail_ret hy rfl (by rfl) rfl rfl ⟨by rw [HQ.out], by repeat (first | with_reducible exact Grew.refl _ | apply Grew.more | apply Grew.alloc | apply Grew.drew | apply Grew.drewN)⟩)
  rename (∀ (a : Act) (w_1 : World), wpList _ _ _ _ _ _ → _) => hx
  refine hx _ _ ?_
  clear hx
  by_cases ha : a = 0
  case neg =>
    have HQ := Lib.hid (HN.out fun h => ha (h.2.1 (by have := HK.out; unfold Li.hasA1; (try simp only); omega)))
    iterate 18 go_step
    try rw [show (a != 0) = true by simpa using ha]
    refine wpList_yes 115 (by kernel_rfl) fun a' hy => ?_
    rename (∀ (a : Act) (w_1 : World), Code.wp _ (Code.cond _ _ _) _ _ _ → _) => hx
    exact hx _ _ (fail_ret hy rfl (by rfl) rfl rfl ⟨by rw [HQ.out], by repeat (first | with_reducible exact Grew.refl _ | apply Grew.more | apply Grew.alloc | apply Grew.drew | apply Grew.drewN)⟩)
  subst ha
  iterate 18 go_step
  by_cases hb : b = 0
  case neg =>
    have HQ := Lib.hid (HN.out fun h => hb (h.2.2.1 (by have := HK.out; (try simp only); omega)))
    iterate 18 go_step
    try rw [show (b != 0) = true by simpa using hb]
    refine wpList_yes 115 (by kernel_rfl) fun a' hy => ?_
    rename (∀ (a : Act) (w_1 : World), Code.wp _ (Code.cond _ _ _) _ _ _ → _) => hx
    exact hx _ _ (fail_ret hy rfl (by rfl) rfl rfl ⟨by rw [HQ.out], by repeat (first | with_reducible exact Grew.refl _ | apply Grew.more | apply Grew.alloc | apply Grew.drew | apply Grew.drewN)⟩)
  subst hb
  iterate 18 go_step
  by_cases hc : ct = 0
  case neg =>
    have HQ := Lib.hid (HN.out fun h => hc (h.2.2.2.1 (by have := HK.out; (try simp only); omega)).1)
    iterate 20 go_step
    try rw [show (ct != 0) = true by simpa using hc]
    refine wpList_yes 115 (by kernel_rfl) fun a' hy => ?_
    rename (∀ (a : Act) (w_1 : World), Code.wp _ (Code.cond _ _ _) _ _ _ → _) => hx
    exact hx _ _ (fail_ret hy rfl (by rfl) rfl rfl ⟨by rw [HQ.out], by repeat (first | with_reducible exact Grew.refl _ | apply Grew.more | apply Grew.alloc | apply Grew.drew | apply Grew.drewN)⟩)
  subst hc
  iterate 20 go_step
  by_cases hkz : kn = 0
  case neg =>
    have hkp : (0 : Int) < kn := by omega
    have HQ := Lib.hid (HN.out fun h => hkz (HKN.out.symm.trans (congrArg List.length (h.2.2.2.1 (by have := HK.out; (try simp only); omega)).2)))
    iterate 14 go_step
    try rw [@decide_eq_true _ _ hkp]
    try rw [@decide_eq_true _ _ (show 0 < kn by omega)]
    refine wpList_yes 115 (by kernel_rfl) fun a' hy => ?_
    rename (∀ (a : Act) (w_1 : World), Code.wp _ (Code.cond _ _ _) _ _ _ → _) => hx
    exact hx _ _ (fail_ret hy rfl (by rfl) rfl rfl ⟨by rw [HQ.out], by repeat (first | with_reducible exact Grew.refl _ | apply Grew.more | apply Grew.alloc | apply Grew.drew | apply Grew.drewN)⟩)
  subst hkz
  obtain rfl : keep = [] := List.length_eq_zero_iff.1 HKN.out
  iterate 14 go_step
  by_cases hrz : rn = 0
  case neg =>
    have hrp : (0 : Int) < rn := by omega
    have HQ := Lib.hid (HN.out fun h => hrz (HRN.out.symm.trans (congrArg List.length (h.2.2.2.2.1 (by have := HK.out; (try simp only); omega)))))
    iterate 24 go_step
    try rw [@decide_eq_true _ _ hrp]
    try rw [@decide_eq_true _ _ (show 0 < rn by omega)]
    refine wpList_yes 115 (by kernel_rfl) fun a' hy => ?_
    rename (∀ (a : Act) (w_1 : World), Code.wp _ (Code.cond _ _ _) _ _ _ → _) => hx
    exact hx _ _ (fail_ret hy rfl (by rfl) rfl rfl ⟨by rw [HQ.out], by repeat (first | with_reducible exact Grew.refl _ | apply Grew.more | apply Grew.alloc | apply Grew.drew | apply Grew.drewN)⟩)
  subst hrz
  obtain rfl : recs = [] := List.length_eq_zero_iff.1 HRN.out
  iterate 24 go_step
  by_cases hpz : plan = []
  case neg =>
    cases plan with
    | nil => exact absurd rfl hpz
    | cons px pxs =>
    have HQ := Lib.hid (HN.out fun h => hpz (h.2.2.2.2.2.1 (by have := HK.out; (try simp only); omega)))
    iterate 18 go_step
    try rw [show (!plan.isEmpty) = true by rw [hpe]; rfl]
    refine wpList_yes 115 (by kernel_rfl) fun a' hy => ?_
    rename (∀ (a : Act) (w_1 : World), Code.wp _ (Code.cond _ _ _) _ _ _ → _) => hx
    exact hx _ _ (fail_ret hy rfl (by rfl) rfl rfl ⟨by rw [HQ.out], by repeat (first | with_reducible exact Grew.refl _ | apply Grew.more | apply Grew.alloc | apply Grew.drew | apply Grew.drewN)⟩)
  subst hpz
  iterate 18 go_step
  have hB := HY.out ⟨⟨HQA.out, HQB.out, HQC.out, Nat.zero_le _, Nat.zero_le _⟩, fun _ => rfl, fun _ => rfl, fun _ => ⟨rfl, rfl⟩, fun _ => rfl, fun _ => rfl, fun h => absurd h (by have := HK.out; (try simp only); omega), fun r hr => by cases hr⟩
  rw [ev_O (by have := HK.out; omega)] at hB
  have HB := Lib.hid hB
  clear hB
  generalize nameN 13 = nk at *
  have hcn := HCN.out
  go_wp2_with (first
    | (go_at_call 15; ((with_reducible refine (HA1.out _).mono ?_)); rintro e w1 ⟨rfl, R1, n1, rfl⟩)
    | (go_at_call 15; ((with_reducible refine (HA2.out _).mono ?_)); rintro e w1 ⟨rfl, R2, n2, rfl⟩)
    | (go_at_call 15; ((with_reducible refine (HA3.out _).mono ?_)); rintro e w1 ⟨rfl, R3, n3, rfl⟩))
  go_ret
  exact ⟨by rw [HB.out]; rfl, by repeat (first | with_reducible exact Grew.refl _ | apply Grew.more | apply Grew.alloc | apply Grew.drew | apply Grew.drewN)⟩
end Go.Proofs.YtmnllmbchpebbaaGreatDoor
