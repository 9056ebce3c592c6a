import Derived.Test.YtpbohimddmploaaGreatCd42
import Derived.Test.YtpbohimddmploaaGreatCd32
import Derived.Test.YtpbohimddmploaaGreatCd28
set_option linter.unusedSimpArgs false
set_option linter.unusedVariables false
set_option maxRecDepth 100000
set_option maxHeartbeats 64000000
namespace Go.Proofs.YtpbohimddmploaaGreat
open Go.RowKit Ga

open Classical in
noncomputable def planR (p : List Gr.Stp) : List UInt8 × Int := if Gr.OkPl fitsP p then (Gr.putPl putI p, 0) else ([], 11)
theorem planR_ok {p : List Gr.Stp} (h : Gr.OkPl fitsP p) : planR p = (Gr.putPl putI p, 0) := by unfold planR; exact if_pos h
theorem planR_no {p : List Gr.Stp} (h : ¬ Gr.OkPl fitsP p) : planR p = ([], 11) := by unfold planR; exact if_neg h
theorem plan_back {p : List Gr.Stp} {t : List UInt8} (h1 : 1 ≤ p.length) (h6 : p.length ≤ 6) (h0 : (Gr.getPl getL t).2 = 0) (hk : eqBy sameSt p (Gr.getPl getL t).1 = true) : Gr.OkPl fitsP p := by
  obtain ⟨⟨-, -, hs⟩, -, hcl⟩ := Gr.getPl_can codecI (s := t) (q := (Gr.getPl getL t).1) (by rw [← h0])
  have he := (same_iff _ _).1 hk
  rw [Gr.map_clean hcl] at he
  refine ⟨h1, h6, fun s hsp => ?_⟩
  have hm : Gr.cleanS s ∈ (Gr.getPl getL t).1 := he ▸ List.mem_map.2 ⟨s, hsp, rfl⟩
  obtain ⟨hk, hn⟩ := hs _ hm
  rw [Gr.clean_clean] at hn
  exact ⟨Gr.kind_clean hk.1, hn⟩
theorem plan_forth {p : List Gr.Stp} {t : List UInt8} (ht : Gr.OkPl fitsP p → t = Gr.putPl putI p) (h : Gr.OkPl fitsP p) : (Gr.getPl getL t).2 = 0 ∧ eqBy sameSt p (Gr.getPl getL t).1 = true := by
  rw [ht h, Gr.getPl_put codecI h]
  refine ⟨rfl, (same_iff _ _).2 ?_⟩
  simp only [List.map_map]
  exact List.map_congr_left fun x _ => (Gr.clean_clean x).symm
theorem plan16_any (v : Value) (p : List Gr.Stp) (w : World) (hv : StepsAt w v p) (hs : ∀ s ∈ p, s.nd.frm.length ≤ 100 ∧ s.nd.prog.length ≤ 1000) : Calls Tryz.prog 11 #[v] w (Gives (.tuple #[str (planR p).1, .int .i64 (planR p).2]) w) := by
  have HV := Lib.hid hv
  have HS := Lib.hid hs
  obtain ⟨a, cap, rfl, hm, -⟩ := hv.openC
  clear hv hs
  by_cases h1 : 1 ≤ p.length
  case neg =>
    have h1' : (p.length : Int) < 1 := by omega
    rw [planR_no fun h => h1 h.1]
    clear h1
    go_enter Tryz.func11, Tryz.ntmps11
    go_wp2
    exact bodyPost_ret (v := .tuple #[.string ⟨#[]⟩, .int .i64 11]) (by simp [results, Tryz.results11, go_sem]) rfl ⟨rfl, by repeat (first | with_reducible exact Grew.refl _ | apply Grew.more | apply Grew.alloc | apply Grew.drew | apply Grew.drewN)⟩
  have h1' : ¬ (p.length : Int) < 1 := by omega
  by_cases h6 : p.length ≤ 6
  case neg =>
    have h6' : (6 : Int) < (p.length : Int) := by omega
    rw [planR_no fun h => h6 h.2.1]
    clear h1 h6
    go_enter Tryz.func11, Tryz.ntmps11
    go_wp2
    exact bodyPost_ret (v := .tuple #[.string ⟨#[]⟩, .int .i64 11]) (by simp [results, Tryz.results11, go_sem]) rfl ⟨rfl, by repeat (first | with_reducible exact Grew.refl _ | apply Grew.more | apply Grew.alloc | apply Grew.drew | apply Grew.drewN)⟩
  have h6' : ¬ (6 : Int) < (p.length : Int) := by omega
  have HPUT := Lib.hid fun W (g : Grew w W) => putPlan_any _ p W (HV.out.grew g) HS.out h6
  have HR := Lib.hid (rfl : planR p = planR p)
  generalize hpr : planR p = pr at *
  obtain ⟨pr1, pr2⟩ := pr
  have HPR := Lib.hid hpr
  clear hpr HR
  go_enter Tryz.func11, Tryz.ntmps11
  go_wp2_with fail
  refine (HPUT.out _ (by repeat (first | with_reducible exact Grew.refl _ | apply Grew.more | apply Grew.alloc | apply Grew.drew | apply Grew.drewN))).mono ?_
  rintro e w1 ⟨t, rfl, ht1, ht2, R1, n1, rfl⟩
  have HB := Lib.hid fun a b => plan_back (p := p) (t := t) h1 h6 a b
  have HF := Lib.hid (plan_forth (p := p) (t := t) ht2)
  have HT2 := Lib.hid ht2
  have HG := Lib.hid fun W => getPlan_any t W (by omega)
  have HK := Lib.hid fun W (g : Grew w W) => kept_any _ p t W (HV.out.grew g) (fun s hs => by have := HS.out s hs; omega) (by omega)
  clear ht2
  generalize hgp : Gr.getPl getL t = r at *
  obtain ⟨q, er⟩ := r
  simp only at HB HF HG HK
  clear hgp
  by_cases he : er = 0
  case neg =>
    have hb : (er != 0) = true := by rw [bne_iff_ne]; exact he
    have hp := planR_no (fun h => he (HF.out h).1)
    rw [HPR.out] at hp
    cases hp
    clear he
    go_wp2_with (go_at_call 46; refine (HG.out _).mono ?_; rintro e w1 ⟨v1, rfl, h1, R2, n2, rfl⟩; simp only)
    exact bodyPost_ret (v := .tuple #[.string ⟨#[]⟩, .int .i64 11]) (by simp [results, Tryz.results11, go_sem]) rfl ⟨rfl, by repeat (first | with_reducible exact Grew.refl _ | apply Grew.more | apply Grew.alloc | apply Grew.drew | apply Grew.drewN)⟩
  subst he
  cases hk : eqBy sameSt p q
  · have hp := planR_no (fun h => by have h2 := (HF.out h).2; rw [hk] at h2; cases h2)
    rw [HPR.out] at hp
    cases hp
    have HKK := Lib.hid hk
    clear hk
    go_wp2_with (first
      | (go_at_call 46; refine (HG.out _).mono ?_; rintro e w1 ⟨v1, rfl, h1, R2, n2, rfl⟩; simp only)
      | (go_at_call 47; refine (HK.out _ (by repeat (first | with_reducible exact Grew.refl _ | apply Grew.more | apply Grew.alloc | apply Grew.drew | apply Grew.drewN))).mono ?_; rintro e w1 ⟨rfl, R3, n3, rfl⟩; rw [HKK.out]))
    exact bodyPost_ret (v := .tuple #[.string ⟨#[]⟩, .int .i64 11]) (by simp [results, Tryz.results11, go_sem]) rfl ⟨rfl, by repeat (first | with_reducible exact Grew.refl _ | apply Grew.more | apply Grew.alloc | apply Grew.drew | apply Grew.drewN)⟩
  · have hok := HB.out rfl hk
    have hp := planR_ok hok
    rw [HPR.out] at hp
    cases hp
    have HKK := Lib.hid hk
    have htt := HT2.out hok
    subst htt
    clear hk hok
    go_wp2_with (first
      | (go_at_call 46; refine (HG.out _).mono ?_; rintro e w1 ⟨v1, rfl, h1, R2, n2, rfl⟩; simp only)
      | (go_at_call 47; refine (HK.out _ (by repeat (first | with_reducible exact Grew.refl _ | apply Grew.more | apply Grew.alloc | apply Grew.drew | apply Grew.drewN))).mono ?_; rintro e w1 ⟨rfl, R3, n3, rfl⟩; rw [HKK.out]))
    exact bodyPost_ret (v := .tuple #[.string ⟨(Gr.putPl putI p).toArray⟩, .int .i64 0]) (by simp [results, Tryz.results11, go_sem]) rfl ⟨rfl, by repeat (first | with_reducible exact Grew.refl _ | apply Grew.more | apply Grew.alloc | apply Grew.drew | apply Grew.drewN)⟩
end Go.Proofs.YtpbohimddmploaaGreat
