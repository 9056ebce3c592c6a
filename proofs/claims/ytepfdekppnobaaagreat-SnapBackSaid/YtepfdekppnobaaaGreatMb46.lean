import Derived.Test.YtepfdekppnobaaaGreatMb45
import Derived.Test.YtepfdekppnobaaaGreatMb35
import Derived.Test.YtepfdekppnobaaaGreatMb10
import Derived.Test.YtepfdekppnobaaaGreatMb39
import Derived.Test.YtepfdekppnobaaaGreatMb5
import Derived.Test.YtepfdekppnobaaaGreatMb19
/-! forebaylaw13.PackPlans. -/
namespace Go.Proofs.YtepfdekppnobaaaGreat
set_option linter.unusedSimpArgs false
set_option linter.unusedVariables false
open Go.RowKit Ga
set_option maxRecDepth 100000

theorem greatP_small {p : List Gr.Stp} (h : greatP p = false) : ∀ s ∈ p, s.nd.frm.length ≤ 100 ∧ s.nd.prog.length ≤ 1000 := by
  unfold greatP at h
  simp only [Bool.or_eq_false_iff, decide_eq_false_iff_not, List.any_eq_false] at h
  intro s hs
  have h1 := h.2 s hs
  unfold greatG greatN at h1
  simp at h1
  omega
theorem putPl_len {p : List Gr.Stp} (h : Gr.OkPl fitsP p) : (Gr.putPl putI p).length ≤ 10000 := by
  obtain ⟨h1, h6, hs⟩ := h
  have hf : ∀ l : List Gr.Stp, (∀ s ∈ l, Gr.OkS fitsP s) → (l.flatMap (Gr.putSt putI)).length ≤ l.length * 400 := by
    intro l
    induction l with
    | nil => intro _; simp
    | cons x l ih =>
      intro h
      have h1 := ih fun s hs => h s (List.mem_cons_of_mem _ hs)
      have h2 := putNd_len (h x (List.mem_cons_self ..)).2
      rw [List.flatMap_cons, List.length_append, List.length_cons]
      unfold Gr.putSt at *
      simp only [List.length_append, Oc.be_len] at *
      omega
  have := hf p hs
  unfold Gr.putPl
  rw [List.length_append, Oc.be_len]
  omega

end Go.Proofs.YtepfdekppnobaaaGreat

/-! forebaylaw13.PackTexts. -/
namespace Go.Proofs.YtepfdekppnobaaaGreat
set_option linter.unusedSimpArgs false
set_option linter.unusedVariables false
open Go.RowKit Ga
set_option maxRecDepth 100000

theorem getPl_self {p : List Gr.Stp} (h : Gr.OkPl fitsP p) (w : World) : Calls Tryz.prog 79 #[.string ⟨(Gr.putPl putI p).toArray⟩] w (GetPlPost (p.map Gr.cleanS, 0) w) := by
  have h1 := getPlan_any (Gr.putPl putI p) w (by have := putPl_len h; omega)
  rw [Gr.getPl_put codecI h] at h1
  exact h1

end Go.Proofs.YtepfdekppnobaaaGreat

/-! pack.num, Line, planned; the functions that Right hands on. -/
namespace Go.Proofs.YtepfdekppnobaaaGreat
set_option linter.unusedSimpArgs false
set_option linter.unusedVariables false
open Go.RowKit Ga
set_option maxRecDepth 100000

def numB (n m : Int) : Bool := decide (0 ≤ n) && decide (n ≤ m)
theorem numB_iff {n m : Int} : numB n m = true ↔ 0 ≤ n ∧ n ≤ m := by unfold numB; simp
set_option maxHeartbeats 2000000 in
theorem packNum_any (n m : Int) (w : World) : Calls Tryz.prog 32 #[.int .i64 n, .int .i64 m] w fun e w' => e = .returned (.bool (numB n m)) ∧ w = w' := by
  by_cases h1 : 0 ≤ n
  · have hb : numB n m = decide (n ≤ m) := by unfold numB; simp [h1]
    rw [hb]
    clear hb
    go_enter Tryz.func32, Tryz.ntmps32
    go_wp2
    go_ret
    exact ⟨rfl, rfl⟩
  · have hb : numB n m = false := by unfold numB; simp [h1]
    rw [hb]
    clear hb
    go_enter Tryz.func32, Tryz.ntmps32
    go_wp2
    go_ret
    exact ⟨rfl, rfl⟩
theorem right1_any (x : Int) (w : World) : Calls Tryz.prog 34 #[.int .i64 x] w (Gives (.bool (!(numB x 400))) w) := by
  go_enter Tryz.func34, Tryz.ntmps34
  go_wp2_with (go_at_call 32; refine (packNum_any _ _ _).mono ?_; rintro e w1 ⟨rfl, rfl⟩)
  go_ret
  exact ⟨rfl, by repeat (first | with_reducible exact Grew.refl _ | apply Grew.more | apply Grew.alloc | apply Grew.drew | apply Grew.drewN)⟩
def lineB (x : Gr.Ln) : Bool := numB x.sink 7 && (numB x.frm 7 && (numB x.key 63 && rightV x.v))
set_option maxHeartbeats 4000000 in
theorem line_any (si fr ky p0 q0 : Int) (w : World) : Calls Tryz.prog 36 #[.agg #[.int .i64 si, .int .i64 fr, .int .i64 ky, .int .i64 p0, .int .i64 q0]] w (Gives (.bool (lineB ⟨si, fr, ky, (p0, q0)⟩)) w) := by
  obtain ⟨r, hr⟩ : ∃ r, lineB ⟨si, fr, ky, (p0, q0)⟩ = r := ⟨_, rfl⟩
  rw [hr]
  have hr2 : r = (numB si 7 && (numB fr 7 && (numB ky 63 && rightV (p0, q0)))) := hr.symm
  clear hr
  have HN1 := Lib.hid fun W => packNum_any si 7 W
  have HN2 := Lib.hid fun W => packNum_any fr 7 W
  have HN3 := Lib.hid fun W => packNum_any ky 63 W
  have HN4 := Lib.hid fun W => right_xy p0 q0 W
  generalize numB si 7 = b1 at *
  generalize numB fr 7 = b2 at *
  generalize numB ky 63 = b3 at *
  generalize rightV (p0, q0) = b4 at *
  cases b1 <;> cases b2 <;> cases b3
  all_goals
    (have HR := Lib.hid hr2; clear hr2)
    go_enter Tryz.func36, Tryz.ntmps36
    go_wp2_with fail
    refine (HN1.out _).mono ?_
    rintro e w1 ⟨rfl, rfl⟩
    go_wp2_with (first
      | (go_at_call 77; refine (HN4.out _).mono ?_; rintro e w1 ⟨rfl, R1, n1, rfl⟩)
      | (go_at_call 32; ((with_reducible refine (HN2.out _).mono ?_); rintro e w1 ⟨rfl, rfl⟩))
      | (go_at_call 32; ((with_reducible refine (HN3.out _).mono ?_); rintro e w1 ⟨rfl, rfl⟩)))
    go_ret
    exact ⟨by rw [HR.out]; rfl, by repeat (first | with_reducible exact Grew.refl _ | apply Grew.more | apply Grew.alloc | apply Grew.drew | apply Grew.drewN)⟩
theorem right2_any (x : Gr.Ln) (w : World) : Calls Tryz.prog 35 #[.agg #[.int .i64 x.sink, .int .i64 x.frm, .int .i64 x.key, .int .i64 x.v.1, .int .i64 x.v.2]] w (Gives (.bool (!(lineB x))) w) := by
  obtain ⟨si, fr, ky, ⟨p0, q0⟩⟩ := x
  simp only
  have HL := Lib.hid fun W => line_any si fr ky p0 q0 W
  generalize lineB ⟨si, fr, ky, (p0, q0)⟩ = b at *
  go_enter Tryz.func35, Tryz.ntmps35
  go_wp2_with (go_at_call 36; refine (HL.out _).mono ?_; rintro e w1 ⟨rfl, R1, n1, rfl⟩)
  go_ret
  exact ⟨rfl, by repeat (first | with_reducible exact Grew.refl _ | apply Grew.more | apply Grew.alloc | apply Grew.drew | apply Grew.drewN)⟩
open Classical in
/-- may a manifest's plan be? -/
noncomputable def plB (p : List Gr.Stp) : Bool := decide (p = [] ∨ (Gr.OkPl fitsP p ∧ p.map Gr.cleanS = p))
open Classical in
theorem plB_nil : plB [] = true := decide_eq_true (.inl rfl)
open Classical in
theorem plB_no {p : List Gr.Stp} (h0 : p ≠ []) (h : ¬ Gr.OkPl fitsP p) : plB p = false := decide_eq_false (fun q => q.elim h0 fun q => h q.1)
open Classical in
theorem plB_ok {p : List Gr.Stp} (h0 : p ≠ []) (h : Gr.OkPl fitsP p) : plB p = eqBy eqSt p (p.map Gr.cleanS) := by
  rw [Bool.eq_iff_iff, exact_iff]
  unfold plB
  rw [decide_eq_true_eq]
  exact ⟨fun q => q.elim (fun e => absurd e h0) fun q => q.2.symm, fun q => .inr ⟨h, q.symm⟩⟩
set_option maxHeartbeats 8000000 in
theorem planned_any (v : Value) (p : List Gr.Stp) (w : World) (hv : StepsAt w v p) (hs : ∀ s ∈ p, s.nd.frm.length ≤ 100 ∧ s.nd.prog.length ≤ 1000) : Calls Tryz.prog 37 #[v] w (Gives (.bool (plB p)) w) := by
  have HP := Lib.hid fun W (g : Grew w W) => plan16_any _ p W (hv.grew g) hs
  have HV := Lib.hid hv
  have HS := Lib.hid hs
  obtain ⟨a, cap, rfl, hm, -⟩ := hv.openC
  clear hv hs
  by_cases h0 : p = []
  · subst h0
    rw [plB_nil]
    show Calls Tryz.prog _ #[.slice a 0 cap] w _
    go_enter Tryz.func37, Tryz.ntmps37
    go_wp2
    go_ret
    exact ⟨rfl, by repeat (first | with_reducible exact Grew.refl _ | apply Grew.more | apply Grew.alloc | apply Grew.drew | apply Grew.drewN)⟩
  have hl0 : ((p.length : Int) == 0) = false := by
    rw [beq_eq_false_iff_ne]
    intro e
    exact h0 (List.eq_nil_of_length_eq_zero (by omega))
  by_cases hok : Gr.OkPl fitsP p
  case neg =>
    rw [plB_no h0 hok]
    rw [planR_no hok] at HP
    clear h0 hok
    go_enter Tryz.func37, Tryz.ntmps37
    go_wp2_with (go_at_call 78; refine (HP.out _ (by repeat (first | with_reducible exact Grew.refl _ | apply Grew.more | apply Grew.alloc | apply Grew.drew | apply Grew.drewN))).mono ?_; rintro e w1 ⟨rfl, R1, n1, rfl⟩; simp only)
    go_ret
    exact ⟨rfl, by repeat (first | with_reducible exact Grew.refl _ | apply Grew.more | apply Grew.alloc | apply Grew.drew | apply Grew.drewN)⟩
  rw [plB_ok h0 hok]
  rw [planR_ok hok] at HP
  have HG := Lib.hid fun W => getPl_self hok W
  have HQS := Lib.hid (fun s (h : s ∈ p.map Gr.cleanS) => (show s.nd.frm.length ≤ 1000 ∧ s.nd.prog.length ≤ 1000 from by obtain ⟨y, hy, rfl⟩ := List.mem_map.1 h; have := clean_small (HS.out y hy); omega))
  clear h0 hok
  generalize Gr.putPl putI p = t at *
  generalize p.map Gr.cleanS = q at *
  go_enter Tryz.func37, Tryz.ntmps37
  go_wp2_with (first
    | (go_at_call 78; refine (HP.out _ (by repeat (first | with_reducible exact Grew.refl _ | apply Grew.more | apply Grew.alloc | apply Grew.drew | apply Grew.drewN))).mono ?_; rintro e w1 ⟨rfl, R1, n1, rfl⟩; simp only)
    | (go_at_call 79; refine (HG.out _).mono ?_; rintro e w1 ⟨v1, rfl, h1, R2, n2, rfl⟩; simp only at h1; obtain ⟨a1, cap1, rfl, hm1, -⟩ := h1.openC; (have H1 := Lib.hid h1); clear h1; simp only)
    | (go_at_call 60; refine (eqFnExact_any _ _ p q _ (HV.out.grew (by repeat (first | with_reducible exact Grew.refl _ | apply Grew.more | apply Grew.alloc | apply Grew.drew | apply Grew.drewN))) (H1.out.grew (by repeat (first | with_reducible exact Grew.refl _ | apply Grew.more | apply Grew.alloc | apply Grew.drew | apply Grew.drewN))) (fun s hs => by have := HS.out s hs; omega) HQS.out).mono ?_; rintro e w1 ⟨rfl, R3, n3, rfl⟩))
  go_ret
  exact ⟨rfl, by repeat (first | with_reducible exact Grew.refl _ | apply Grew.more | apply Grew.alloc | apply Grew.drew | apply Grew.drewN)⟩
end Go.Proofs.YtepfdekppnobaaaGreat
