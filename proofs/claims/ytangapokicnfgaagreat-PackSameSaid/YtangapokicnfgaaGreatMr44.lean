import Derived.Test.YtangapokicnfgaaGreatMr42
import Derived.Test.YtangapokicnfgaaGreatMr43
import Derived.Test.YtangapokicnfgaaGreatMr28
import Derived.Test.YtangapokicnfgaaGreatMr9
import Derived.Test.YtangapokicnfgaaGreatMr33
import Derived.Test.YtangapokicnfgaaGreatMr12
/-! forebaylaw13.PackPlans. -/
namespace Go.Proofs.YtangapokicnfgaaGreat
set_option linter.unusedSimpArgs false
set_option linter.unusedVariables false
open Go.RowKit Ga
set_option maxRecDepth 100000

theorem greatP_small {p : List Gr.Stp} (h : greatP p = false) : ∀ s ∈ p, s.nd.frm.length ≤ 100 ∧ s.nd.prog.length ≤ 1000 := by
  unfold greatP at h
  simp only [Bool.or_eq_false_iff, decide_eq_false_iff_not, List.any_eq_false] at h
  intro s hs
  have h1 := h.2 s hs
  unfold greatG greatN at h1
  simp at h1
  omega
theorem putPl_len {p : List Gr.Stp} (h : Gr.OkPl fitsP p) : (Gr.putPl putI p).length ≤ 10000 := by
  obtain ⟨h1, h6, hs⟩ := h
  have hf : ∀ l : List Gr.Stp, (∀ s ∈ l, Gr.OkS fitsP s) → (l.flatMap (Gr.putSt putI)).length ≤ l.length * 400 := by
    intro l
    induction l with
    | nil => intro _; simp
    | cons x l ih =>
      intro h
      have h1 := ih fun s hs => h s (List.mem_cons_of_mem _ hs)
      have h2 := putNd_len (h x (List.mem_cons_self ..)).2
      rw [List.flatMap_cons, List.length_append, List.length_cons]
      unfold Gr.putSt at *
      simp only [List.length_append, Oc.be_len] at *
      omega
  have := hf p hs
  unfold Gr.putPl
  rw [List.length_append, Oc.be_len]
  omega
end Go.Proofs.YtangapokicnfgaaGreat

/-! Right manifests: plain laws. -/
namespace Gr
open Oc (be bes)
open Ga Tab
set_option linter.unusedSimpArgs false
set_option linter.unusedVariables false

/-- a manifest that may be, by the document -/
structure RightM (fits : List Vm.Ins → Prop) (m : Mf) : Prop where
  ep : 0 ≤ m.epoch ∧ m.epoch ≤ 2147483647
  pl : 0 ≤ m.plans ∧ m.plans ≤ 2147483647
  gr : RightR m.graph
  so : m.graph.Pairwise fun a b => a.id < b.id
  of : ∃ n, m.graph.head? = some n ∧ (m.offs.length : Int) = n.par
  o4 : ∀ x ∈ m.offs, 0 ≤ x ∧ x ≤ 400
  en : ∀ x ∈ m.ents, (0 ≤ x.node ∧ x.node < 8) ∧ (0 ≤ x.key ∧ x.key < 64) ∧ rightV x.c0 = true ∧ rightV x.c1 = true ∧ nz x = true
  ei : m.ents.Pairwise fun a b => num a < num b
  ek : ∀ x ∈ m.ents, ∃ n, nodeOf m.graph x.node = some n ∧ n.kind = 1
  ol : m.out.length ≤ 4000
  ou : ∀ x ∈ m.out, (0 ≤ x.sink ∧ x.sink ≤ 7) ∧ (0 ≤ x.frm ∧ x.frm ≤ 7) ∧ (0 ≤ x.key ∧ x.key < 64) ∧ rightV x.v = true
  pn : m.plan = [] ∨ OkPl fits m.plan ∧ ∀ x ∈ m.plan, cleanS x = x
theorem okV_of {v : Val} (h : rightV v = true) : okV v := by
  unfold rightV at h
  simp only [Bool.and_eq_true, decide_eq_true_eq] at h
  have h1 := into_range v.1
  have h2 := into_range v.2
  unfold okV
  omega
theorem ents_len {l : List En} (h : ∀ x ∈ l, (0 ≤ x.node ∧ x.node < 8) ∧ (0 ≤ x.key ∧ x.key < 64)) (hs : l.Pairwise fun a b => num a < num b) : l.length ≤ 512 := by
  have hnd : (l.map fun x => (num x).toNat).Nodup := by
    rw [List.Nodup, List.pairwise_map]
    refine hs.imp_of_mem fun {a b} ha hb hlt => ?_
    have h1 := h a ha
    have h2 := h b hb
    unfold num at hlt ⊢
    omega
  have := hnd.length_le_of_subset (l₂ := List.range 512) (fun y hy => by
    obtain ⟨x, hx, rfl⟩ := List.mem_map.1 hy
    have h1 := h x hx
    rw [List.mem_range]
    unfold num
    omega)
  simpa using this
section
variable {gp : List UInt8 → List Vm.Ins × Int × List UInt8} {pp : List Vm.Ins → List UInt8} {fits : List Vm.Ins → Prop}
theorem putNd_len (hl : ∀ l, fits l → (pp l).length ≤ 200) {lp : Int} {n : Nd} (h : OkB fits lp n) : (putNd pp n).length ≤ 260 := by
  unfold putNd
  simp only [List.length_append, Oc.be_len, Oc.bes_len]
  have := hl _ h.p
  have := h.m
  have := h.ol
  omega
theorem flat_len {α : Type} {f : α → List UInt8} {k : Nat} : ∀ (l : List α), (∀ x ∈ l, (f x).length ≤ k) → (l.flatMap f).length ≤ l.length * k
  | [], _ => Nat.zero_le _
  | x :: l, h => by
    rw [List.flatMap_cons, List.length_append, List.length_cons, Nat.add_mul, Nat.one_mul]
    have h1 := h x (List.mem_cons_self ..)
    have h2 := flat_len l fun y hy => h y (List.mem_cons_of_mem _ hy)
    omega
theorem putPl_len (hl : ∀ l, fits l → (pp l).length ≤ 200) {p : List Stp} (h : OkPl fits p) : (putPl pp p).length ≤ 8000 := by
  unfold putPl
  rw [List.length_append, Oc.be_len]
  have h1 := flat_len (f := putSt pp) (k := 268) p fun s hs => by
    unfold putSt
    simp only [List.length_append, Oc.be_len]
    have := putNd_len hl (h.2.2 s hs).2
    omega
  have := h.2.1
  have h2 : p.length * 268 ≤ 6 * 268 := Nat.mul_le_mul_right _ this
  omega
theorem RightM.okM {m : Mf} (h : RightM fits m) (h0 : fits []) (hs : ∀ p, Vm.safe p = true → fits p) (hr : ∀ n ∈ m.graph, n.route.length = 8) (hl : ∀ l, fits l → (pp l).length ≤ 200) : okM pp fits m := by
  refine ⟨h.ep, h.pl, ⟨?_, h.o4⟩, ⟨by have := h.gr.len; omega, h.gr.okB h0 hs hr⟩, ⟨?_, fun x hx => ?_⟩, ⟨by have := h.ol; omega, fun x hx => ?_⟩, ?_⟩
  · obtain ⟨n, hn, e⟩ := h.of
    have hm : n ∈ m.graph := List.mem_of_mem_head? hn
    obtain ⟨i, hk⟩ := h.gr.at hm
    have := hk.pr3
    omega
  · have := ents_len (fun x hx => ⟨(h.en x hx).1, (h.en x hx).2.1⟩) h.ei
    omega
  · obtain ⟨h1, h2, h3, h4, -⟩ := h.en x hx
    exact ⟨⟨⟨by omega, by omega⟩, okV_of h3⟩, okV_of h4⟩
  · obtain ⟨h1, h2, h3, h4⟩ := h.ou x hx
    exact ⟨⟨⟨h1, h2⟩, by omega⟩, okV_of h4⟩
  · rcases h.pn with e | ⟨h1, h2⟩
    · exact .inl e
    · exact .inr ⟨h1, h2, by have := putPl_len hl h1; omega⟩
open Classical in
/-- the manifest of bytes -/
noncomputable def getM (gp : List UInt8 → List Vm.Ins × Int × List UInt8) (fits : List Vm.Ins → Prop) (s : List UInt8) : Option Mf × Int :=
  if (manS gp (s, 0)).2.2 ≠ 0 then (none, (manS gp (s, 0)).2.2)
  else if 0 < (manS gp (s, 0)).2.1.length then (none, 4)
  else if RightM fits (manS gp (s, 0)).1 then (some (manS gp (s, 0)).1, 0) else (none, 1)
theorem getM_put (hc : Codec gp pp fits) (h0 : fits []) (hs : ∀ p, Vm.safe p = true → fits p) (hl : ∀ l, fits l → (pp l).length ≤ 200) {m : Mf} (h : RightM fits m) (hr : ∀ n ∈ m.graph, n.route.length = 8) : getM gp fits (putM pp m) = (some m, 0) := by
  have h1 := (man_item hc).put m [] (h.okM h0 hs hr hl)
  rw [List.append_nil] at h1
  unfold getM
  rw [h1]
  simp only
  rw [if_neg (by simp), if_neg (by simp), if_pos h]
/-- two right manifests have the same bytes just if they are one -/
theorem same_bytes (hc : Codec gp pp fits) (h0 : fits []) (hs : ∀ p, Vm.safe p = true → fits p) (hl : ∀ l, fits l → (pp l).length ≤ 200) {a b : Mf} (ha : RightM fits a) (hb : RightM fits b) (ra : ∀ n ∈ a.graph, n.route.length = 8) (rb : ∀ n ∈ b.graph, n.route.length = 8) : putM pp a = putM pp b ↔ a = b :=
  ⟨putM_inj hc (ha.okM h0 hs ra hl) (hb.okM h0 hs rb hl), fun h => by rw [h]⟩
end
end Gr

/-! Bytes with more behind them: plain laws of PackTexts. -/
namespace Gr
open Oc (be bes)
set_option linter.unusedSimpArgs false
set_option linter.unusedVariables false
section
variable {gp : List UInt8 → List Vm.Ins × Int × List UInt8} {pp : List Vm.Ins → List UInt8} {fits : List Vm.Ins → Prop}
end
end Gr

/-! forebaylaw13.PackTexts. -/
namespace Go.Proofs.YtangapokicnfgaaGreat
set_option linter.unusedSimpArgs false
set_option linter.unusedVariables false
open Go.RowKit Ga
set_option maxRecDepth 100000

theorem getPl_self {p : List Gr.Stp} (h : Gr.OkPl fitsP p) (w : World) : Calls Tryz.prog 18 #[.string ⟨(Gr.putPl putI p).toArray⟩] w (GetPlPost (p.map Gr.cleanS, 0) w) := by
  have h1 := getPlan_any (Gr.putPl putI p) w (by have := putPl_len h; omega)
  rw [Gr.getPl_put codecI h] at h1
  exact h1
end Go.Proofs.YtangapokicnfgaaGreat

/-! pack.num, Line, planned; the functions that Right hands on. -/
namespace Go.Proofs.YtangapokicnfgaaGreat
set_option linter.unusedSimpArgs false
set_option linter.unusedVariables false
open Go.RowKit Ga
set_option maxRecDepth 100000

def numB (n m : Int) : Bool := decide (0 ≤ n) && decide (n ≤ m)
theorem numB_iff {n m : Int} : numB n m = true ↔ 0 ≤ n ∧ n ≤ m := by unfold numB; simp
set_option maxHeartbeats 2000000 in
theorem packNum_any (n m : Int) (w : World) : Calls Tryz.prog 55 #[.int .i64 n, .int .i64 m] w fun e w' => e = .returned (.bool (numB n m)) ∧ w = w' := by
  by_cases h1 : 0 ≤ n
  · have hb : numB n m = decide (n ≤ m) := by unfold numB; simp [h1]
    rw [hb]
    clear hb
    go_enter Tryz.func55, Tryz.ntmps55
    go_wp2
    go_ret
    exact ⟨rfl, rfl⟩
  · have hb : numB n m = false := by unfold numB; simp [h1]
    rw [hb]
    clear hb
    go_enter Tryz.func55, Tryz.ntmps55
    go_wp2
    go_ret
    exact ⟨rfl, rfl⟩
theorem right1_any (x : Int) (w : World) : Calls Tryz.prog 57 #[.int .i64 x] w (Gives (.bool (!(numB x 400))) w) := by
  go_enter Tryz.func57, Tryz.ntmps57
  go_wp2_with (go_at_call 55; refine (packNum_any _ _ _).mono ?_; rintro e w1 ⟨rfl, rfl⟩)
  go_ret
  exact ⟨rfl, by repeat (first | with_reducible exact Grew.refl _ | apply Grew.more | apply Grew.alloc | apply Grew.drew | apply Grew.drewN)⟩
def lineB (x : Gr.Ln) : Bool := numB x.sink 7 && (numB x.frm 7 && (numB x.key 63 && rightV x.v))
set_option maxHeartbeats 4000000 in
theorem line_any (si fr ky p0 q0 : Int) (w : World) : Calls Tryz.prog 59 #[.agg #[.int .i64 si, .int .i64 fr, .int .i64 ky, .int .i64 p0, .int .i64 q0]] w (Gives (.bool (lineB ⟨si, fr, ky, (p0, q0)⟩)) w) := by
  obtain ⟨r, hr⟩ : ∃ r, lineB ⟨si, fr, ky, (p0, q0)⟩ = r := ⟨_, rfl⟩
  rw [hr]
  have hr2 : r = (numB si 7 && (numB fr 7 && (numB ky 63 && rightV (p0, q0)))) := hr.symm
  clear hr
  have HN1 := Lib.hid fun W => packNum_any si 7 W
  have HN2 := Lib.hid fun W => packNum_any fr 7 W
  have HN3 := Lib.hid fun W => packNum_any ky 63 W
  have HN4 := Lib.hid fun W => right_xy p0 q0 W
  generalize numB si 7 = b1 at *
  generalize numB fr 7 = b2 at *
  generalize numB ky 63 = b3 at *
  generalize rightV (p0, q0) = b4 at *
  cases b1 <;> cases b2 <;> cases b3
  all_goals
    (have HR := Lib.hid hr2; clear hr2)
    go_enter Tryz.func59, Tryz.ntmps59
    go_wp2_with fail
    refine (HN1.out _).mono ?_
    rintro e w1 ⟨rfl, rfl⟩
    go_wp2_with (first
      | (go_at_call 97; refine (HN4.out _).mono ?_; rintro e w1 ⟨rfl, R1, n1, rfl⟩)
      | (go_at_call 55; ((with_reducible refine (HN2.out _).mono ?_); rintro e w1 ⟨rfl, rfl⟩))
      | (go_at_call 55; ((with_reducible refine (HN3.out _).mono ?_); rintro e w1 ⟨rfl, rfl⟩)))
    go_ret
    exact ⟨by rw [HR.out]; rfl, by repeat (first | with_reducible exact Grew.refl _ | apply Grew.more | apply Grew.alloc | apply Grew.drew | apply Grew.drewN)⟩
theorem right2_any (x : Gr.Ln) (w : World) : Calls Tryz.prog 58 #[.agg #[.int .i64 x.sink, .int .i64 x.frm, .int .i64 x.key, .int .i64 x.v.1, .int .i64 x.v.2]] w (Gives (.bool (!(lineB x))) w) := by
  obtain ⟨si, fr, ky, ⟨p0, q0⟩⟩ := x
  simp only
  have HL := Lib.hid fun W => line_any si fr ky p0 q0 W
  generalize lineB ⟨si, fr, ky, (p0, q0)⟩ = b at *
  go_enter Tryz.func58, Tryz.ntmps58
  go_wp2_with (go_at_call 59; refine (HL.out _).mono ?_; rintro e w1 ⟨rfl, R1, n1, rfl⟩)
  go_ret
  exact ⟨rfl, by repeat (first | with_reducible exact Grew.refl _ | apply Grew.more | apply Grew.alloc | apply Grew.drew | apply Grew.drewN)⟩
open Classical in
/-- may a manifest's plan be? -/
noncomputable def plB (p : List Gr.Stp) : Bool := decide (p = [] ∨ (Gr.OkPl fitsP p ∧ p.map Gr.cleanS = p))
open Classical in
theorem plB_nil : plB [] = true := decide_eq_true (.inl rfl)
open Classical in
theorem plB_no {p : List Gr.Stp} (h0 : p ≠ []) (h : ¬ Gr.OkPl fitsP p) : plB p = false := decide_eq_false (fun q => q.elim h0 fun q => h q.1)
open Classical in
theorem plB_ok {p : List Gr.Stp} (h0 : p ≠ []) (h : Gr.OkPl fitsP p) : plB p = eqBy eqSt p (p.map Gr.cleanS) := by
  rw [Bool.eq_iff_iff, exact_iff]
  unfold plB
  rw [decide_eq_true_eq]
  exact ⟨fun q => q.elim (fun e => absurd e h0) fun q => q.2.symm, fun q => .inr ⟨h, q.symm⟩⟩
set_option maxHeartbeats 8000000 in
theorem planned_any (v : Value) (p : List Gr.Stp) (w : World) (hv : StepsAt w v p) (hs : ∀ s ∈ p, s.nd.frm.length ≤ 100 ∧ s.nd.prog.length ≤ 1000) : Calls Tryz.prog 60 #[v] w (Gives (.bool (plB p)) w) := by
  have HP := Lib.hid fun W (g : Grew w W) => plan16_any _ p W (hv.grew g) hs
  have HV := Lib.hid hv
  have HS := Lib.hid hs
  obtain ⟨a, cap, rfl, hm, -⟩ := hv.openC
  clear hv hs
  by_cases h0 : p = []
  · subst h0
    rw [plB_nil]
    show Calls Tryz.prog _ #[.slice a 0 cap] w _
    go_enter Tryz.func60, Tryz.ntmps60
    go_wp2
    go_ret
    exact ⟨rfl, by repeat (first | with_reducible exact Grew.refl _ | apply Grew.more | apply Grew.alloc | apply Grew.drew | apply Grew.drewN)⟩
  have hl0 : ((p.length : Int) == 0) = false := by
    rw [beq_eq_false_iff_ne]
    intro e
    exact h0 (List.eq_nil_of_length_eq_zero (by omega))
  by_cases hok : Gr.OkPl fitsP p
  case neg =>
    rw [plB_no h0 hok]
    rw [planR_no hok] at HP
    clear h0 hok
    go_enter Tryz.func60, Tryz.ntmps60
    go_wp2_with (go_at_call 16; refine (HP.out _ (by repeat (first | with_reducible exact Grew.refl _ | apply Grew.more | apply Grew.alloc | apply Grew.drew | apply Grew.drewN))).mono ?_; rintro e w1 ⟨rfl, R1, n1, rfl⟩; simp only)
    go_ret
    exact ⟨rfl, by repeat (first | with_reducible exact Grew.refl _ | apply Grew.more | apply Grew.alloc | apply Grew.drew | apply Grew.drewN)⟩
  rw [plB_ok h0 hok]
  rw [planR_ok hok] at HP
  have HG := Lib.hid fun W => getPl_self hok W
  have HQS := Lib.hid (fun s (h : s ∈ p.map Gr.cleanS) => (show s.nd.frm.length ≤ 1000 ∧ s.nd.prog.length ≤ 1000 from by obtain ⟨y, hy, rfl⟩ := List.mem_map.1 h; have := clean_small (HS.out y hy); omega))
  clear h0 hok
  generalize Gr.putPl putI p = t at *
  generalize p.map Gr.cleanS = q at *
  go_enter Tryz.func60, Tryz.ntmps60
  go_wp2_with (first
    | (go_at_call 16; refine (HP.out _ (by repeat (first | with_reducible exact Grew.refl _ | apply Grew.more | apply Grew.alloc | apply Grew.drew | apply Grew.drewN))).mono ?_; rintro e w1 ⟨rfl, R1, n1, rfl⟩; simp only)
    | (go_at_call 18; refine (HG.out _).mono ?_; rintro e w1 ⟨v1, rfl, h1, R2, n2, rfl⟩; simp only at h1; obtain ⟨a1, cap1, rfl, hm1, -⟩ := h1.openC; (have H1 := Lib.hid h1); clear h1; simp only)
    | (go_at_call 72; refine (eqFnExact_any _ _ p q _ (HV.out.grew (by repeat (first | with_reducible exact Grew.refl _ | apply Grew.more | apply Grew.alloc | apply Grew.drew | apply Grew.drewN))) (H1.out.grew (by repeat (first | with_reducible exact Grew.refl _ | apply Grew.more | apply Grew.alloc | apply Grew.drew | apply Grew.drewN))) (fun s hs => by have := HS.out s hs; omega) HQS.out).mono ?_; rintro e w1 ⟨rfl, R3, n3, rfl⟩))
  go_ret
  exact ⟨rfl, by repeat (first | with_reducible exact Grew.refl _ | apply Grew.more | apply Grew.alloc | apply Grew.drew | apply Grew.drewN)⟩
end Go.Proofs.YtangapokicnfgaaGreat
