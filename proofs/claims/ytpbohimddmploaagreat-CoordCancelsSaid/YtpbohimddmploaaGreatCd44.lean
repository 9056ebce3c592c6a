import Derived.Test.YtpbohimddmploaaGreatCd43
import Derived.Test.YtpbohimddmploaaGreatCd23
import Derived.Test.YtpbohimddmploaaGreatCd16
import Derived.Test.YtpbohimddmploaaGreatCd28
import Derived.Test.YtpbohimddmploaaGreatCd6
import Derived.Test.YtpbohimddmploaaGreatCd24
import Derived.Test.YtpbohimddmploaaGreatCd15
set_option linter.unusedSimpArgs false
set_option linter.unusedVariables false
set_option maxRecDepth 100000
set_option maxHeartbeats 64000000
namespace Go.Proofs.YtpbohimddmploaaGreat
open Go.RowKit Ga

theorem greatP_small {p : List Gr.Stp} (h : greatP p = false) : ∀ s ∈ p, s.nd.frm.length ≤ 100 ∧ s.nd.prog.length ≤ 1000 := by
  unfold greatP at h
  simp only [Bool.or_eq_false_iff, decide_eq_false_iff_not, List.any_eq_false] at h
  intro s hs
  have h1 := h.2 s hs
  unfold greatG greatN at h1
  simp at h1
  omega
theorem putPl_len {p : List Gr.Stp} (h : Gr.OkPl fitsP p) : (Gr.putPl putI p).length ≤ 10000 := by
  obtain ⟨h1, h6, hs⟩ := h
  have hf : ∀ l : List Gr.Stp, (∀ s ∈ l, Gr.OkS fitsP s) → (l.flatMap (Gr.putSt putI)).length ≤ l.length * 400 := by
    intro l
    induction l with
    | nil => intro _; simp
    | cons x l ih =>
      intro h
      have h1 := ih fun s hs => h s (List.mem_cons_of_mem _ hs)
      have h2 := putNd_len (h x (List.mem_cons_self ..)).2
      rw [List.flatMap_cons, List.length_append, List.length_cons]
      unfold Gr.putSt at *
      simp only [List.length_append, Oc.be_len] at *
      omega
  have := hf p hs
  unfold Gr.putPl
  rw [List.length_append, Oc.be_len]
  omega


theorem getPl_self {p : List Gr.Stp} (h : Gr.OkPl fitsP p) (w : World) : Calls Tryz.prog 46 #[.string ⟨(Gr.putPl putI p).toArray⟩] w (GetPlPost (p.map Gr.cleanS, 0) w) := by
  have h1 := getPlan_any (Gr.putPl putI p) w (by have := putPl_len h; omega)
  rw [Gr.getPl_put codecI h] at h1
  exact h1


def numB (n m : Int) : Bool := decide (0 ≤ n) && decide (n ≤ m)
theorem numB_iff {n m : Int} : numB n m = true ↔ 0 ≤ n ∧ n ≤ m := by unfold numB; simp
theorem packNum_any (n m : Int) (w : World) : Calls Tryz.prog 140 #[.int .i64 n, .int .i64 m] w fun e w' => e = .returned (.bool (numB n m)) ∧ w = w' := by
  by_cases h1 : 0 ≤ n
  · have hb : numB n m = decide (n ≤ m) := by unfold numB; simp [h1]
    rw [hb]
    clear hb
    go_enter Tryz.func140, Tryz.ntmps140
    go_wp2
    go_ret
    exact ⟨rfl, rfl⟩
  · have hb : numB n m = false := by unfold numB; simp [h1]
    rw [hb]
    clear hb
    go_enter Tryz.func140, Tryz.ntmps140
    go_wp2
    go_ret
    exact ⟨rfl, rfl⟩
theorem right1_any (x : Int) (w : World) : Calls Tryz.prog 142 #[.int .i64 x] w (Gives (.bool (!(numB x 400))) w) := by
  go_enter Tryz.func142, Tryz.ntmps142
  go_wp2_with (go_at_call 140; refine (packNum_any _ _ _).mono ?_; rintro e w1 ⟨rfl, rfl⟩)
  go_ret
  exact ⟨rfl, by repeat (first | with_reducible exact Grew.refl _ | apply Grew.more | apply Grew.alloc | apply Grew.drew | apply Grew.drewN)⟩
def lineB (x : Gr.Ln) : Bool := numB x.sink 7 && (numB x.frm 7 && (numB x.key 63 && rightV x.v))
theorem line_any (si fr ky p0 q0 : Int) (w : World) : Calls Tryz.prog 144 #[.agg #[.int .i64 si, .int .i64 fr, .int .i64 ky, .int .i64 p0, .int .i64 q0]] w (Gives (.bool (lineB ⟨si, fr, ky, (p0, q0)⟩)) w) := by
  obtain ⟨r, hr⟩ : ∃ r, lineB ⟨si, fr, ky, (p0, q0)⟩ = r := ⟨_, rfl⟩
  rw [hr]
  have hr2 : r = (numB si 7 && (numB fr 7 && (numB ky 63 && rightV (p0, q0)))) := hr.symm
  clear hr
  have HN1 := Lib.hid fun W => packNum_any si 7 W
  have HN2 := Lib.hid fun W => packNum_any fr 7 W
  have HN3 := Lib.hid fun W => packNum_any ky 63 W
  have HN4 := Lib.hid fun W => right_xy p0 q0 W
  generalize numB si 7 = b1 at *
  generalize numB fr 7 = b2 at *
  generalize numB ky 63 = b3 at *
  generalize rightV (p0, q0) = b4 at *
  cases b1 <;> cases b2 <;> cases b3
  all_goals
    (have HR := Lib.hid hr2; clear hr2)
    go_enter Tryz.func144, Tryz.ntmps144
    go_wp2_with fail
    refine (HN1.out _).mono ?_
    rintro e w1 ⟨rfl, rfl⟩
    go_wp2_with (first
      | (go_at_call 187; refine (HN4.out _).mono ?_; rintro e w1 ⟨rfl, R1, n1, rfl⟩)
      | (go_at_call 140; ((with_reducible refine (HN2.out _).mono ?_); rintro e w1 ⟨rfl, rfl⟩))
      | (go_at_call 140; ((with_reducible refine (HN3.out _).mono ?_); rintro e w1 ⟨rfl, rfl⟩)))
    go_ret
    exact ⟨by rw [HR.out]; rfl, by repeat (first | with_reducible exact Grew.refl _ | apply Grew.more | apply Grew.alloc | apply Grew.drew | apply Grew.drewN)⟩
theorem right2_any (x : Gr.Ln) (w : World) : Calls Tryz.prog 143 #[.agg #[.int .i64 x.sink, .int .i64 x.frm, .int .i64 x.key, .int .i64 x.v.1, .int .i64 x.v.2]] w (Gives (.bool (!(lineB x))) w) := by
  obtain ⟨si, fr, ky, ⟨p0, q0⟩⟩ := x
  simp only
  have HL := Lib.hid fun W => line_any si fr ky p0 q0 W
  generalize lineB ⟨si, fr, ky, (p0, q0)⟩ = b at *
  go_enter Tryz.func143, Tryz.ntmps143
  go_wp2_with (go_at_call 144; refine (HL.out _).mono ?_; rintro e w1 ⟨rfl, R1, n1, rfl⟩)
  go_ret
  exact ⟨rfl, by repeat (first | with_reducible exact Grew.refl _ | apply Grew.more | apply Grew.alloc | apply Grew.drew | apply Grew.drewN)⟩
open Classical in
noncomputable def plB (p : List Gr.Stp) : Bool := decide (p = [] ∨ (Gr.OkPl fitsP p ∧ p.map Gr.cleanS = p))
open Classical in
theorem plB_nil : plB [] = true := decide_eq_true (.inl rfl)
open Classical in
theorem plB_no {p : List Gr.Stp} (h0 : p ≠ []) (h : ¬ Gr.OkPl fitsP p) : plB p = false := decide_eq_false (fun q => q.elim h0 fun q => h q.1)
open Classical in
theorem plB_ok {p : List Gr.Stp} (h0 : p ≠ []) (h : Gr.OkPl fitsP p) : plB p = eqBy eqSt p (p.map Gr.cleanS) := by
  rw [Bool.eq_iff_iff, exact_iff]
  unfold plB
  rw [decide_eq_true_eq]
  exact ⟨fun q => q.elim (fun e => absurd e h0) fun q => q.2.symm, fun q => .inr ⟨h, q.symm⟩⟩
theorem planned_any (v : Value) (p : List Gr.Stp) (w : World) (hv : StepsAt w v p) (hs : ∀ s ∈ p, s.nd.frm.length ≤ 100 ∧ s.nd.prog.length ≤ 1000) : Calls Tryz.prog 145 #[v] w (Gives (.bool (plB p)) w) := by
  have HP := Lib.hid fun W (g : Grew w W) => plan16_any _ p W (hv.grew g) hs
  have HV := Lib.hid hv
  have HS := Lib.hid hs
  obtain ⟨a, cap, rfl, hm, -⟩ := hv.openC
  clear hv hs
  by_cases h0 : p = []
  · subst h0
    rw [plB_nil]
    show Calls Tryz.prog _ #[.slice a 0 cap] w _
    go_enter Tryz.func145, Tryz.ntmps145
    go_wp2
    go_ret
    exact ⟨rfl, by repeat (first | with_reducible exact Grew.refl _ | apply Grew.more | apply Grew.alloc | apply Grew.drew | apply Grew.drewN)⟩
  have hl0 : ((p.length : Int) == 0) = false := by
    rw [beq_eq_false_iff_ne]
    intro e
    exact h0 (List.eq_nil_of_length_eq_zero (by omega))
  by_cases hok : Gr.OkPl fitsP p
  case neg =>
    rw [plB_no h0 hok]
    rw [planR_no hok] at HP
    clear h0 hok
    go_enter Tryz.func145, Tryz.ntmps145
    go_wp2_with (go_at_call 11; refine (HP.out _ (by repeat (first | with_reducible exact Grew.refl _ | apply Grew.more | apply Grew.alloc | apply Grew.drew | apply Grew.drewN))).mono ?_; rintro e w1 ⟨rfl, R1, n1, rfl⟩; simp only)
    go_ret
    exact ⟨rfl, by repeat (first | with_reducible exact Grew.refl _ | apply Grew.more | apply Grew.alloc | apply Grew.drew | apply Grew.drewN)⟩
  rw [plB_ok h0 hok]
  rw [planR_ok hok] at HP
  have HG := Lib.hid fun W => getPl_self hok W
  have HQS := Lib.hid (fun s (h : s ∈ p.map Gr.cleanS) => (show s.nd.frm.length ≤ 1000 ∧ s.nd.prog.length ≤ 1000 from by obtain ⟨y, hy, rfl⟩ := List.mem_map.1 h; have := clean_small (HS.out y hy); omega))
  clear h0 hok
  generalize Gr.putPl putI p = t at *
  generalize p.map Gr.cleanS = q at *
  go_enter Tryz.func145, Tryz.ntmps145
  go_wp2_with (first
    | (go_at_call 11; refine (HP.out _ (by repeat (first | with_reducible exact Grew.refl _ | apply Grew.more | apply Grew.alloc | apply Grew.drew | apply Grew.drewN))).mono ?_; rintro e w1 ⟨rfl, R1, n1, rfl⟩; simp only)
    | (go_at_call 46; refine (HG.out _).mono ?_; rintro e w1 ⟨v1, rfl, h1, R2, n2, rfl⟩; simp only at h1; obtain ⟨a1, cap1, rfl, hm1, -⟩ := h1.openC; (have H1 := Lib.hid h1); clear h1; simp only)
    | (go_at_call 75; refine (eqFnExact_any _ _ p q _ (HV.out.grew (by repeat (first | with_reducible exact Grew.refl _ | apply Grew.more | apply Grew.alloc | apply Grew.drew | apply Grew.drewN))) (H1.out.grew (by repeat (first | with_reducible exact Grew.refl _ | apply Grew.more | apply Grew.alloc | apply Grew.drew | apply Grew.drewN))) (fun s hs => by have := HS.out s hs; omega) HQS.out).mono ?_; rintro e w1 ⟨rfl, R3, n3, rfl⟩))
  go_ret
  exact ⟨rfl, by repeat (first | with_reducible exact Grew.refl _ | apply Grew.more | apply Grew.alloc | apply Grew.drew | apply Grew.drewN)⟩

open Classical in
def parOf (g : List Gr.Nd) : Int := match Gr.nodeOf g 0 with
  | none => 0
  | some n => n.par
open Classical in
noncomputable def rightB (m : Gr.Mf) : Bool := numB m.epoch 2147483647 && (numB m.plans 2147483647 && (decide (checkR m.graph = 0) && (sortedB m.graph && (decide ((m.out.length : Int) ≤ 4000) && (plB m.plan && (((m.offs.length : Int) == parOf m.graph) && (!(m.offs.any fun x => !(numB x 400)) && (entB m.ents m.graph && (!(m.out.any fun x => !(lineB x)))))))))))
theorem source_some {l : List Gr.Nd} (h : Gr.RightR l) : ∃ n, Gr.nodeOf l 0 = some n := by
  have hz : (0 : Int) ∈ Gr.ids l := ((Gr.right_iff (List.Perm.refl l)).1 h).z
  obtain ⟨n, hn, e⟩ := List.mem_map.1 hz
  have := Gr.bind_find h.ids hn
  rw [e] at this
  exact ⟨n, this⟩
open Classical in
theorem checkR_zero {l : List Gr.Nd} (h : checkR l = 0) : Gr.RightR l := by
  unfold checkR at h
  split at h
  · cases h
  · split at h
    · assumption
    · cases h
open Classical in
theorem manRight_1 (c : MfC) (m : Gr.Mf) (w : World) (h : MfIs w c m) (hs : Small m.graph) (hp : ∀ s ∈ m.plan, s.nd.frm.length ≤ 100 ∧ s.nd.prog.length ≤ 1000) (he : m.ents.length ≤ 100000) (h1 : (numB m.epoch 2147483647) = false) : Calls Tryz.prog 93 #[.agg #[.int .i64 c.epoch, .int .i64 c.plans, .slice c.ao c.no c.co, .slice c.ag c.ng c.cg, .slice c.ae c.ne c.ce, .slice c.ax c.nx c.cx, .slice c.ap c.np c.cp]] w (Gives (.bool false) w) := by
  have e1 := h.epoch
  have e2 := h.plans
  have HG := Lib.hid h.g
  have HO := Lib.hid h.o
  have HE := Lib.hid h.e
  have HX := Lib.hid h.x
  have HP := Lib.hid h.p
  have HS := Lib.hid hs
  have HPS := Lib.hid hp
  obtain ⟨ep, pl, ao, co, ag, cg, ae, ce, ax, cx, ap, cp, rfl⟩ := h.lit
  simp only at e1 e2 HG HO HE HX HP
  clear h hs hp
  have hn1 := fun W => packNum_any ep 2147483647 W
  rw [← e1, h1] at hn1
  rw [e1] at hn1
  have HN1 := Lib.hid hn1
  clear hn1 e1 e2 h1
  show Calls Tryz.prog _ #[.agg #[.int .i64 ep, .int .i64 pl, .slice ao m.offs.length co, .slice ag m.graph.length cg, .slice ae m.ents.length ce, .slice ax m.out.length cx, .slice ap m.plan.length cp]] w _
  go_enter Tryz.func93, Tryz.ntmps93
  go_wp2_with (first
    | (go_at_call 140; ((with_reducible refine (HN1.out _).mono ?_); rintro e w1 ⟨rfl, rfl⟩))
    | fail)
  go_ret
  exact ⟨rfl, by repeat (first | with_reducible exact Grew.refl _ | apply Grew.more | apply Grew.alloc | apply Grew.drew | apply Grew.drewN)⟩
open Classical in
theorem manRight_2 (c : MfC) (m : Gr.Mf) (w : World) (h : MfIs w c m) (hs : Small m.graph) (hp : ∀ s ∈ m.plan, s.nd.frm.length ≤ 100 ∧ s.nd.prog.length ≤ 1000) (he : m.ents.length ≤ 100000) (h1 : (numB m.epoch 2147483647) = true) (h2 : (numB m.plans 2147483647) = false) : Calls Tryz.prog 93 #[.agg #[.int .i64 c.epoch, .int .i64 c.plans, .slice c.ao c.no c.co, .slice c.ag c.ng c.cg, .slice c.ae c.ne c.ce, .slice c.ax c.nx c.cx, .slice c.ap c.np c.cp]] w (Gives (.bool false) w) := by
  have e1 := h.epoch
  have e2 := h.plans
  have HG := Lib.hid h.g
  have HO := Lib.hid h.o
  have HE := Lib.hid h.e
  have HX := Lib.hid h.x
  have HP := Lib.hid h.p
  have HS := Lib.hid hs
  have HPS := Lib.hid hp
  obtain ⟨ep, pl, ao, co, ag, cg, ae, ce, ax, cx, ap, cp, rfl⟩ := h.lit
  simp only at e1 e2 HG HO HE HX HP
  clear h hs hp
  have hn1 := fun W => packNum_any ep 2147483647 W
  rw [← e1, h1] at hn1
  have hn2 := fun W => packNum_any pl 2147483647 W
  rw [← e2, h2] at hn2
  rw [e1] at hn1
  rw [e2] at hn2
  have HN1 := Lib.hid hn1
  have HN2 := Lib.hid hn2
  clear hn1 e1 e2 h1 h2 hn2
  show Calls Tryz.prog _ #[.agg #[.int .i64 ep, .int .i64 pl, .slice ao m.offs.length co, .slice ag m.graph.length cg, .slice ae m.ents.length ce, .slice ax m.out.length cx, .slice ap m.plan.length cp]] w _
  go_enter Tryz.func93, Tryz.ntmps93
  go_wp2_with (first
    | (go_at_call 140; ((with_reducible refine (HN1.out _).mono ?_); rintro e w1 ⟨rfl, rfl⟩))
    | (go_at_call 140; ((with_reducible refine (HN2.out _).mono ?_); rintro e w1 ⟨rfl, rfl⟩))
    | fail)
  go_ret
  exact ⟨rfl, by repeat (first | with_reducible exact Grew.refl _ | apply Grew.more | apply Grew.alloc | apply Grew.drew | apply Grew.drewN)⟩
open Classical in
theorem manRight_3 (c : MfC) (m : Gr.Mf) (w : World) (h : MfIs w c m) (hs : Small m.graph) (hp : ∀ s ∈ m.plan, s.nd.frm.length ≤ 100 ∧ s.nd.prog.length ≤ 1000) (he : m.ents.length ≤ 100000) (h1 : (numB m.epoch 2147483647) = true) (h2 : (numB m.plans 2147483647) = true) (h3 : (decide (checkR m.graph = 0)) = false) : Calls Tryz.prog 93 #[.agg #[.int .i64 c.epoch, .int .i64 c.plans, .slice c.ao c.no c.co, .slice c.ag c.ng c.cg, .slice c.ae c.ne c.ce, .slice c.ax c.nx c.cx, .slice c.ap c.np c.cp]] w (Gives (.bool false) w) := by
  have e1 := h.epoch
  have e2 := h.plans
  have HG := Lib.hid h.g
  have HO := Lib.hid h.o
  have HE := Lib.hid h.e
  have HX := Lib.hid h.x
  have HP := Lib.hid h.p
  have HS := Lib.hid hs
  have HPS := Lib.hid hp
  obtain ⟨ep, pl, ao, co, ag, cg, ae, ce, ax, cx, ap, cp, rfl⟩ := h.lit
  simp only at e1 e2 HG HO HE HX HP
  clear h hs hp
  have hn1 := fun W => packNum_any ep 2147483647 W
  rw [← e1, h1] at hn1
  have hn2 := fun W => packNum_any pl 2147483647 W
  rw [← e2, h2] at hn2
  rw [e1] at hn1
  rw [e2] at hn2
  have HN1 := Lib.hid hn1
  have HN2 := Lib.hid hn2
  have hc0 : ¬ checkR m.graph = 0 := of_decide_eq_false h3
  have hc1 : (checkR m.graph != 0) = true := by rw [bne_iff_ne]; exact hc0
  clear hc0
  clear hn1 e1 e2 h1 h2 h3 hn2
  show Calls Tryz.prog _ #[.agg #[.int .i64 ep, .int .i64 pl, .slice ao m.offs.length co, .slice ag m.graph.length cg, .slice ae m.ents.length ce, .slice ax m.out.length cx, .slice ap m.plan.length cp]] w _
  go_enter Tryz.func93, Tryz.ntmps93
  go_wp2_with (first
    | (go_at_call 140; ((with_reducible refine (HN1.out _).mono ?_); rintro e w1 ⟨rfl, rfl⟩))
    | (go_at_call 140; ((with_reducible refine (HN2.out _).mono ?_); rintro e w1 ⟨rfl, rfl⟩))
    | (go_at_call 8; refine (check_graph _ m.graph _ (HG.out.grew (by repeat (first | with_reducible exact Grew.refl _ | apply Grew.more | apply Grew.alloc | apply Grew.drew | apply Grew.drewN))) HS.out).mono ?_; rintro e w1 ⟨rfl, R1, n1, rfl⟩)
    | fail)
  go_ret
  exact ⟨rfl, by repeat (first | with_reducible exact Grew.refl _ | apply Grew.more | apply Grew.alloc | apply Grew.drew | apply Grew.drewN)⟩
open Classical in
theorem manRight_4 (c : MfC) (m : Gr.Mf) (w : World) (h : MfIs w c m) (hs : Small m.graph) (hp : ∀ s ∈ m.plan, s.nd.frm.length ≤ 100 ∧ s.nd.prog.length ≤ 1000) (he : m.ents.length ≤ 100000) (h1 : (numB m.epoch 2147483647) = true) (h2 : (numB m.plans 2147483647) = true) (h3 : (decide (checkR m.graph = 0)) = true) (h4 : (sortedB m.graph) = false) : Calls Tryz.prog 93 #[.agg #[.int .i64 c.epoch, .int .i64 c.plans, .slice c.ao c.no c.co, .slice c.ag c.ng c.cg, .slice c.ae c.ne c.ce, .slice c.ax c.nx c.cx, .slice c.ap c.np c.cp]] w (Gives (.bool false) w) := by
  have e1 := h.epoch
  have e2 := h.plans
  have HG := Lib.hid h.g
  have HO := Lib.hid h.o
  have HE := Lib.hid h.e
  have HX := Lib.hid h.x
  have HP := Lib.hid h.p
  have HS := Lib.hid hs
  have HPS := Lib.hid hp
  obtain ⟨ep, pl, ao, co, ag, cg, ae, ce, ax, cx, ap, cp, rfl⟩ := h.lit
  simp only at e1 e2 HG HO HE HX HP
  clear h hs hp
  have hn1 := fun W => packNum_any ep 2147483647 W
  rw [← e1, h1] at hn1
  have hn2 := fun W => packNum_any pl 2147483647 W
  rw [← e2, h2] at hn2
  rw [e1] at hn1
  rw [e2] at hn2
  have HN1 := Lib.hid hn1
  have HN2 := Lib.hid hn2
  have hc0 : checkR m.graph = 0 := of_decide_eq_true h3
  have hrr := checkR_zero hc0
  have HC0 := Lib.hid hc0
  have HID := Lib.hid fun n (hn : n ∈ m.graph) => (show 0 ≤ n.id ∧ n.id ≤ 1000 from by have := hrr.r7 n hn; omega)
  have hgl : m.graph.length ≤ 1000 := by have := hrr.len; omega
  have H4 := Lib.hid h4
  clear hn1 e1 e2 h1 h2 h3 h4 hn2 hc0 hrr
  show Calls Tryz.prog _ #[.agg #[.int .i64 ep, .int .i64 pl, .slice ao m.offs.length co, .slice ag m.graph.length cg, .slice ae m.ents.length ce, .slice ax m.out.length cx, .slice ap m.plan.length cp]] w _
  go_enter Tryz.func93, Tryz.ntmps93
  go_wp2_with (first
    | (go_at_call 140; ((with_reducible refine (HN1.out _).mono ?_); rintro e w1 ⟨rfl, rfl⟩))
    | (go_at_call 140; ((with_reducible refine (HN2.out _).mono ?_); rintro e w1 ⟨rfl, rfl⟩))
    | (go_at_call 8; refine (check_graph _ m.graph _ (HG.out.grew (by repeat (first | with_reducible exact Grew.refl _ | apply Grew.more | apply Grew.alloc | apply Grew.drew | apply Grew.drewN))) HS.out).mono ?_; rintro e w1 ⟨rfl, R1, n1, rfl⟩; rw [HC0.out])
    | (go_at_call 141; refine (sorted_any _ m.graph _ (HG.out.grew (by repeat (first | with_reducible exact Grew.refl _ | apply Grew.more | apply Grew.alloc | apply Grew.drew | apply Grew.drewN))) HID.out (by omega)).mono ?_; rintro e w1 ⟨rfl, R2, n2, rfl⟩; rw [H4.out])
    | fail)
  go_ret
  exact ⟨rfl, by repeat (first | with_reducible exact Grew.refl _ | apply Grew.more | apply Grew.alloc | apply Grew.drew | apply Grew.drewN)⟩
open Classical in
theorem manRight_5 (c : MfC) (m : Gr.Mf) (w : World) (h : MfIs w c m) (hs : Small m.graph) (hp : ∀ s ∈ m.plan, s.nd.frm.length ≤ 100 ∧ s.nd.prog.length ≤ 1000) (he : m.ents.length ≤ 100000) (h1 : (numB m.epoch 2147483647) = true) (h2 : (numB m.plans 2147483647) = true) (h3 : (decide (checkR m.graph = 0)) = true) (h4 : (sortedB m.graph) = true) (h5 : (decide ((m.out.length : Int) ≤ 4000)) = false) : Calls Tryz.prog 93 #[.agg #[.int .i64 c.epoch, .int .i64 c.plans, .slice c.ao c.no c.co, .slice c.ag c.ng c.cg, .slice c.ae c.ne c.ce, .slice c.ax c.nx c.cx, .slice c.ap c.np c.cp]] w (Gives (.bool false) w) := by
  have e1 := h.epoch
  have e2 := h.plans
  have HG := Lib.hid h.g
  have HO := Lib.hid h.o
  have HE := Lib.hid h.e
  have HX := Lib.hid h.x
  have HP := Lib.hid h.p
  have HS := Lib.hid hs
  have HPS := Lib.hid hp
  obtain ⟨ep, pl, ao, co, ag, cg, ae, ce, ax, cx, ap, cp, rfl⟩ := h.lit
  simp only at e1 e2 HG HO HE HX HP
  clear h hs hp
  have hn1 := fun W => packNum_any ep 2147483647 W
  rw [← e1, h1] at hn1
  have hn2 := fun W => packNum_any pl 2147483647 W
  rw [← e2, h2] at hn2
  rw [e1] at hn1
  rw [e2] at hn2
  have HN1 := Lib.hid hn1
  have HN2 := Lib.hid hn2
  have hc0 : checkR m.graph = 0 := of_decide_eq_true h3
  have hrr := checkR_zero hc0
  have HC0 := Lib.hid hc0
  have HID := Lib.hid fun n (hn : n ∈ m.graph) => (show 0 ≤ n.id ∧ n.id ≤ 1000 from by have := hrr.r7 n hn; omega)
  have hgl : m.graph.length ≤ 1000 := by have := hrr.len; omega
  have H4 := Lib.hid h4
  have ho5 := of_decide_eq_false h5
  have ho6 : (4000 : Int) < (m.out.length : Int) := by omega
  clear ho5
  clear hn1 e1 e2 h1 h2 h3 h4 h5 hn2 hc0 hrr
  show Calls Tryz.prog _ #[.agg #[.int .i64 ep, .int .i64 pl, .slice ao m.offs.length co, .slice ag m.graph.length cg, .slice ae m.ents.length ce, .slice ax m.out.length cx, .slice ap m.plan.length cp]] w _
  go_enter Tryz.func93, Tryz.ntmps93
  go_wp2_with (first
    | (go_at_call 140; ((with_reducible refine (HN1.out _).mono ?_); rintro e w1 ⟨rfl, rfl⟩))
    | (go_at_call 140; ((with_reducible refine (HN2.out _).mono ?_); rintro e w1 ⟨rfl, rfl⟩))
    | (go_at_call 8; refine (check_graph _ m.graph _ (HG.out.grew (by repeat (first | with_reducible exact Grew.refl _ | apply Grew.more | apply Grew.alloc | apply Grew.drew | apply Grew.drewN))) HS.out).mono ?_; rintro e w1 ⟨rfl, R1, n1, rfl⟩; rw [HC0.out])
    | (go_at_call 141; refine (sorted_any _ m.graph _ (HG.out.grew (by repeat (first | with_reducible exact Grew.refl _ | apply Grew.more | apply Grew.alloc | apply Grew.drew | apply Grew.drewN))) HID.out (by omega)).mono ?_; rintro e w1 ⟨rfl, R2, n2, rfl⟩; rw [H4.out])
    | fail)
  go_ret
  exact ⟨rfl, by repeat (first | with_reducible exact Grew.refl _ | apply Grew.more | apply Grew.alloc | apply Grew.drew | apply Grew.drewN)⟩
open Classical in
theorem manRight_6 (c : MfC) (m : Gr.Mf) (w : World) (h : MfIs w c m) (hs : Small m.graph) (hp : ∀ s ∈ m.plan, s.nd.frm.length ≤ 100 ∧ s.nd.prog.length ≤ 1000) (he : m.ents.length ≤ 100000) (h1 : (numB m.epoch 2147483647) = true) (h2 : (numB m.plans 2147483647) = true) (h3 : (decide (checkR m.graph = 0)) = true) (h4 : (sortedB m.graph) = true) (h5 : (decide ((m.out.length : Int) ≤ 4000)) = true) (h6 : (plB m.plan) = false) : Calls Tryz.prog 93 #[.agg #[.int .i64 c.epoch, .int .i64 c.plans, .slice c.ao c.no c.co, .slice c.ag c.ng c.cg, .slice c.ae c.ne c.ce, .slice c.ax c.nx c.cx, .slice c.ap c.np c.cp]] w (Gives (.bool false) w) := by
  have e1 := h.epoch
  have e2 := h.plans
  have HG := Lib.hid h.g
  have HO := Lib.hid h.o
  have HE := Lib.hid h.e
  have HX := Lib.hid h.x
  have HP := Lib.hid h.p
  have HS := Lib.hid hs
  have HPS := Lib.hid hp
  obtain ⟨ep, pl, ao, co, ag, cg, ae, ce, ax, cx, ap, cp, rfl⟩ := h.lit
  simp only at e1 e2 HG HO HE HX HP
  clear h hs hp
  have hn1 := fun W => packNum_any ep 2147483647 W
  rw [← e1, h1] at hn1
  have hn2 := fun W => packNum_any pl 2147483647 W
  rw [← e2, h2] at hn2
  rw [e1] at hn1
  rw [e2] at hn2
  have HN1 := Lib.hid hn1
  have HN2 := Lib.hid hn2
  have hc0 : checkR m.graph = 0 := of_decide_eq_true h3
  have hrr := checkR_zero hc0
  have HC0 := Lib.hid hc0
  have HID := Lib.hid fun n (hn : n ∈ m.graph) => (show 0 ≤ n.id ∧ n.id ≤ 1000 from by have := hrr.r7 n hn; omega)
  have hgl : m.graph.length ≤ 1000 := by have := hrr.len; omega
  have H4 := Lib.hid h4
  have ho5 := of_decide_eq_true h5
  have ho6 : ¬ (4000 : Int) < (m.out.length : Int) := by omega
  clear ho5
  obtain ⟨src, hsrc⟩ := source_some hrr
  have hfi := fun W (g : Grew w W) => find_any _ m.graph 0 W (HG.out.grew g) HS.out
  rw [hsrc] at hfi
  have HF := Lib.hid hfi
  have hpo : parOf m.graph = src.par := by unfold parOf; rw [hsrc]
  have H6 := Lib.hid h6
  clear hn1 e1 e2 h1 h2 h3 h4 h5 h6 hn2 hc0 hfi hpo hsrc hrr
  show Calls Tryz.prog _ #[.agg #[.int .i64 ep, .int .i64 pl, .slice ao m.offs.length co, .slice ag m.graph.length cg, .slice ae m.ents.length ce, .slice ax m.out.length cx, .slice ap m.plan.length cp]] w _
  go_enter Tryz.func93, Tryz.ntmps93
  go_wp2_with (first
    | (go_at_call 140; ((with_reducible refine (HN1.out _).mono ?_); rintro e w1 ⟨rfl, rfl⟩))
    | (go_at_call 140; ((with_reducible refine (HN2.out _).mono ?_); rintro e w1 ⟨rfl, rfl⟩))
    | (go_at_call 8; refine (check_graph _ m.graph _ (HG.out.grew (by repeat (first | with_reducible exact Grew.refl _ | apply Grew.more | apply Grew.alloc | apply Grew.drew | apply Grew.drewN))) HS.out).mono ?_; rintro e w1 ⟨rfl, R1, n1, rfl⟩; rw [HC0.out])
    | (go_at_call 141; refine (sorted_any _ m.graph _ (HG.out.grew (by repeat (first | with_reducible exact Grew.refl _ | apply Grew.more | apply Grew.alloc | apply Grew.drew | apply Grew.drewN))) HID.out (by omega)).mono ?_; rintro e w1 ⟨rfl, R2, n2, rfl⟩; rw [H4.out])
    | (go_at_call 79; refine (HF.out _ (by repeat (first | with_reducible exact Grew.refl _ | apply Grew.more | apply Grew.alloc | apply Grew.drew | apply Grew.drewN))).mono ?_; rintro e w1 ⟨c9, rfl, h9, -, R3, n3, rfl⟩; (have hpar := h9.par); obtain ⟨cid, kind, af9, cf9, ap9, cp9, par, r0, r1, r2, r3, r4, r5, r6, r7, rfl⟩ := h9.lit; simp only at hpar; clear h9 hpar)
    | (go_at_call 145; refine (planned_any _ m.plan _ (HP.out.grew (by repeat (first | with_reducible exact Grew.refl _ | apply Grew.more | apply Grew.alloc | apply Grew.drew | apply Grew.drewN))) HPS.out).mono ?_; rintro e w1 ⟨rfl, R4, n4, rfl⟩; rw [H6.out])
    | fail)
  go_ret
  exact ⟨rfl, by repeat (first | with_reducible exact Grew.refl _ | apply Grew.more | apply Grew.alloc | apply Grew.drew | apply Grew.drewN)⟩
open Classical in
theorem manRight_7 (c : MfC) (m : Gr.Mf) (w : World) (h : MfIs w c m) (hs : Small m.graph) (hp : ∀ s ∈ m.plan, s.nd.frm.length ≤ 100 ∧ s.nd.prog.length ≤ 1000) (he : m.ents.length ≤ 100000) (h1 : (numB m.epoch 2147483647) = true) (h2 : (numB m.plans 2147483647) = true) (h3 : (decide (checkR m.graph = 0)) = true) (h4 : (sortedB m.graph) = true) (h5 : (decide ((m.out.length : Int) ≤ 4000)) = true) (h6 : (plB m.plan) = true) (h7 : (((m.offs.length : Int) == parOf m.graph)) = false) : Calls Tryz.prog 93 #[.agg #[.int .i64 c.epoch, .int .i64 c.plans, .slice c.ao c.no c.co, .slice c.ag c.ng c.cg, .slice c.ae c.ne c.ce, .slice c.ax c.nx c.cx, .slice c.ap c.np c.cp]] w (Gives (.bool false) w) := by
  have e1 := h.epoch
  have e2 := h.plans
  have HG := Lib.hid h.g
  have HO := Lib.hid h.o
  have HE := Lib.hid h.e
  have HX := Lib.hid h.x
  have HP := Lib.hid h.p
  have HS := Lib.hid hs
  have HPS := Lib.hid hp
  obtain ⟨ep, pl, ao, co, ag, cg, ae, ce, ax, cx, ap, cp, rfl⟩ := h.lit
  simp only at e1 e2 HG HO HE HX HP
  clear h hs hp
  have hn1 := fun W => packNum_any ep 2147483647 W
  rw [← e1, h1] at hn1
  have hn2 := fun W => packNum_any pl 2147483647 W
  rw [← e2, h2] at hn2
  rw [e1] at hn1
  rw [e2] at hn2
  have HN1 := Lib.hid hn1
  have HN2 := Lib.hid hn2
  have hc0 : checkR m.graph = 0 := of_decide_eq_true h3
  have hrr := checkR_zero hc0
  have HC0 := Lib.hid hc0
  have HID := Lib.hid fun n (hn : n ∈ m.graph) => (show 0 ≤ n.id ∧ n.id ≤ 1000 from by have := hrr.r7 n hn; omega)
  have hgl : m.graph.length ≤ 1000 := by have := hrr.len; omega
  have H4 := Lib.hid h4
  have ho5 := of_decide_eq_true h5
  have ho6 : ¬ (4000 : Int) < (m.out.length : Int) := by omega
  clear ho5
  obtain ⟨src, hsrc⟩ := source_some hrr
  have hfi := fun W (g : Grew w W) => find_any _ m.graph 0 W (HG.out.grew g) HS.out
  rw [hsrc] at hfi
  have HF := Lib.hid hfi
  have hpo : parOf m.graph = src.par := by unfold parOf; rw [hsrc]
  have QPAR : ((m.offs.length : Int) == src.par) = false := by rw [← hpo]; exact h7
  have H6 := Lib.hid h6
  clear hn1 e1 e2 h1 h2 h3 h4 h5 h6 h7 hn2 hc0 hfi hpo hsrc hrr
  show Calls Tryz.prog _ #[.agg #[.int .i64 ep, .int .i64 pl, .slice ao m.offs.length co, .slice ag m.graph.length cg, .slice ae m.ents.length ce, .slice ax m.out.length cx, .slice ap m.plan.length cp]] w _
  go_enter Tryz.func93, Tryz.ntmps93
  go_wp2_with (first
    | (go_at_call 140; ((with_reducible refine (HN1.out _).mono ?_); rintro e w1 ⟨rfl, rfl⟩))
    | (go_at_call 140; ((with_reducible refine (HN2.out _).mono ?_); rintro e w1 ⟨rfl, rfl⟩))
    | (go_at_call 8; refine (check_graph _ m.graph _ (HG.out.grew (by repeat (first | with_reducible exact Grew.refl _ | apply Grew.more | apply Grew.alloc | apply Grew.drew | apply Grew.drewN))) HS.out).mono ?_; rintro e w1 ⟨rfl, R1, n1, rfl⟩; rw [HC0.out])
    | (go_at_call 141; refine (sorted_any _ m.graph _ (HG.out.grew (by repeat (first | with_reducible exact Grew.refl _ | apply Grew.more | apply Grew.alloc | apply Grew.drew | apply Grew.drewN))) HID.out (by omega)).mono ?_; rintro e w1 ⟨rfl, R2, n2, rfl⟩; rw [H4.out])
    | (go_at_call 79; refine (HF.out _ (by repeat (first | with_reducible exact Grew.refl _ | apply Grew.more | apply Grew.alloc | apply Grew.drew | apply Grew.drewN))).mono ?_; rintro e w1 ⟨c9, rfl, h9, -, R3, n3, rfl⟩; (have hpar := h9.par); obtain ⟨cid, kind, af9, cf9, ap9, cp9, par, r0, r1, r2, r3, r4, r5, r6, r7, rfl⟩ := h9.lit; simp only at hpar; rw [hpar] at QPAR; clear h9 hpar)
    | (go_at_call 145; refine (planned_any _ m.plan _ (HP.out.grew (by repeat (first | with_reducible exact Grew.refl _ | apply Grew.more | apply Grew.alloc | apply Grew.drew | apply Grew.drewN))) HPS.out).mono ?_; rintro e w1 ⟨rfl, R4, n4, rfl⟩; rw [H6.out])
    | fail)
  go_ret
  exact ⟨rfl, by repeat (first | with_reducible exact Grew.refl _ | apply Grew.more | apply Grew.alloc | apply Grew.drew | apply Grew.drewN)⟩
open Classical in
theorem manRight_8 (c : MfC) (m : Gr.Mf) (w : World) (h : MfIs w c m) (hs : Small m.graph) (hp : ∀ s ∈ m.plan, s.nd.frm.length ≤ 100 ∧ s.nd.prog.length ≤ 1000) (he : m.ents.length ≤ 100000) (h1 : (numB m.epoch 2147483647) = true) (h2 : (numB m.plans 2147483647) = true) (h3 : (decide (checkR m.graph = 0)) = true) (h4 : (sortedB m.graph) = true) (h5 : (decide ((m.out.length : Int) ≤ 4000)) = true) (h6 : (plB m.plan) = true) (h7 : (((m.offs.length : Int) == parOf m.graph)) = true) (h8 : (!(m.offs.any fun x => !(numB x 400))) = false) : Calls Tryz.prog 93 #[.agg #[.int .i64 c.epoch, .int .i64 c.plans, .slice c.ao c.no c.co, .slice c.ag c.ng c.cg, .slice c.ae c.ne c.ce, .slice c.ax c.nx c.cx, .slice c.ap c.np c.cp]] w (Gives (.bool false) w) := by
  have e1 := h.epoch
  have e2 := h.plans
  have HG := Lib.hid h.g
  have HO := Lib.hid h.o
  have HE := Lib.hid h.e
  have HX := Lib.hid h.x
  have HP := Lib.hid h.p
  have HS := Lib.hid hs
  have HPS := Lib.hid hp
  obtain ⟨ep, pl, ao, co, ag, cg, ae, ce, ax, cx, ap, cp, rfl⟩ := h.lit
  simp only at e1 e2 HG HO HE HX HP
  clear h hs hp
  have hn1 := fun W => packNum_any ep 2147483647 W
  rw [← e1, h1] at hn1
  have hn2 := fun W => packNum_any pl 2147483647 W
  rw [← e2, h2] at hn2
  rw [e1] at hn1
  rw [e2] at hn2
  have HN1 := Lib.hid hn1
  have HN2 := Lib.hid hn2
  have hc0 : checkR m.graph = 0 := of_decide_eq_true h3
  have hrr := checkR_zero hc0
  have HC0 := Lib.hid hc0
  have HID := Lib.hid fun n (hn : n ∈ m.graph) => (show 0 ≤ n.id ∧ n.id ≤ 1000 from by have := hrr.r7 n hn; omega)
  have hgl : m.graph.length ≤ 1000 := by have := hrr.len; omega
  have H4 := Lib.hid h4
  have ho5 := of_decide_eq_true h5
  have ho6 : ¬ (4000 : Int) < (m.out.length : Int) := by omega
  clear ho5
  obtain ⟨src, hsrc⟩ := source_some hrr
  have hfi := fun W (g : Grew w W) => find_any _ m.graph 0 W (HG.out.grew g) HS.out
  rw [hsrc] at hfi
  have HF := Lib.hid hfi
  have hpo : parOf m.graph = src.par := by unfold parOf; rw [hsrc]
  have QPAR : ((m.offs.length : Int) == src.par) = true := by rw [← hpo]; exact h7
  have H6 := Lib.hid h6
  have h8b : (m.offs.any fun x => !(numB x 400)) = true := by cases hq : (m.offs.any fun x => !(numB x 400)) <;> rw [hq] at h8 <;> first | rfl | cases h8
  have H8 := Lib.hid h8b
  clear hn1 e1 e2 h1 h2 h3 h4 h5 h6 h7 h8 hn2 hc0 hfi hpo hsrc hrr h8b
  show Calls Tryz.prog _ #[.agg #[.int .i64 ep, .int .i64 pl, .slice ao m.offs.length co, .slice ag m.graph.length cg, .slice ae m.ents.length ce, .slice ax m.out.length cx, .slice ap m.plan.length cp]] w _
  go_enter Tryz.func93, Tryz.ntmps93
  go_wp2_with (first
    | (go_at_call 140; ((with_reducible refine (HN1.out _).mono ?_); rintro e w1 ⟨rfl, rfl⟩))
    | (go_at_call 140; ((with_reducible refine (HN2.out _).mono ?_); rintro e w1 ⟨rfl, rfl⟩))
    | (go_at_call 8; refine (check_graph _ m.graph _ (HG.out.grew (by repeat (first | with_reducible exact Grew.refl _ | apply Grew.more | apply Grew.alloc | apply Grew.drew | apply Grew.drewN))) HS.out).mono ?_; rintro e w1 ⟨rfl, R1, n1, rfl⟩; rw [HC0.out])
    | (go_at_call 141; refine (sorted_any _ m.graph _ (HG.out.grew (by repeat (first | with_reducible exact Grew.refl _ | apply Grew.more | apply Grew.alloc | apply Grew.drew | apply Grew.drewN))) HID.out (by omega)).mono ?_; rintro e w1 ⟨rfl, R2, n2, rfl⟩; rw [H4.out])
    | (go_at_call 79; refine (HF.out _ (by repeat (first | with_reducible exact Grew.refl _ | apply Grew.more | apply Grew.alloc | apply Grew.drew | apply Grew.drewN))).mono ?_; rintro e w1 ⟨c9, rfl, h9, -, R3, n3, rfl⟩; (have hpar := h9.par); obtain ⟨cid, kind, af9, cf9, ap9, cp9, par, r0, r1, r2, r3, r4, r5, r6, r7, rfl⟩ := h9.lit; simp only at hpar; rw [hpar] at QPAR; clear h9 hpar)
    | (go_at_call 145; refine (planned_any _ m.plan _ (HP.out.grew (by repeat (first | with_reducible exact Grew.refl _ | apply Grew.more | apply Grew.alloc | apply Grew.drew | apply Grew.drewN))) HPS.out).mono ?_; rintro e w1 ⟨rfl, R4, n4, rfl⟩; rw [H6.out])
    | (go_at_call 82; refine (containsIn_any _ m.offs (fun x => !(numB x 400)) _ (HO.out.grew (by repeat (first | with_reducible exact Grew.refl _ | apply Grew.more | apply Grew.alloc | apply Grew.drew | apply Grew.drewN))) (fun W x _ _ => right1_any x W)).mono ?_; rintro e w1 ⟨rfl, R5, n5, rfl⟩; rw [H8.out])
    | fail)
  go_ret
  exact ⟨rfl, by repeat (first | with_reducible exact Grew.refl _ | apply Grew.more | apply Grew.alloc | apply Grew.drew | apply Grew.drewN)⟩
open Classical in
theorem manRight_9 (c : MfC) (m : Gr.Mf) (w : World) (h : MfIs w c m) (hs : Small m.graph) (hp : ∀ s ∈ m.plan, s.nd.frm.length ≤ 100 ∧ s.nd.prog.length ≤ 1000) (he : m.ents.length ≤ 100000) (h1 : (numB m.epoch 2147483647) = true) (h2 : (numB m.plans 2147483647) = true) (h3 : (decide (checkR m.graph = 0)) = true) (h4 : (sortedB m.graph) = true) (h5 : (decide ((m.out.length : Int) ≤ 4000)) = true) (h6 : (plB m.plan) = true) (h7 : (((m.offs.length : Int) == parOf m.graph)) = true) (h8 : (!(m.offs.any fun x => !(numB x 400))) = true) (h9 : (entB m.ents m.graph) = false) : Calls Tryz.prog 93 #[.agg #[.int .i64 c.epoch, .int .i64 c.plans, .slice c.ao c.no c.co, .slice c.ag c.ng c.cg, .slice c.ae c.ne c.ce, .slice c.ax c.nx c.cx, .slice c.ap c.np c.cp]] w (Gives (.bool false) w) := by
  have e1 := h.epoch
  have e2 := h.plans
  have HG := Lib.hid h.g
  have HO := Lib.hid h.o
  have HE := Lib.hid h.e
  have HX := Lib.hid h.x
  have HP := Lib.hid h.p
  have HS := Lib.hid hs
  have HPS := Lib.hid hp
  obtain ⟨ep, pl, ao, co, ag, cg, ae, ce, ax, cx, ap, cp, rfl⟩ := h.lit
  simp only at e1 e2 HG HO HE HX HP
  clear h hs hp
  have hn1 := fun W => packNum_any ep 2147483647 W
  rw [← e1, h1] at hn1
  have hn2 := fun W => packNum_any pl 2147483647 W
  rw [← e2, h2] at hn2
  rw [e1] at hn1
  rw [e2] at hn2
  have HN1 := Lib.hid hn1
  have HN2 := Lib.hid hn2
  have hc0 : checkR m.graph = 0 := of_decide_eq_true h3
  have hrr := checkR_zero hc0
  have HC0 := Lib.hid hc0
  have HID := Lib.hid fun n (hn : n ∈ m.graph) => (show 0 ≤ n.id ∧ n.id ≤ 1000 from by have := hrr.r7 n hn; omega)
  have hgl : m.graph.length ≤ 1000 := by have := hrr.len; omega
  have H4 := Lib.hid h4
  have ho5 := of_decide_eq_true h5
  have ho6 : ¬ (4000 : Int) < (m.out.length : Int) := by omega
  clear ho5
  obtain ⟨src, hsrc⟩ := source_some hrr
  have hfi := fun W (g : Grew w W) => find_any _ m.graph 0 W (HG.out.grew g) HS.out
  rw [hsrc] at hfi
  have HF := Lib.hid hfi
  have hpo : parOf m.graph = src.par := by unfold parOf; rw [hsrc]
  have QPAR : ((m.offs.length : Int) == src.par) = true := by rw [← hpo]; exact h7
  have H6 := Lib.hid h6
  have h8b : (m.offs.any fun x => !(numB x 400)) = false := by cases hq : (m.offs.any fun x => !(numB x 400)) <;> rw [hq] at h8 <;> first | rfl | cases h8
  have H8 := Lib.hid h8b
  have H9 := Lib.hid h9
  clear hn1 e1 e2 h1 h2 h3 h4 h5 h6 h7 h8 h9 hn2 hc0 hfi hpo hsrc hrr h8b
  show Calls Tryz.prog _ #[.agg #[.int .i64 ep, .int .i64 pl, .slice ao m.offs.length co, .slice ag m.graph.length cg, .slice ae m.ents.length ce, .slice ax m.out.length cx, .slice ap m.plan.length cp]] w _
  go_enter Tryz.func93, Tryz.ntmps93
  go_wp2_with (first
    | (go_at_call 140; ((with_reducible refine (HN1.out _).mono ?_); rintro e w1 ⟨rfl, rfl⟩))
    | (go_at_call 140; ((with_reducible refine (HN2.out _).mono ?_); rintro e w1 ⟨rfl, rfl⟩))
    | (go_at_call 8; refine (check_graph _ m.graph _ (HG.out.grew (by repeat (first | with_reducible exact Grew.refl _ | apply Grew.more | apply Grew.alloc | apply Grew.drew | apply Grew.drewN))) HS.out).mono ?_; rintro e w1 ⟨rfl, R1, n1, rfl⟩; rw [HC0.out])
    | (go_at_call 141; refine (sorted_any _ m.graph _ (HG.out.grew (by repeat (first | with_reducible exact Grew.refl _ | apply Grew.more | apply Grew.alloc | apply Grew.drew | apply Grew.drewN))) HID.out (by omega)).mono ?_; rintro e w1 ⟨rfl, R2, n2, rfl⟩; rw [H4.out])
    | (go_at_call 79; refine (HF.out _ (by repeat (first | with_reducible exact Grew.refl _ | apply Grew.more | apply Grew.alloc | apply Grew.drew | apply Grew.drewN))).mono ?_; rintro e w1 ⟨c9, rfl, h9, -, R3, n3, rfl⟩; (have hpar := h9.par); obtain ⟨cid, kind, af9, cf9, ap9, cp9, par, r0, r1, r2, r3, r4, r5, r6, r7, rfl⟩ := h9.lit; simp only at hpar; rw [hpar] at QPAR; clear h9 hpar)
    | (go_at_call 145; refine (planned_any _ m.plan _ (HP.out.grew (by repeat (first | with_reducible exact Grew.refl _ | apply Grew.more | apply Grew.alloc | apply Grew.drew | apply Grew.drewN))) HPS.out).mono ?_; rintro e w1 ⟨rfl, R4, n4, rfl⟩; rw [H6.out])
    | (go_at_call 82; refine (containsIn_any _ m.offs (fun x => !(numB x 400)) _ (HO.out.grew (by repeat (first | with_reducible exact Grew.refl _ | apply Grew.more | apply Grew.alloc | apply Grew.drew | apply Grew.drewN))) (fun W x _ _ => right1_any x W)).mono ?_; rintro e w1 ⟨rfl, R5, n5, rfl⟩; rw [H8.out])
    | (go_at_call 146; refine (entries_any _ _ m.ents m.graph _ (HE.out.grew (by repeat (first | with_reducible exact Grew.refl _ | apply Grew.more | apply Grew.alloc | apply Grew.drew | apply Grew.drewN))) (HG.out.grew (by repeat (first | with_reducible exact Grew.refl _ | apply Grew.more | apply Grew.alloc | apply Grew.drew | apply Grew.drewN))) HS.out he).mono ?_; rintro e w1 ⟨rfl, R6, n6, rfl⟩; rw [H9.out])
    | fail)
  go_ret
  exact ⟨rfl, by repeat (first | with_reducible exact Grew.refl _ | apply Grew.more | apply Grew.alloc | apply Grew.drew | apply Grew.drewN)⟩
open Classical in
theorem manRight_10 (c : MfC) (m : Gr.Mf) (w : World) (h : MfIs w c m) (hs : Small m.graph) (hp : ∀ s ∈ m.plan, s.nd.frm.length ≤ 100 ∧ s.nd.prog.length ≤ 1000) (he : m.ents.length ≤ 100000) (h1 : (numB m.epoch 2147483647) = true) (h2 : (numB m.plans 2147483647) = true) (h3 : (decide (checkR m.graph = 0)) = true) (h4 : (sortedB m.graph) = true) (h5 : (decide ((m.out.length : Int) ≤ 4000)) = true) (h6 : (plB m.plan) = true) (h7 : (((m.offs.length : Int) == parOf m.graph)) = true) (h8 : (!(m.offs.any fun x => !(numB x 400))) = true) (h9 : (entB m.ents m.graph) = true) (h10 : (!(m.out.any fun x => !(lineB x))) = false) : Calls Tryz.prog 93 #[.agg #[.int .i64 c.epoch, .int .i64 c.plans, .slice c.ao c.no c.co, .slice c.ag c.ng c.cg, .slice c.ae c.ne c.ce, .slice c.ax c.nx c.cx, .slice c.ap c.np c.cp]] w (Gives (.bool false) w) := by
  have e1 := h.epoch
  have e2 := h.plans
  have HG := Lib.hid h.g
  have HO := Lib.hid h.o
  have HE := Lib.hid h.e
  have HX := Lib.hid h.x
  have HP := Lib.hid h.p
  have HS := Lib.hid hs
  have HPS := Lib.hid hp
  obtain ⟨ep, pl, ao, co, ag, cg, ae, ce, ax, cx, ap, cp, rfl⟩ := h.lit
  simp only at e1 e2 HG HO HE HX HP
  clear h hs hp
  have hn1 := fun W => packNum_any ep 2147483647 W
  rw [← e1, h1] at hn1
  have hn2 := fun W => packNum_any pl 2147483647 W
  rw [← e2, h2] at hn2
  rw [e1] at hn1
  rw [e2] at hn2
  have HN1 := Lib.hid hn1
  have HN2 := Lib.hid hn2
  have hc0 : checkR m.graph = 0 := of_decide_eq_true h3
  have hrr := checkR_zero hc0
  have HC0 := Lib.hid hc0
  have HID := Lib.hid fun n (hn : n ∈ m.graph) => (show 0 ≤ n.id ∧ n.id ≤ 1000 from by have := hrr.r7 n hn; omega)
  have hgl : m.graph.length ≤ 1000 := by have := hrr.len; omega
  have H4 := Lib.hid h4
  have ho5 := of_decide_eq_true h5
  have ho6 : ¬ (4000 : Int) < (m.out.length : Int) := by omega
  clear ho5
  obtain ⟨src, hsrc⟩ := source_some hrr
  have hfi := fun W (g : Grew w W) => find_any _ m.graph 0 W (HG.out.grew g) HS.out
  rw [hsrc] at hfi
  have HF := Lib.hid hfi
  have hpo : parOf m.graph = src.par := by unfold parOf; rw [hsrc]
  have QPAR : ((m.offs.length : Int) == src.par) = true := by rw [← hpo]; exact h7
  have H6 := Lib.hid h6
  have h8b : (m.offs.any fun x => !(numB x 400)) = false := by cases hq : (m.offs.any fun x => !(numB x 400)) <;> rw [hq] at h8 <;> first | rfl | cases h8
  have H8 := Lib.hid h8b
  have h10b : (m.out.any fun x => !(lineB x)) = true := by cases hq : (m.out.any fun x => !(lineB x)) <;> rw [hq] at h10 <;> first | rfl | cases h10
  have H10 := Lib.hid h10b
  have H9 := Lib.hid h9
  clear hn1 e1 e2 h1 h2 h3 h4 h5 h6 h7 h8 h9 h10 hn2 hc0 hfi hpo hsrc hrr h8b h10b
  show Calls Tryz.prog _ #[.agg #[.int .i64 ep, .int .i64 pl, .slice ao m.offs.length co, .slice ag m.graph.length cg, .slice ae m.ents.length ce, .slice ax m.out.length cx, .slice ap m.plan.length cp]] w _
  go_enter Tryz.func93, Tryz.ntmps93
  go_wp2_with (first
    | (go_at_call 140; ((with_reducible refine (HN1.out _).mono ?_); rintro e w1 ⟨rfl, rfl⟩))
    | (go_at_call 140; ((with_reducible refine (HN2.out _).mono ?_); rintro e w1 ⟨rfl, rfl⟩))
    | (go_at_call 8; refine (check_graph _ m.graph _ (HG.out.grew (by repeat (first | with_reducible exact Grew.refl _ | apply Grew.more | apply Grew.alloc | apply Grew.drew | apply Grew.drewN))) HS.out).mono ?_; rintro e w1 ⟨rfl, R1, n1, rfl⟩; rw [HC0.out])
    | (go_at_call 141; refine (sorted_any _ m.graph _ (HG.out.grew (by repeat (first | with_reducible exact Grew.refl _ | apply Grew.more | apply Grew.alloc | apply Grew.drew | apply Grew.drewN))) HID.out (by omega)).mono ?_; rintro e w1 ⟨rfl, R2, n2, rfl⟩; rw [H4.out])
    | (go_at_call 79; refine (HF.out _ (by repeat (first | with_reducible exact Grew.refl _ | apply Grew.more | apply Grew.alloc | apply Grew.drew | apply Grew.drewN))).mono ?_; rintro e w1 ⟨c9, rfl, h9, -, R3, n3, rfl⟩; (have hpar := h9.par); obtain ⟨cid, kind, af9, cf9, ap9, cp9, par, r0, r1, r2, r3, r4, r5, r6, r7, rfl⟩ := h9.lit; simp only at hpar; rw [hpar] at QPAR; clear h9 hpar)
    | (go_at_call 145; refine (planned_any _ m.plan _ (HP.out.grew (by repeat (first | with_reducible exact Grew.refl _ | apply Grew.more | apply Grew.alloc | apply Grew.drew | apply Grew.drewN))) HPS.out).mono ?_; rintro e w1 ⟨rfl, R4, n4, rfl⟩; rw [H6.out])
    | (go_at_call 82; refine (containsIn_any _ m.offs (fun x => !(numB x 400)) _ (HO.out.grew (by repeat (first | with_reducible exact Grew.refl _ | apply Grew.more | apply Grew.alloc | apply Grew.drew | apply Grew.drewN))) (fun W x _ _ => right1_any x W)).mono ?_; rintro e w1 ⟨rfl, R5, n5, rfl⟩; rw [H8.out])
    | (go_at_call 146; refine (entries_any _ _ m.ents m.graph _ (HE.out.grew (by repeat (first | with_reducible exact Grew.refl _ | apply Grew.more | apply Grew.alloc | apply Grew.drew | apply Grew.drewN))) (HG.out.grew (by repeat (first | with_reducible exact Grew.refl _ | apply Grew.more | apply Grew.alloc | apply Grew.drew | apply Grew.drewN))) HS.out he).mono ?_; rintro e w1 ⟨rfl, R6, n6, rfl⟩; rw [H9.out])
    | (go_at_call 147; refine (containsLn_any _ m.out (fun x => !(lineB x)) _ (HX.out.grew (by repeat (first | with_reducible exact Grew.refl _ | apply Grew.more | apply Grew.alloc | apply Grew.drew | apply Grew.drewN))) (fun W x _ _ => right2_any x W)).mono ?_; rintro e w1 ⟨rfl, R7, n7, rfl⟩; rw [H10.out])
    | fail)
  go_ret
  exact ⟨rfl, by repeat (first | with_reducible exact Grew.refl _ | apply Grew.more | apply Grew.alloc | apply Grew.drew | apply Grew.drewN)⟩
open Classical in
theorem manRight_11 (c : MfC) (m : Gr.Mf) (w : World) (h : MfIs w c m) (hs : Small m.graph) (hp : ∀ s ∈ m.plan, s.nd.frm.length ≤ 100 ∧ s.nd.prog.length ≤ 1000) (he : m.ents.length ≤ 100000) (h1 : (numB m.epoch 2147483647) = true) (h2 : (numB m.plans 2147483647) = true) (h3 : (decide (checkR m.graph = 0)) = true) (h4 : (sortedB m.graph) = true) (h5 : (decide ((m.out.length : Int) ≤ 4000)) = true) (h6 : (plB m.plan) = true) (h7 : (((m.offs.length : Int) == parOf m.graph)) = true) (h8 : (!(m.offs.any fun x => !(numB x 400))) = true) (h9 : (entB m.ents m.graph) = true) (h10 : (!(m.out.any fun x => !(lineB x))) = true) : Calls Tryz.prog 93 #[.agg #[.int .i64 c.epoch, .int .i64 c.plans, .slice c.ao c.no c.co, .slice c.ag c.ng c.cg, .slice c.ae c.ne c.ce, .slice c.ax c.nx c.cx, .slice c.ap c.np c.cp]] w (Gives (.bool true) w) := by
  have e1 := h.epoch
  have e2 := h.plans
  have HG := Lib.hid h.g
  have HO := Lib.hid h.o
  have HE := Lib.hid h.e
  have HX := Lib.hid h.x
  have HP := Lib.hid h.p
  have HS := Lib.hid hs
  have HPS := Lib.hid hp
  obtain ⟨ep, pl, ao, co, ag, cg, ae, ce, ax, cx, ap, cp, rfl⟩ := h.lit
  simp only at e1 e2 HG HO HE HX HP
  clear h hs hp
  have hn1 := fun W => packNum_any ep 2147483647 W
  rw [← e1, h1] at hn1
  have hn2 := fun W => packNum_any pl 2147483647 W
  rw [← e2, h2] at hn2
  rw [e1] at hn1
  rw [e2] at hn2
  have HN1 := Lib.hid hn1
  have HN2 := Lib.hid hn2
  have hc0 : checkR m.graph = 0 := of_decide_eq_true h3
  have hrr := checkR_zero hc0
  have HC0 := Lib.hid hc0
  have HID := Lib.hid fun n (hn : n ∈ m.graph) => (show 0 ≤ n.id ∧ n.id ≤ 1000 from by have := hrr.r7 n hn; omega)
  have hgl : m.graph.length ≤ 1000 := by have := hrr.len; omega
  have H4 := Lib.hid h4
  have ho5 := of_decide_eq_true h5
  have ho6 : ¬ (4000 : Int) < (m.out.length : Int) := by omega
  clear ho5
  obtain ⟨src, hsrc⟩ := source_some hrr
  have hfi := fun W (g : Grew w W) => find_any _ m.graph 0 W (HG.out.grew g) HS.out
  rw [hsrc] at hfi
  have HF := Lib.hid hfi
  have hpo : parOf m.graph = src.par := by unfold parOf; rw [hsrc]
  have QPAR : ((m.offs.length : Int) == src.par) = true := by rw [← hpo]; exact h7
  have H6 := Lib.hid h6
  have h8b : (m.offs.any fun x => !(numB x 400)) = false := by cases hq : (m.offs.any fun x => !(numB x 400)) <;> rw [hq] at h8 <;> first | rfl | cases h8
  have H8 := Lib.hid h8b
  have h10b : (m.out.any fun x => !(lineB x)) = false := by cases hq : (m.out.any fun x => !(lineB x)) <;> rw [hq] at h10 <;> first | rfl | cases h10
  have H10 := Lib.hid h10b
  have H9 := Lib.hid h9
  clear hn1 e1 e2 h1 h2 h3 h4 h5 h6 h7 h8 h9 h10 hn2 hc0 hfi hpo hsrc hrr h8b h10b
  show Calls Tryz.prog _ #[.agg #[.int .i64 ep, .int .i64 pl, .slice ao m.offs.length co, .slice ag m.graph.length cg, .slice ae m.ents.length ce, .slice ax m.out.length cx, .slice ap m.plan.length cp]] w _
  go_enter Tryz.func93, Tryz.ntmps93
  go_wp2_with (first
    | (go_at_call 140; ((with_reducible refine (HN1.out _).mono ?_); rintro e w1 ⟨rfl, rfl⟩))
    | (go_at_call 140; ((with_reducible refine (HN2.out _).mono ?_); rintro e w1 ⟨rfl, rfl⟩))
    | (go_at_call 8; refine (check_graph _ m.graph _ (HG.out.grew (by repeat (first | with_reducible exact Grew.refl _ | apply Grew.more | apply Grew.alloc | apply Grew.drew | apply Grew.drewN))) HS.out).mono ?_; rintro e w1 ⟨rfl, R1, n1, rfl⟩; rw [HC0.out])
    | (go_at_call 141; refine (sorted_any _ m.graph _ (HG.out.grew (by repeat (first | with_reducible exact Grew.refl _ | apply Grew.more | apply Grew.alloc | apply Grew.drew | apply Grew.drewN))) HID.out (by omega)).mono ?_; rintro e w1 ⟨rfl, R2, n2, rfl⟩; rw [H4.out])
    | (go_at_call 79; refine (HF.out _ (by repeat (first | with_reducible exact Grew.refl _ | apply Grew.more | apply Grew.alloc | apply Grew.drew | apply Grew.drewN))).mono ?_; rintro e w1 ⟨c9, rfl, h9, -, R3, n3, rfl⟩; (have hpar := h9.par); obtain ⟨cid, kind, af9, cf9, ap9, cp9, par, r0, r1, r2, r3, r4, r5, r6, r7, rfl⟩ := h9.lit; simp only at hpar; rw [hpar] at QPAR; clear h9 hpar)
    | (go_at_call 145; refine (planned_any _ m.plan _ (HP.out.grew (by repeat (first | with_reducible exact Grew.refl _ | apply Grew.more | apply Grew.alloc | apply Grew.drew | apply Grew.drewN))) HPS.out).mono ?_; rintro e w1 ⟨rfl, R4, n4, rfl⟩; rw [H6.out])
    | (go_at_call 82; refine (containsIn_any _ m.offs (fun x => !(numB x 400)) _ (HO.out.grew (by repeat (first | with_reducible exact Grew.refl _ | apply Grew.more | apply Grew.alloc | apply Grew.drew | apply Grew.drewN))) (fun W x _ _ => right1_any x W)).mono ?_; rintro e w1 ⟨rfl, R5, n5, rfl⟩; rw [H8.out])
    | (go_at_call 146; refine (entries_any _ _ m.ents m.graph _ (HE.out.grew (by repeat (first | with_reducible exact Grew.refl _ | apply Grew.more | apply Grew.alloc | apply Grew.drew | apply Grew.drewN))) (HG.out.grew (by repeat (first | with_reducible exact Grew.refl _ | apply Grew.more | apply Grew.alloc | apply Grew.drew | apply Grew.drewN))) HS.out he).mono ?_; rintro e w1 ⟨rfl, R6, n6, rfl⟩; rw [H9.out])
    | (go_at_call 147; refine (containsLn_any _ m.out (fun x => !(lineB x)) _ (HX.out.grew (by repeat (first | with_reducible exact Grew.refl _ | apply Grew.more | apply Grew.alloc | apply Grew.drew | apply Grew.drewN))) (fun W x _ _ => right2_any x W)).mono ?_; rintro e w1 ⟨rfl, R7, n7, rfl⟩; rw [H10.out])
    | fail)
  go_ret
  exact ⟨rfl, by repeat (first | with_reducible exact Grew.refl _ | apply Grew.more | apply Grew.alloc | apply Grew.drew | apply Grew.drewN)⟩
open Classical in
theorem manRight_any (c : MfC) (m : Gr.Mf) (w : World) (h : MfIs w c m) (hs : Small m.graph) (hp : ∀ s ∈ m.plan, s.nd.frm.length ≤ 100 ∧ s.nd.prog.length ≤ 1000) (he : m.ents.length ≤ 100000) : Calls Tryz.prog 93 #[.agg #[.int .i64 c.epoch, .int .i64 c.plans, .slice c.ao c.no c.co, .slice c.ag c.ng c.cg, .slice c.ae c.ne c.ce, .slice c.ax c.nx c.cx, .slice c.ap c.np c.cp]] w (Gives (.bool (rightB m)) w) := by
  cases h1 : (numB m.epoch 2147483647)
  · have hr : rightB m = false := by unfold rightB; rw [h1]; rfl
    rw [hr]
    exact manRight_1 c m w h hs hp he h1
  cases h2 : (numB m.plans 2147483647)
  · have hr : rightB m = false := by unfold rightB; rw [h1, h2]; rfl
    rw [hr]
    exact manRight_2 c m w h hs hp he h1 h2
  cases h3 : (decide (checkR m.graph = 0))
  · have hr : rightB m = false := by unfold rightB; rw [h1, h2, h3]; rfl
    rw [hr]
    exact manRight_3 c m w h hs hp he h1 h2 h3
  cases h4 : (sortedB m.graph)
  · have hr : rightB m = false := by unfold rightB; rw [h1, h2, h3, h4]; rfl
    rw [hr]
    exact manRight_4 c m w h hs hp he h1 h2 h3 h4
  cases h5 : (decide ((m.out.length : Int) ≤ 4000))
  · have hr : rightB m = false := by unfold rightB; rw [h1, h2, h3, h4, h5]; rfl
    rw [hr]
    exact manRight_5 c m w h hs hp he h1 h2 h3 h4 h5
  cases h6 : (plB m.plan)
  · have hr : rightB m = false := by unfold rightB; rw [h1, h2, h3, h4, h5, h6]; rfl
    rw [hr]
    exact manRight_6 c m w h hs hp he h1 h2 h3 h4 h5 h6
  cases h7 : (((m.offs.length : Int) == parOf m.graph))
  · have hr : rightB m = false := by unfold rightB; rw [h1, h2, h3, h4, h5, h6, h7]; rfl
    rw [hr]
    exact manRight_7 c m w h hs hp he h1 h2 h3 h4 h5 h6 h7
  cases h8 : (!(m.offs.any fun x => !(numB x 400)))
  · have hr : rightB m = false := by unfold rightB; rw [h1, h2, h3, h4, h5, h6, h7, h8]; rfl
    rw [hr]
    exact manRight_8 c m w h hs hp he h1 h2 h3 h4 h5 h6 h7 h8
  cases h9 : (entB m.ents m.graph)
  · have hr : rightB m = false := by unfold rightB; rw [h1, h2, h3, h4, h5, h6, h7, h8, h9]; rfl
    rw [hr]
    exact manRight_9 c m w h hs hp he h1 h2 h3 h4 h5 h6 h7 h8 h9
  cases h10 : (!(m.out.any fun x => !(lineB x)))
  · have hr : rightB m = false := by unfold rightB; rw [h1, h2, h3, h4, h5, h6, h7, h8, h9, h10]; rfl
    rw [hr]
    exact manRight_10 c m w h hs hp he h1 h2 h3 h4 h5 h6 h7 h8 h9 h10
  have hr : rightB m = true := by unfold rightB; rw [h1, h2, h3, h4, h5, h6, h7, h8, h9, h10]; rfl
  rw [hr]
  exact manRight_11 c m w h hs hp he h1 h2 h3 h4 h5 h6 h7 h8 h9 h10

def srtE (l : List Tab.En) : List Tab.En := l.mergeSort fun a b => decide (Tab.num a ≤ Tab.num b)
theorem srtE_perm (l : List Tab.En) : (srtE l).Perm l := List.mergeSort_perm l _
theorem srtE_sorted (l : List Tab.En) : (srtE l).Pairwise fun a b => Tab.num a ≤ Tab.num b := by
  have := List.pairwise_mergeSort (le := fun a b : Tab.En => decide (Tab.num a ≤ Tab.num b)) (fun a b c h1 h2 => by simp at *; omega) (fun a b => by simp; omega) l
  exact this.imp fun h => by simpa using h
theorem badE_no {g : List Gr.Nd} {x : Tab.En} : badE g x = false ↔ ∃ n, Gr.nodeOf g x.node = some n ∧ n.kind = 1 := by
  unfold badE
  cases h : Gr.nodeOf g x.node with
  | none => simp
  | some n =>
    simp only [Option.some.injEq]
    constructor
    · intro hk
      exact ⟨n, rfl, by simpa using hk⟩
    · rintro ⟨m, rfl, hk⟩
      simp [hk]
theorem lineB_iff {x : Gr.Ln} : lineB x = true ↔ (0 ≤ x.sink ∧ x.sink ≤ 7) ∧ (0 ≤ x.frm ∧ x.frm ≤ 7) ∧ (0 ≤ x.key ∧ x.key < 64) ∧ rightV x.v = true := by
  unfold lineB
  simp only [Bool.and_eq_true, numB_iff]
  constructor
  · rintro ⟨h1, h2, h3, h4⟩
    exact ⟨h1, h2, ⟨h3.1, by omega⟩, h4⟩
  · rintro ⟨h1, h2, h3, h4⟩
    exact ⟨h1, h2, ⟨h3.1, by omega⟩, h4⟩
theorem okEn_iff {x : Tab.En} : okEn x = true ↔ (0 ≤ x.node ∧ x.node < 8) ∧ (0 ≤ x.key ∧ x.key < 64) ∧ rightV x.c0 = true ∧ rightV x.c1 = true := by
  unfold okEn
  rw [Bool.and_eq_true, Bool.and_eq_true, thereB_iff]
  unfold There
  exact ⟨fun ⟨⟨a, b⟩, c, d⟩ => ⟨a, b, c, d⟩, fun ⟨a, b, c, d⟩ => ⟨⟨a, b⟩, c, d⟩⟩
theorem any_not {α : Type} {l : List α} {p : α → Bool} : (!(l.any fun x => !(p x))) = true ↔ ∀ x ∈ l, p x = true := by
  rw [Bool.not_eq_true', List.any_eq_false]
  constructor
  · intro h x hx
    have := h x hx
    simpa using this
  · intro h x hx
    rw [h x hx]
    simp
open Classical in
theorem entB_iff {l : List Tab.En} {g : List Gr.Nd} : entB l g = true ↔ (∀ x ∈ l, okEn x = true) ∧ ((l.Pairwise fun a b => Tab.num a < Tab.num b) ∧ ∀ x ∈ l, Tab.nz x = true) ∧ ∀ x ∈ l, badE g x = false := by
  unfold entB newOk
  rw [Bool.and_eq_true, Bool.and_eq_true, List.all_eq_true, decide_eq_true_eq, Bool.not_eq_true', List.any_eq_false]
  refine ⟨fun ⟨h1, h2, h3⟩ => ⟨h1, h2, fun x hx => ?_⟩, fun ⟨h1, h2, h3⟩ => ⟨h1, h2, fun x hx => ?_⟩⟩
  · have := h3 x hx
    simpa using this
  · rw [h3 x hx]
    simp
open Classical in
theorem plB_iff {p : List Gr.Stp} : plB p = true ↔ p = [] ∨ (Gr.OkPl fitsP p ∧ p.map Gr.cleanS = p) := by unfold plB; rw [decide_eq_true_eq]
theorem sortedB_iff {l : List Gr.Nd} : sortedB l = true ↔ Gr.sortedG l := by unfold sortedB Gr.sortedG; rw [decide_eq_true_eq]
open Classical in
theorem rightB_iff {m : Gr.Mf} : rightB m = true ↔ Gr.RightM fitsP m := by
  rw [← Gr.rightM_iff (s := srtE (Tab.newT m.ents)) (srtE_perm _) (srtE_sorted _)]
  have hal := Tab.all_iff (srtE_perm (Tab.newT m.ents)) (srtE_sorted _)
  unfold rightB
  rw [Bool.and_eq_true, Bool.and_eq_true, Bool.and_eq_true, Bool.and_eq_true, Bool.and_eq_true, Bool.and_eq_true, Bool.and_eq_true, Bool.and_eq_true, Bool.and_eq_true, numB_iff, numB_iff, decide_eq_true_eq, decide_eq_true_eq, plB_iff, any_not, entB_iff, any_not, beq_iff_eq]
  constructor
  · rintro ⟨h1, h2, h3, h4, h5, h6, h7, h8, ⟨h9, h10, h11⟩, h12⟩
    have hr := checkR_zero h3
    obtain ⟨src, hsrc⟩ := source_some hr
    have hal2 := hal.2 h10
    refine ⟨h1, h2, hr, ?_, by omega, h6, ⟨src, hsrc, ?_⟩, fun x hx => numB_iff.1 (h8 x hx), fun x hx => okEn_iff.1 (h9 x hx), hal2, fun x hx => badE_no.1 (h11 x (by rw [← hal2]; exact hx)), fun x hx => lineB_iff.1 (h12 x hx)⟩
    · exact sortedB_iff.1 h4
    · rw [h7]
      unfold parOf
      rw [hsrc]
  · intro h
    refine ⟨h.ep, h.pl, checkR_ok h.gr.len h.gr, ?_, by have := h.ol; omega, h.pn, ?_, fun x hx => numB_iff.2 (h.o4 x hx), ⟨fun x hx => okEn_iff.2 (h.en x hx), hal.1 h.al, fun x hx => badE_no.2 (h.ft x (by rw [h.al]; exact hx))⟩, fun x hx => lineB_iff.2 (h.ou x hx)⟩
    · exact sortedB_iff.2 h.so
    · obtain ⟨n, hn, e⟩ := h.of
      rw [e]
      unfold parOf
      rw [hn]
end Go.Proofs.YtpbohimddmploaaGreat
