import Derived.Test.YtepfdekppnobaaaGreatMb46
/-! pack.Right, by cases. -/
namespace Go.Proofs.YtepfdekppnobaaaGreat
set_option linter.unusedSimpArgs false
set_option linter.unusedVariables false
open Go.RowKit Ga
set_option maxRecDepth 100000

open Classical in
def parOf (g : List Gr.Nd) : Int := match Gr.nodeOf g 0 with
  | none => 0
  | some n => n.par
open Classical in
/-- may a manifest be, by the program? -/
noncomputable def rightB (m : Gr.Mf) : Bool := numB m.epoch 2147483647 && (numB m.plans 2147483647 && (decide (checkR m.graph = 0) && (sortedB m.graph && (decide ((m.out.length : Int) ≤ 4000) && (plB m.plan && (((m.offs.length : Int) == parOf m.graph) && (!(m.offs.any fun x => !(numB x 400)) && (entB m.ents m.graph && (!(m.out.any fun x => !(lineB x)))))))))))
theorem source_some {l : List Gr.Nd} (h : Gr.RightR l) : ∃ n, Gr.nodeOf l 0 = some n := by
  have hz : (0 : Int) ∈ Gr.ids l := ((Gr.right_iff (List.Perm.refl l)).1 h).z
  obtain ⟨n, hn, e⟩ := List.mem_map.1 hz
  have := Gr.bind_find h.ids hn
  rw [e] at this
  exact ⟨n, this⟩
open Classical in
theorem checkR_zero {l : List Gr.Nd} (h : checkR l = 0) : Gr.RightR l := by
  unfold checkR at h
  split at h
  · cases h
  · split at h
    · assumption
    · cases h
open Classical in
set_option maxHeartbeats 16000000 in
theorem manRight_1 (c : MfC) (m : Gr.Mf) (w : World) (h : MfIs w c m) (hs : Small m.graph) (hp : ∀ s ∈ m.plan, s.nd.frm.length ≤ 100 ∧ s.nd.prog.length ≤ 1000) (he : m.ents.length ≤ 100000) (h1 : (numB m.epoch 2147483647) = false) : Calls Tryz.prog 10 #[.agg #[.int .i64 c.epoch, .int .i64 c.plans, .slice c.ao c.no c.co, .slice c.ag c.ng c.cg, .slice c.ae c.ne c.ce, .slice c.ax c.nx c.cx, .slice c.ap c.np c.cp]] w (Gives (.bool false) w) := by
  have e1 := h.epoch
  have e2 := h.plans
  have HG := Lib.hid h.g
  have HO := Lib.hid h.o
  have HE := Lib.hid h.e
  have HX := Lib.hid h.x
  have HP := Lib.hid h.p
  have HS := Lib.hid hs
  have HPS := Lib.hid hp
  obtain ⟨ep, pl, ao, co, ag, cg, ae, ce, ax, cx, ap, cp, rfl⟩ := h.lit
  simp only at e1 e2 HG HO HE HX HP
  clear h hs hp
  have hn1 := fun W => packNum_any ep 2147483647 W
  rw [← e1, h1] at hn1
  rw [e1] at hn1
  have HN1 := Lib.hid hn1
  clear hn1 e1 e2 h1
  show Calls Tryz.prog _ #[.agg #[.int .i64 ep, .int .i64 pl, .slice ao m.offs.length co, .slice ag m.graph.length cg, .slice ae m.ents.length ce, .slice ax m.out.length cx, .slice ap m.plan.length cp]] w _
  go_enter Tryz.func10, Tryz.ntmps10
  go_wp2_with (first
    | (go_at_call 32; ((with_reducible refine (HN1.out _).mono ?_); rintro e w1 ⟨rfl, rfl⟩))
    | fail)
  go_ret
  exact ⟨rfl, by repeat (first | with_reducible exact Grew.refl _ | apply Grew.more | apply Grew.alloc | apply Grew.drew | apply Grew.drewN)⟩
open Classical in
set_option maxHeartbeats 16000000 in
theorem manRight_2 (c : MfC) (m : Gr.Mf) (w : World) (h : MfIs w c m) (hs : Small m.graph) (hp : ∀ s ∈ m.plan, s.nd.frm.length ≤ 100 ∧ s.nd.prog.length ≤ 1000) (he : m.ents.length ≤ 100000) (h1 : (numB m.epoch 2147483647) = true) (h2 : (numB m.plans 2147483647) = false) : Calls Tryz.prog 10 #[.agg #[.int .i64 c.epoch, .int .i64 c.plans, .slice c.ao c.no c.co, .slice c.ag c.ng c.cg, .slice c.ae c.ne c.ce, .slice c.ax c.nx c.cx, .slice c.ap c.np c.cp]] w (Gives (.bool false) w) := by
  have e1 := h.epoch
  have e2 := h.plans
  have HG := Lib.hid h.g
  have HO := Lib.hid h.o
  have HE := Lib.hid h.e
  have HX := Lib.hid h.x
  have HP := Lib.hid h.p
  have HS := Lib.hid hs
  have HPS := Lib.hid hp
  obtain ⟨ep, pl, ao, co, ag, cg, ae, ce, ax, cx, ap, cp, rfl⟩ := h.lit
  simp only at e1 e2 HG HO HE HX HP
  clear h hs hp
  have hn1 := fun W => packNum_any ep 2147483647 W
  rw [← e1, h1] at hn1
  have hn2 := fun W => packNum_any pl 2147483647 W
  rw [← e2, h2] at hn2
  rw [e1] at hn1
  rw [e2] at hn2
  have HN1 := Lib.hid hn1
  have HN2 := Lib.hid hn2
  clear hn1 e1 e2 h1 h2 hn2
  show Calls Tryz.prog _ #[.agg #[.int .i64 ep, .int .i64 pl, .slice ao m.offs.length co, .slice ag m.graph.length cg, .slice ae m.ents.length ce, .slice ax m.out.length cx, .slice ap m.plan.length cp]] w _
  go_enter Tryz.func10, Tryz.ntmps10
  go_wp2_with (first
    | (go_at_call 32; ((with_reducible refine (HN1.out _).mono ?_); rintro e w1 ⟨rfl, rfl⟩))
    | (go_at_call 32; ((with_reducible refine (HN2.out _).mono ?_); rintro e w1 ⟨rfl, rfl⟩))
    | fail)
  go_ret
  exact ⟨rfl, by repeat (first | with_reducible exact Grew.refl _ | apply Grew.more | apply Grew.alloc | apply Grew.drew | apply Grew.drewN)⟩
open Classical in
set_option maxHeartbeats 16000000 in
theorem manRight_3 (c : MfC) (m : Gr.Mf) (w : World) (h : MfIs w c m) (hs : Small m.graph) (hp : ∀ s ∈ m.plan, s.nd.frm.length ≤ 100 ∧ s.nd.prog.length ≤ 1000) (he : m.ents.length ≤ 100000) (h1 : (numB m.epoch 2147483647) = true) (h2 : (numB m.plans 2147483647) = true) (h3 : (decide (checkR m.graph = 0)) = false) : Calls Tryz.prog 10 #[.agg #[.int .i64 c.epoch, .int .i64 c.plans, .slice c.ao c.no c.co, .slice c.ag c.ng c.cg, .slice c.ae c.ne c.ce, .slice c.ax c.nx c.cx, .slice c.ap c.np c.cp]] w (Gives (.bool false) w) := by
  have e1 := h.epoch
  have e2 := h.plans
  have HG := Lib.hid h.g
  have HO := Lib.hid h.o
  have HE := Lib.hid h.e
  have HX := Lib.hid h.x
  have HP := Lib.hid h.p
  have HS := Lib.hid hs
  have HPS := Lib.hid hp
  obtain ⟨ep, pl, ao, co, ag, cg, ae, ce, ax, cx, ap, cp, rfl⟩ := h.lit
  simp only at e1 e2 HG HO HE HX HP
  clear h hs hp
  have hn1 := fun W => packNum_any ep 2147483647 W
  rw [← e1, h1] at hn1
  have hn2 := fun W => packNum_any pl 2147483647 W
  rw [← e2, h2] at hn2
  rw [e1] at hn1
  rw [e2] at hn2
  have HN1 := Lib.hid hn1
  have HN2 := Lib.hid hn2
  have hc0 : ¬ checkR m.graph = 0 := of_decide_eq_false h3
  have hc1 : (checkR m.graph != 0) = true := by rw [bne_iff_ne]; exact hc0
  clear hc0
  clear hn1 e1 e2 h1 h2 h3 hn2
  show Calls Tryz.prog _ #[.agg #[.int .i64 ep, .int .i64 pl, .slice ao m.offs.length co, .slice ag m.graph.length cg, .slice ae m.ents.length ce, .slice ax m.out.length cx, .slice ap m.plan.length cp]] w _
  go_enter Tryz.func10, Tryz.ntmps10
  go_wp2_with (first
    | (go_at_call 32; ((with_reducible refine (HN1.out _).mono ?_); rintro e w1 ⟨rfl, rfl⟩))
    | (go_at_call 32; ((with_reducible refine (HN2.out _).mono ?_); rintro e w1 ⟨rfl, rfl⟩))
    | (go_at_call 29; refine (check_graph _ m.graph _ (HG.out.grew (by repeat (first | with_reducible exact Grew.refl _ | apply Grew.more | apply Grew.alloc | apply Grew.drew | apply Grew.drewN))) HS.out).mono ?_; rintro e w1 ⟨rfl, R1, n1, rfl⟩)
    | fail)
  go_ret
  exact ⟨rfl, by repeat (first | with_reducible exact Grew.refl _ | apply Grew.more | apply Grew.alloc | apply Grew.drew | apply Grew.drewN)⟩
open Classical in
set_option maxHeartbeats 16000000 in
theorem manRight_4 (c : MfC) (m : Gr.Mf) (w : World) (h : MfIs w c m) (hs : Small m.graph) (hp : ∀ s ∈ m.plan, s.nd.frm.length ≤ 100 ∧ s.nd.prog.length ≤ 1000) (he : m.ents.length ≤ 100000) (h1 : (numB m.epoch 2147483647) = true) (h2 : (numB m.plans 2147483647) = true) (h3 : (decide (checkR m.graph = 0)) = true) (h4 : (sortedB m.graph) = false) : Calls Tryz.prog 10 #[.agg #[.int .i64 c.epoch, .int .i64 c.plans, .slice c.ao c.no c.co, .slice c.ag c.ng c.cg, .slice c.ae c.ne c.ce, .slice c.ax c.nx c.cx, .slice c.ap c.np c.cp]] w (Gives (.bool false) w) := by
  have e1 := h.epoch
  have e2 := h.plans
  have HG := Lib.hid h.g
  have HO := Lib.hid h.o
  have HE := Lib.hid h.e
  have HX := Lib.hid h.x
  have HP := Lib.hid h.p
  have HS := Lib.hid hs
  have HPS := Lib.hid hp
  obtain ⟨ep, pl, ao, co, ag, cg, ae, ce, ax, cx, ap, cp, rfl⟩ := h.lit
  simp only at e1 e2 HG HO HE HX HP
  clear h hs hp
  have hn1 := fun W => packNum_any ep 2147483647 W
  rw [← e1, h1] at hn1
  have hn2 := fun W => packNum_any pl 2147483647 W
  rw [← e2, h2] at hn2
  rw [e1] at hn1
  rw [e2] at hn2
  have HN1 := Lib.hid hn1
  have HN2 := Lib.hid hn2
  have hc0 : checkR m.graph = 0 := of_decide_eq_true h3
  have hrr := checkR_zero hc0
  have HC0 := Lib.hid hc0
  have HID := Lib.hid fun n (hn : n ∈ m.graph) => (show 0 ≤ n.id ∧ n.id ≤ 1000 from by have := hrr.r7 n hn; omega)
  have hgl : m.graph.length ≤ 1000 := by have := hrr.len; omega
  have H4 := Lib.hid h4
  clear hn1 e1 e2 h1 h2 h3 h4 hn2 hc0 hrr
  show Calls Tryz.prog _ #[.agg #[.int .i64 ep, .int .i64 pl, .slice ao m.offs.length co, .slice ag m.graph.length cg, .slice ae m.ents.length ce, .slice ax m.out.length cx, .slice ap m.plan.length cp]] w _
  go_enter Tryz.func10, Tryz.ntmps10
  go_wp2_with (first
    | (go_at_call 32; ((with_reducible refine (HN1.out _).mono ?_); rintro e w1 ⟨rfl, rfl⟩))
    | (go_at_call 32; ((with_reducible refine (HN2.out _).mono ?_); rintro e w1 ⟨rfl, rfl⟩))
    | (go_at_call 29; refine (check_graph _ m.graph _ (HG.out.grew (by repeat (first | with_reducible exact Grew.refl _ | apply Grew.more | apply Grew.alloc | apply Grew.drew | apply Grew.drewN))) HS.out).mono ?_; rintro e w1 ⟨rfl, R1, n1, rfl⟩; rw [HC0.out])
    | (go_at_call 33; refine (sorted_any _ m.graph _ (HG.out.grew (by repeat (first | with_reducible exact Grew.refl _ | apply Grew.more | apply Grew.alloc | apply Grew.drew | apply Grew.drewN))) HID.out (by omega)).mono ?_; rintro e w1 ⟨rfl, R2, n2, rfl⟩; rw [H4.out])
    | fail)
  go_ret
  exact ⟨rfl, by repeat (first | with_reducible exact Grew.refl _ | apply Grew.more | apply Grew.alloc | apply Grew.drew | apply Grew.drewN)⟩
open Classical in
set_option maxHeartbeats 16000000 in
theorem manRight_5 (c : MfC) (m : Gr.Mf) (w : World) (h : MfIs w c m) (hs : Small m.graph) (hp : ∀ s ∈ m.plan, s.nd.frm.length ≤ 100 ∧ s.nd.prog.length ≤ 1000) (he : m.ents.length ≤ 100000) (h1 : (numB m.epoch 2147483647) = true) (h2 : (numB m.plans 2147483647) = true) (h3 : (decide (checkR m.graph = 0)) = true) (h4 : (sortedB m.graph) = true) (h5 : (decide ((m.out.length : Int) ≤ 4000)) = false) : Calls Tryz.prog 10 #[.agg #[.int .i64 c.epoch, .int .i64 c.plans, .slice c.ao c.no c.co, .slice c.ag c.ng c.cg, .slice c.ae c.ne c.ce, .slice c.ax c.nx c.cx, .slice c.ap c.np c.cp]] w (Gives (.bool false) w) := by
  have e1 := h.epoch
  have e2 := h.plans
  have HG := Lib.hid h.g
  have HO := Lib.hid h.o
  have HE := Lib.hid h.e
  have HX := Lib.hid h.x
  have HP := Lib.hid h.p
  have HS := Lib.hid hs
  have HPS := Lib.hid hp
  obtain ⟨ep, pl, ao, co, ag, cg, ae, ce, ax, cx, ap, cp, rfl⟩ := h.lit
  simp only at e1 e2 HG HO HE HX HP
  clear h hs hp
  have hn1 := fun W => packNum_any ep 2147483647 W
  rw [← e1, h1] at hn1
  have hn2 := fun W => packNum_any pl 2147483647 W
  rw [← e2, h2] at hn2
  rw [e1] at hn1
  rw [e2] at hn2
  have HN1 := Lib.hid hn1
  have HN2 := Lib.hid hn2
  have hc0 : checkR m.graph = 0 := of_decide_eq_true h3
  have hrr := checkR_zero hc0
  have HC0 := Lib.hid hc0
  have HID := Lib.hid fun n (hn : n ∈ m.graph) => (show 0 ≤ n.id ∧ n.id ≤ 1000 from by have := hrr.r7 n hn; omega)
  have hgl : m.graph.length ≤ 1000 := by have := hrr.len; omega
  have H4 := Lib.hid h4
  have ho5 := of_decide_eq_false h5
  have ho6 : (4000 : Int) < (m.out.length : Int) := by omega
  clear ho5
  clear hn1 e1 e2 h1 h2 h3 h4 h5 hn2 hc0 hrr
  show Calls Tryz.prog _ #[.agg #[.int .i64 ep, .int .i64 pl, .slice ao m.offs.length co, .slice ag m.graph.length cg, .slice ae m.ents.length ce, .slice ax m.out.length cx, .slice ap m.plan.length cp]] w _
  go_enter Tryz.func10, Tryz.ntmps10
  go_wp2_with (first
    | (go_at_call 32; ((with_reducible refine (HN1.out _).mono ?_); rintro e w1 ⟨rfl, rfl⟩))
    | (go_at_call 32; ((with_reducible refine (HN2.out _).mono ?_); rintro e w1 ⟨rfl, rfl⟩))
    | (go_at_call 29; refine (check_graph _ m.graph _ (HG.out.grew (by repeat (first | with_reducible exact Grew.refl _ | apply Grew.more | apply Grew.alloc | apply Grew.drew | apply Grew.drewN))) HS.out).mono ?_; rintro e w1 ⟨rfl, R1, n1, rfl⟩; rw [HC0.out])
    | (go_at_call 33; refine (sorted_any _ m.graph _ (HG.out.grew (by repeat (first | with_reducible exact Grew.refl _ | apply Grew.more | apply Grew.alloc | apply Grew.drew | apply Grew.drewN))) HID.out (by omega)).mono ?_; rintro e w1 ⟨rfl, R2, n2, rfl⟩; rw [H4.out])
    | fail)
  go_ret
  exact ⟨rfl, by repeat (first | with_reducible exact Grew.refl _ | apply Grew.more | apply Grew.alloc | apply Grew.drew | apply Grew.drewN)⟩
open Classical in
set_option maxHeartbeats 16000000 in
theorem manRight_6 (c : MfC) (m : Gr.Mf) (w : World) (h : MfIs w c m) (hs : Small m.graph) (hp : ∀ s ∈ m.plan, s.nd.frm.length ≤ 100 ∧ s.nd.prog.length ≤ 1000) (he : m.ents.length ≤ 100000) (h1 : (numB m.epoch 2147483647) = true) (h2 : (numB m.plans 2147483647) = true) (h3 : (decide (checkR m.graph = 0)) = true) (h4 : (sortedB m.graph) = true) (h5 : (decide ((m.out.length : Int) ≤ 4000)) = true) (h6 : (plB m.plan) = false) : Calls Tryz.prog 10 #[.agg #[.int .i64 c.epoch, .int .i64 c.plans, .slice c.ao c.no c.co, .slice c.ag c.ng c.cg, .slice c.ae c.ne c.ce, .slice c.ax c.nx c.cx, .slice c.ap c.np c.cp]] w (Gives (.bool false) w) := by
  have e1 := h.epoch
  have e2 := h.plans
  have HG := Lib.hid h.g
  have HO := Lib.hid h.o
  have HE := Lib.hid h.e
  have HX := Lib.hid h.x
  have HP := Lib.hid h.p
  have HS := Lib.hid hs
  have HPS := Lib.hid hp
  obtain ⟨ep, pl, ao, co, ag, cg, ae, ce, ax, cx, ap, cp, rfl⟩ := h.lit
  simp only at e1 e2 HG HO HE HX HP
  clear h hs hp
  have hn1 := fun W => packNum_any ep 2147483647 W
  rw [← e1, h1] at hn1
  have hn2 := fun W => packNum_any pl 2147483647 W
  rw [← e2, h2] at hn2
  rw [e1] at hn1
  rw [e2] at hn2
  have HN1 := Lib.hid hn1
  have HN2 := Lib.hid hn2
  have hc0 : checkR m.graph = 0 := of_decide_eq_true h3
  have hrr := checkR_zero hc0
  have HC0 := Lib.hid hc0
  have HID := Lib.hid fun n (hn : n ∈ m.graph) => (show 0 ≤ n.id ∧ n.id ≤ 1000 from by have := hrr.r7 n hn; omega)
  have hgl : m.graph.length ≤ 1000 := by have := hrr.len; omega
  have H4 := Lib.hid h4
  have ho5 := of_decide_eq_true h5
  have ho6 : ¬ (4000 : Int) < (m.out.length : Int) := by omega
  clear ho5
  obtain ⟨src, hsrc⟩ := source_some hrr
  have hfi := fun W (g : Grew w W) => find_any _ m.graph 0 W (HG.out.grew g) HS.out
  rw [hsrc] at hfi
  have HF := Lib.hid hfi
  have hpo : parOf m.graph = src.par := by unfold parOf; rw [hsrc]
  have H6 := Lib.hid h6
  clear hn1 e1 e2 h1 h2 h3 h4 h5 h6 hn2 hc0 hfi hpo hsrc hrr
  show Calls Tryz.prog _ #[.agg #[.int .i64 ep, .int .i64 pl, .slice ao m.offs.length co, .slice ag m.graph.length cg, .slice ae m.ents.length ce, .slice ax m.out.length cx, .slice ap m.plan.length cp]] w _
  go_enter Tryz.func10, Tryz.ntmps10
  go_wp2_with (first
    | (go_at_call 32; ((with_reducible refine (HN1.out _).mono ?_); rintro e w1 ⟨rfl, rfl⟩))
    | (go_at_call 32; ((with_reducible refine (HN2.out _).mono ?_); rintro e w1 ⟨rfl, rfl⟩))
    | (go_at_call 29; refine (check_graph _ m.graph _ (HG.out.grew (by repeat (first | with_reducible exact Grew.refl _ | apply Grew.more | apply Grew.alloc | apply Grew.drew | apply Grew.drewN))) HS.out).mono ?_; rintro e w1 ⟨rfl, R1, n1, rfl⟩; rw [HC0.out])
    | (go_at_call 33; refine (sorted_any _ m.graph _ (HG.out.grew (by repeat (first | with_reducible exact Grew.refl _ | apply Grew.more | apply Grew.alloc | apply Grew.drew | apply Grew.drewN))) HID.out (by omega)).mono ?_; rintro e w1 ⟨rfl, R2, n2, rfl⟩; rw [H4.out])
    | (go_at_call 31; refine (HF.out _ (by repeat (first | with_reducible exact Grew.refl _ | apply Grew.more | apply Grew.alloc | apply Grew.drew | apply Grew.drewN))).mono ?_; rintro e w1 ⟨c9, rfl, h9, -, R3, n3, rfl⟩; (have hpar := h9.par); obtain ⟨cid, kind, af9, cf9, ap9, cp9, par, r0, r1, r2, r3, r4, r5, r6, r7, rfl⟩ := h9.lit; simp only at hpar; clear h9 hpar)
    | (go_at_call 37; refine (planned_any _ m.plan _ (HP.out.grew (by repeat (first | with_reducible exact Grew.refl _ | apply Grew.more | apply Grew.alloc | apply Grew.drew | apply Grew.drewN))) HPS.out).mono ?_; rintro e w1 ⟨rfl, R4, n4, rfl⟩; rw [H6.out])
    | fail)
  go_ret
  exact ⟨rfl, by repeat (first | with_reducible exact Grew.refl _ | apply Grew.more | apply Grew.alloc | apply Grew.drew | apply Grew.drewN)⟩
open Classical in
set_option maxHeartbeats 16000000 in
theorem manRight_7 (c : MfC) (m : Gr.Mf) (w : World) (h : MfIs w c m) (hs : Small m.graph) (hp : ∀ s ∈ m.plan, s.nd.frm.length ≤ 100 ∧ s.nd.prog.length ≤ 1000) (he : m.ents.length ≤ 100000) (h1 : (numB m.epoch 2147483647) = true) (h2 : (numB m.plans 2147483647) = true) (h3 : (decide (checkR m.graph = 0)) = true) (h4 : (sortedB m.graph) = true) (h5 : (decide ((m.out.length : Int) ≤ 4000)) = true) (h6 : (plB m.plan) = true) (h7 : (((m.offs.length : Int) == parOf m.graph)) = false) : Calls Tryz.prog 10 #[.agg #[.int .i64 c.epoch, .int .i64 c.plans, .slice c.ao c.no c.co, .slice c.ag c.ng c.cg, .slice c.ae c.ne c.ce, .slice c.ax c.nx c.cx, .slice c.ap c.np c.cp]] w (Gives (.bool false) w) := by
  have e1 := h.epoch
  have e2 := h.plans
  have HG := Lib.hid h.g
  have HO := Lib.hid h.o
  have HE := Lib.hid h.e
  have HX := Lib.hid h.x
  have HP := Lib.hid h.p
  have HS := Lib.hid hs
  have HPS := Lib.hid hp
  obtain ⟨ep, pl, ao, co, ag, cg, ae, ce, ax, cx, ap, cp, rfl⟩ := h.lit
  simp only at e1 e2 HG HO HE HX HP
  clear h hs hp
  have hn1 := fun W => packNum_any ep 2147483647 W
  rw [← e1, h1] at hn1
  have hn2 := fun W => packNum_any pl 2147483647 W
  rw [← e2, h2] at hn2
  rw [e1] at hn1
  rw [e2] at hn2
  have HN1 := Lib.hid hn1
  have HN2 := Lib.hid hn2
  have hc0 : checkR m.graph = 0 := of_decide_eq_true h3
  have hrr := checkR_zero hc0
  have HC0 := Lib.hid hc0
  have HID := Lib.hid fun n (hn : n ∈ m.graph) => (show 0 ≤ n.id ∧ n.id ≤ 1000 from by have := hrr.r7 n hn; omega)
  have hgl : m.graph.length ≤ 1000 := by have := hrr.len; omega
  have H4 := Lib.hid h4
  have ho5 := of_decide_eq_true h5
  have ho6 : ¬ (4000 : Int) < (m.out.length : Int) := by omega
  clear ho5
  obtain ⟨src, hsrc⟩ := source_some hrr
  have hfi := fun W (g : Grew w W) => find_any _ m.graph 0 W (HG.out.grew g) HS.out
  rw [hsrc] at hfi
  have HF := Lib.hid hfi
  have hpo : parOf m.graph = src.par := by unfold parOf; rw [hsrc]
  have QPAR : ((m.offs.length : Int) == src.par) = false := by rw [← hpo]; exact h7
  have H6 := Lib.hid h6
  clear hn1 e1 e2 h1 h2 h3 h4 h5 h6 h7 hn2 hc0 hfi hpo hsrc hrr
  show Calls Tryz.prog _ #[.agg #[.int .i64 ep, .int .i64 pl, .slice ao m.offs.length co, .slice ag m.graph.length cg, .slice ae m.ents.length ce, .slice ax m.out.length cx, .slice ap m.plan.length cp]] w _
  go_enter Tryz.func10, Tryz.ntmps10
  go_wp2_with (first
    | (go_at_call 32; ((with_reducible refine (HN1.out _).mono ?_); rintro e w1 ⟨rfl, rfl⟩))
    | (go_at_call 32; ((with_reducible refine (HN2.out _).mono ?_); rintro e w1 ⟨rfl, rfl⟩))
    | (go_at_call 29; refine (check_graph _ m.graph _ (HG.out.grew (by repeat (first | with_reducible exact Grew.refl _ | apply Grew.more | apply Grew.alloc | apply Grew.drew | apply Grew.drewN))) HS.out).mono ?_; rintro e w1 ⟨rfl, R1, n1, rfl⟩; rw [HC0.out])
    | (go_at_call 33; refine (sorted_any _ m.graph _ (HG.out.grew (by repeat (first | with_reducible exact Grew.refl _ | apply Grew.more | apply Grew.alloc | apply Grew.drew | apply Grew.drewN))) HID.out (by omega)).mono ?_; rintro e w1 ⟨rfl, R2, n2, rfl⟩; rw [H4.out])
    | (go_at_call 31; refine (HF.out _ (by repeat (first | with_reducible exact Grew.refl _ | apply Grew.more | apply Grew.alloc | apply Grew.drew | apply Grew.drewN))).mono ?_; rintro e w1 ⟨c9, rfl, h9, -, R3, n3, rfl⟩; (have hpar := h9.par); obtain ⟨cid, kind, af9, cf9, ap9, cp9, par, r0, r1, r2, r3, r4, r5, r6, r7, rfl⟩ := h9.lit; simp only at hpar; rw [hpar] at QPAR; clear h9 hpar)
    | (go_at_call 37; refine (planned_any _ m.plan _ (HP.out.grew (by repeat (first | with_reducible exact Grew.refl _ | apply Grew.more | apply Grew.alloc | apply Grew.drew | apply Grew.drewN))) HPS.out).mono ?_; rintro e w1 ⟨rfl, R4, n4, rfl⟩; rw [H6.out])
    | fail)
  go_ret
  exact ⟨rfl, by repeat (first | with_reducible exact Grew.refl _ | apply Grew.more | apply Grew.alloc | apply Grew.drew | apply Grew.drewN)⟩
open Classical in
set_option maxHeartbeats 16000000 in
theorem manRight_8 (c : MfC) (m : Gr.Mf) (w : World) (h : MfIs w c m) (hs : Small m.graph) (hp : ∀ s ∈ m.plan, s.nd.frm.length ≤ 100 ∧ s.nd.prog.length ≤ 1000) (he : m.ents.length ≤ 100000) (h1 : (numB m.epoch 2147483647) = true) (h2 : (numB m.plans 2147483647) = true) (h3 : (decide (checkR m.graph = 0)) = true) (h4 : (sortedB m.graph) = true) (h5 : (decide ((m.out.length : Int) ≤ 4000)) = true) (h6 : (plB m.plan) = true) (h7 : (((m.offs.length : Int) == parOf m.graph)) = true) (h8 : (!(m.offs.any fun x => !(numB x 400))) = false) : Calls Tryz.prog 10 #[.agg #[.int .i64 c.epoch, .int .i64 c.plans, .slice c.ao c.no c.co, .slice c.ag c.ng c.cg, .slice c.ae c.ne c.ce, .slice c.ax c.nx c.cx, .slice c.ap c.np c.cp]] w (Gives (.bool false) w) := by
  have e1 := h.epoch
  have e2 := h.plans
  have HG := Lib.hid h.g
  have HO := Lib.hid h.o
  have HE := Lib.hid h.e
  have HX := Lib.hid h.x
  have HP := Lib.hid h.p
  have HS := Lib.hid hs
  have HPS := Lib.hid hp
  obtain ⟨ep, pl, ao, co, ag, cg, ae, ce, ax, cx, ap, cp, rfl⟩ := h.lit
  simp only at e1 e2 HG HO HE HX HP
  clear h hs hp
  have hn1 := fun W => packNum_any ep 2147483647 W
  rw [← e1, h1] at hn1
  have hn2 := fun W => packNum_any pl 2147483647 W
  rw [← e2, h2] at hn2
  rw [e1] at hn1
  rw [e2] at hn2
  have HN1 := Lib.hid hn1
  have HN2 := Lib.hid hn2
  have hc0 : checkR m.graph = 0 := of_decide_eq_true h3
  have hrr := checkR_zero hc0
  have HC0 := Lib.hid hc0
  have HID := Lib.hid fun n (hn : n ∈ m.graph) => (show 0 ≤ n.id ∧ n.id ≤ 1000 from by have := hrr.r7 n hn; omega)
  have hgl : m.graph.length ≤ 1000 := by have := hrr.len; omega
  have H4 := Lib.hid h4
  have ho5 := of_decide_eq_true h5
  have ho6 : ¬ (4000 : Int) < (m.out.length : Int) := by omega
  clear ho5
  obtain ⟨src, hsrc⟩ := source_some hrr
  have hfi := fun W (g : Grew w W) => find_any _ m.graph 0 W (HG.out.grew g) HS.out
  rw [hsrc] at hfi
  have HF := Lib.hid hfi
  have hpo : parOf m.graph = src.par := by unfold parOf; rw [hsrc]
  have QPAR : ((m.offs.length : Int) == src.par) = true := by rw [← hpo]; exact h7
  have H6 := Lib.hid h6
  have h8b : (m.offs.any fun x => !(numB x 400)) = true := by cases hq : (m.offs.any fun x => !(numB x 400)) <;> rw [hq] at h8 <;> first | rfl | cases h8
  have H8 := Lib.hid h8b
  clear hn1 e1 e2 h1 h2 h3 h4 h5 h6 h7 h8 hn2 hc0 hfi hpo hsrc hrr h8b
  show Calls Tryz.prog _ #[.agg #[.int .i64 ep, .int .i64 pl, .slice ao m.offs.length co, .slice ag m.graph.length cg, .slice ae m.ents.length ce, .slice ax m.out.length cx, .slice ap m.plan.length cp]] w _
  go_enter Tryz.func10, Tryz.ntmps10
  go_wp2_with (first
    | (go_at_call 32; ((with_reducible refine (HN1.out _).mono ?_); rintro e w1 ⟨rfl, rfl⟩))
    | (go_at_call 32; ((with_reducible refine (HN2.out _).mono ?_); rintro e w1 ⟨rfl, rfl⟩))
    | (go_at_call 29; refine (check_graph _ m.graph _ (HG.out.grew (by repeat (first | with_reducible exact Grew.refl _ | apply Grew.more | apply Grew.alloc | apply Grew.drew | apply Grew.drewN))) HS.out).mono ?_; rintro e w1 ⟨rfl, R1, n1, rfl⟩; rw [HC0.out])
    | (go_at_call 33; refine (sorted_any _ m.graph _ (HG.out.grew (by repeat (first | with_reducible exact Grew.refl _ | apply Grew.more | apply Grew.alloc | apply Grew.drew | apply Grew.drewN))) HID.out (by omega)).mono ?_; rintro e w1 ⟨rfl, R2, n2, rfl⟩; rw [H4.out])
    | (go_at_call 31; refine (HF.out _ (by repeat (first | with_reducible exact Grew.refl _ | apply Grew.more | apply Grew.alloc | apply Grew.drew | apply Grew.drewN))).mono ?_; rintro e w1 ⟨c9, rfl, h9, -, R3, n3, rfl⟩; (have hpar := h9.par); obtain ⟨cid, kind, af9, cf9, ap9, cp9, par, r0, r1, r2, r3, r4, r5, r6, r7, rfl⟩ := h9.lit; simp only at hpar; rw [hpar] at QPAR; clear h9 hpar)
    | (go_at_call 37; refine (planned_any _ m.plan _ (HP.out.grew (by repeat (first | with_reducible exact Grew.refl _ | apply Grew.more | apply Grew.alloc | apply Grew.drew | apply Grew.drewN))) HPS.out).mono ?_; rintro e w1 ⟨rfl, R4, n4, rfl⟩; rw [H6.out])
    | (go_at_call 38; refine (containsIn_any _ m.offs (fun x => !(numB x 400)) _ (HO.out.grew (by repeat (first | with_reducible exact Grew.refl _ | apply Grew.more | apply Grew.alloc | apply Grew.drew | apply Grew.drewN))) (fun W x _ _ => right1_any x W)).mono ?_; rintro e w1 ⟨rfl, R5, n5, rfl⟩; rw [H8.out])
    | fail)
  go_ret
  exact ⟨rfl, by repeat (first | with_reducible exact Grew.refl _ | apply Grew.more | apply Grew.alloc | apply Grew.drew | apply Grew.drewN)⟩
open Classical in
set_option maxHeartbeats 16000000 in
theorem manRight_9 (c : MfC) (m : Gr.Mf) (w : World) (h : MfIs w c m) (hs : Small m.graph) (hp : ∀ s ∈ m.plan, s.nd.frm.length ≤ 100 ∧ s.nd.prog.length ≤ 1000) (he : m.ents.length ≤ 100000) (h1 : (numB m.epoch 2147483647) = true) (h2 : (numB m.plans 2147483647) = true) (h3 : (decide (checkR m.graph = 0)) = true) (h4 : (sortedB m.graph) = true) (h5 : (decide ((m.out.length : Int) ≤ 4000)) = true) (h6 : (plB m.plan) = true) (h7 : (((m.offs.length : Int) == parOf m.graph)) = true) (h8 : (!(m.offs.any fun x => !(numB x 400))) = true) (h9 : (entB m.ents m.graph) = false) : Calls Tryz.prog 10 #[.agg #[.int .i64 c.epoch, .int .i64 c.plans, .slice c.ao c.no c.co, .slice c.ag c.ng c.cg, .slice c.ae c.ne c.ce, .slice c.ax c.nx c.cx, .slice c.ap c.np c.cp]] w (Gives (.bool false) w) := by
  have e1 := h.epoch
  have e2 := h.plans
  have HG := Lib.hid h.g
  have HO := Lib.hid h.o
  have HE := Lib.hid h.e
  have HX := Lib.hid h.x
  have HP := Lib.hid h.p
  have HS := Lib.hid hs
  have HPS := Lib.hid hp
  obtain ⟨ep, pl, ao, co, ag, cg, ae, ce, ax, cx, ap, cp, rfl⟩ := h.lit
  simp only at e1 e2 HG HO HE HX HP
  clear h hs hp
  have hn1 := fun W => packNum_any ep 2147483647 W
  rw [← e1, h1] at hn1
  have hn2 := fun W => packNum_any pl 2147483647 W
  rw [← e2, h2] at hn2
  rw [e1] at hn1
  rw [e2] at hn2
  have HN1 := Lib.hid hn1
  have HN2 := Lib.hid hn2
  have hc0 : checkR m.graph = 0 := of_decide_eq_true h3
  have hrr := checkR_zero hc0
  have HC0 := Lib.hid hc0
  have HID := Lib.hid fun n (hn : n ∈ m.graph) => (show 0 ≤ n.id ∧ n.id ≤ 1000 from by have := hrr.r7 n hn; omega)
  have hgl : m.graph.length ≤ 1000 := by have := hrr.len; omega
  have H4 := Lib.hid h4
  have ho5 := of_decide_eq_true h5
  have ho6 : ¬ (4000 : Int) < (m.out.length : Int) := by omega
  clear ho5
  obtain ⟨src, hsrc⟩ := source_some hrr
  have hfi := fun W (g : Grew w W) => find_any _ m.graph 0 W (HG.out.grew g) HS.out
  rw [hsrc] at hfi
  have HF := Lib.hid hfi
  have hpo : parOf m.graph = src.par := by unfold parOf; rw [hsrc]
  have QPAR : ((m.offs.length : Int) == src.par) = true := by rw [← hpo]; exact h7
  have H6 := Lib.hid h6
  have h8b : (m.offs.any fun x => !(numB x 400)) = false := by cases hq : (m.offs.any fun x => !(numB x 400)) <;> rw [hq] at h8 <;> first | rfl | cases h8
  have H8 := Lib.hid h8b
  have H9 := Lib.hid h9
  clear hn1 e1 e2 h1 h2 h3 h4 h5 h6 h7 h8 h9 hn2 hc0 hfi hpo hsrc hrr h8b
  show Calls Tryz.prog _ #[.agg #[.int .i64 ep, .int .i64 pl, .slice ao m.offs.length co, .slice ag m.graph.length cg, .slice ae m.ents.length ce, .slice ax m.out.length cx, .slice ap m.plan.length cp]] w _
  go_enter Tryz.func10, Tryz.ntmps10
  go_wp2_with (first
    | (go_at_call 32; ((with_reducible refine (HN1.out _).mono ?_); rintro e w1 ⟨rfl, rfl⟩))
    | (go_at_call 32; ((with_reducible refine (HN2.out _).mono ?_); rintro e w1 ⟨rfl, rfl⟩))
    | (go_at_call 29; refine (check_graph _ m.graph _ (HG.out.grew (by repeat (first | with_reducible exact Grew.refl _ | apply Grew.more | apply Grew.alloc | apply Grew.drew | apply Grew.drewN))) HS.out).mono ?_; rintro e w1 ⟨rfl, R1, n1, rfl⟩; rw [HC0.out])
    | (go_at_call 33; refine (sorted_any _ m.graph _ (HG.out.grew (by repeat (first | with_reducible exact Grew.refl _ | apply Grew.more | apply Grew.alloc | apply Grew.drew | apply Grew.drewN))) HID.out (by omega)).mono ?_; rintro e w1 ⟨rfl, R2, n2, rfl⟩; rw [H4.out])
    | (go_at_call 31; refine (HF.out _ (by repeat (first | with_reducible exact Grew.refl _ | apply Grew.more | apply Grew.alloc | apply Grew.drew | apply Grew.drewN))).mono ?_; rintro e w1 ⟨c9, rfl, h9, -, R3, n3, rfl⟩; (have hpar := h9.par); obtain ⟨cid, kind, af9, cf9, ap9, cp9, par, r0, r1, r2, r3, r4, r5, r6, r7, rfl⟩ := h9.lit; simp only at hpar; rw [hpar] at QPAR; clear h9 hpar)
    | (go_at_call 37; refine (planned_any _ m.plan _ (HP.out.grew (by repeat (first | with_reducible exact Grew.refl _ | apply Grew.more | apply Grew.alloc | apply Grew.drew | apply Grew.drewN))) HPS.out).mono ?_; rintro e w1 ⟨rfl, R4, n4, rfl⟩; rw [H6.out])
    | (go_at_call 38; refine (containsIn_any _ m.offs (fun x => !(numB x 400)) _ (HO.out.grew (by repeat (first | with_reducible exact Grew.refl _ | apply Grew.more | apply Grew.alloc | apply Grew.drew | apply Grew.drewN))) (fun W x _ _ => right1_any x W)).mono ?_; rintro e w1 ⟨rfl, R5, n5, rfl⟩; rw [H8.out])
    | (go_at_call 39; refine (entries_any _ _ m.ents m.graph _ (HE.out.grew (by repeat (first | with_reducible exact Grew.refl _ | apply Grew.more | apply Grew.alloc | apply Grew.drew | apply Grew.drewN))) (HG.out.grew (by repeat (first | with_reducible exact Grew.refl _ | apply Grew.more | apply Grew.alloc | apply Grew.drew | apply Grew.drewN))) HS.out he).mono ?_; rintro e w1 ⟨rfl, R6, n6, rfl⟩; rw [H9.out])
    | fail)
  go_ret
  exact ⟨rfl, by repeat (first | with_reducible exact Grew.refl _ | apply Grew.more | apply Grew.alloc | apply Grew.drew | apply Grew.drewN)⟩
open Classical in
set_option maxHeartbeats 16000000 in
theorem manRight_10 (c : MfC) (m : Gr.Mf) (w : World) (h : MfIs w c m) (hs : Small m.graph) (hp : ∀ s ∈ m.plan, s.nd.frm.length ≤ 100 ∧ s.nd.prog.length ≤ 1000) (he : m.ents.length ≤ 100000) (h1 : (numB m.epoch 2147483647) = true) (h2 : (numB m.plans 2147483647) = true) (h3 : (decide (checkR m.graph = 0)) = true) (h4 : (sortedB m.graph) = true) (h5 : (decide ((m.out.length : Int) ≤ 4000)) = true) (h6 : (plB m.plan) = true) (h7 : (((m.offs.length : Int) == parOf m.graph)) = true) (h8 : (!(m.offs.any fun x => !(numB x 400))) = true) (h9 : (entB m.ents m.graph) = true) (h10 : (!(m.out.any fun x => !(lineB x))) = false) : Calls Tryz.prog 10 #[.agg #[.int .i64 c.epoch, .int .i64 c.plans, .slice c.ao c.no c.co, .slice c.ag c.ng c.cg, .slice c.ae c.ne c.ce, .slice c.ax c.nx c.cx, .slice c.ap c.np c.cp]] w (Gives (.bool false) w) := by
  have e1 := h.epoch
  have e2 := h.plans
  have HG := Lib.hid h.g
  have HO := Lib.hid h.o
  have HE := Lib.hid h.e
  have HX := Lib.hid h.x
  have HP := Lib.hid h.p
  have HS := Lib.hid hs
  have HPS := Lib.hid hp
  obtain ⟨ep, pl, ao, co, ag, cg, ae, ce, ax, cx, ap, cp, rfl⟩ := h.lit
  simp only at e1 e2 HG HO HE HX HP
  clear h hs hp
  have hn1 := fun W => packNum_any ep 2147483647 W
  rw [← e1, h1] at hn1
  have hn2 := fun W => packNum_any pl 2147483647 W
  rw [← e2, h2] at hn2
  rw [e1] at hn1
  rw [e2] at hn2
  have HN1 := Lib.hid hn1
  have HN2 := Lib.hid hn2
  have hc0 : checkR m.graph = 0 := of_decide_eq_true h3
  have hrr := checkR_zero hc0
  have HC0 := Lib.hid hc0
  have HID := Lib.hid fun n (hn : n ∈ m.graph) => (show 0 ≤ n.id ∧ n.id ≤ 1000 from by have := hrr.r7 n hn; omega)
  have hgl : m.graph.length ≤ 1000 := by have := hrr.len; omega
  have H4 := Lib.hid h4
  have ho5 := of_decide_eq_true h5
  have ho6 : ¬ (4000 : Int) < (m.out.length : Int) := by omega
  clear ho5
  obtain ⟨src, hsrc⟩ := source_some hrr
  have hfi := fun W (g : Grew w W) => find_any _ m.graph 0 W (HG.out.grew g) HS.out
  rw [hsrc] at hfi
  have HF := Lib.hid hfi
  have hpo : parOf m.graph = src.par := by unfold parOf; rw [hsrc]
  have QPAR : ((m.offs.length : Int) == src.par) = true := by rw [← hpo]; exact h7
  have H6 := Lib.hid h6
  have h8b : (m.offs.any fun x => !(numB x 400)) = false := by cases hq : (m.offs.any fun x => !(numB x 400)) <;> rw [hq] at h8 <;> first | rfl | cases h8
  have H8 := Lib.hid h8b
  have h10b : (m.out.any fun x => !(lineB x)) = true := by cases hq : (m.out.any fun x => !(lineB x)) <;> rw [hq] at h10 <;> first | rfl | cases h10
  have H10 := Lib.hid h10b
  have H9 := Lib.hid h9
  clear hn1 e1 e2 h1 h2 h3 h4 h5 h6 h7 h8 h9 h10 hn2 hc0 hfi hpo hsrc hrr h8b h10b
  show Calls Tryz.prog _ #[.agg #[.int .i64 ep, .int .i64 pl, .slice ao m.offs.length co, .slice ag m.graph.length cg, .slice ae m.ents.length ce, .slice ax m.out.length cx, .slice ap m.plan.length cp]] w _
  go_enter Tryz.func10, Tryz.ntmps10
  go_wp2_with (first
    | (go_at_call 32; ((with_reducible refine (HN1.out _).mono ?_); rintro e w1 ⟨rfl, rfl⟩))
    | (go_at_call 32; ((with_reducible refine (HN2.out _).mono ?_); rintro e w1 ⟨rfl, rfl⟩))
    | (go_at_call 29; refine (check_graph _ m.graph _ (HG.out.grew (by repeat (first | with_reducible exact Grew.refl _ | apply Grew.more | apply Grew.alloc | apply Grew.drew | apply Grew.drewN))) HS.out).mono ?_; rintro e w1 ⟨rfl, R1, n1, rfl⟩; rw [HC0.out])
    | (go_at_call 33; refine (sorted_any _ m.graph _ (HG.out.grew (by repeat (first | with_reducible exact Grew.refl _ | apply Grew.more | apply Grew.alloc | apply Grew.drew | apply Grew.drewN))) HID.out (by omega)).mono ?_; rintro e w1 ⟨rfl, R2, n2, rfl⟩; rw [H4.out])
    | (go_at_call 31; refine (HF.out _ (by repeat (first | with_reducible exact Grew.refl _ | apply Grew.more | apply Grew.alloc | apply Grew.drew | apply Grew.drewN))).mono ?_; rintro e w1 ⟨c9, rfl, h9, -, R3, n3, rfl⟩; (have hpar := h9.par); obtain ⟨cid, kind, af9, cf9, ap9, cp9, par, r0, r1, r2, r3, r4, r5, r6, r7, rfl⟩ := h9.lit; simp only at hpar; rw [hpar] at QPAR; clear h9 hpar)
    | (go_at_call 37; refine (planned_any _ m.plan _ (HP.out.grew (by repeat (first | with_reducible exact Grew.refl _ | apply Grew.more | apply Grew.alloc | apply Grew.drew | apply Grew.drewN))) HPS.out).mono ?_; rintro e w1 ⟨rfl, R4, n4, rfl⟩; rw [H6.out])
    | (go_at_call 38; refine (containsIn_any _ m.offs (fun x => !(numB x 400)) _ (HO.out.grew (by repeat (first | with_reducible exact Grew.refl _ | apply Grew.more | apply Grew.alloc | apply Grew.drew | apply Grew.drewN))) (fun W x _ _ => right1_any x W)).mono ?_; rintro e w1 ⟨rfl, R5, n5, rfl⟩; rw [H8.out])
    | (go_at_call 39; refine (entries_any _ _ m.ents m.graph _ (HE.out.grew (by repeat (first | with_reducible exact Grew.refl _ | apply Grew.more | apply Grew.alloc | apply Grew.drew | apply Grew.drewN))) (HG.out.grew (by repeat (first | with_reducible exact Grew.refl _ | apply Grew.more | apply Grew.alloc | apply Grew.drew | apply Grew.drewN))) HS.out he).mono ?_; rintro e w1 ⟨rfl, R6, n6, rfl⟩; rw [H9.out])
    | (go_at_call 40; refine (containsLn_any _ m.out (fun x => !(lineB x)) _ (HX.out.grew (by repeat (first | with_reducible exact Grew.refl _ | apply Grew.more | apply Grew.alloc | apply Grew.drew | apply Grew.drewN))) (fun W x _ _ => right2_any x W)).mono ?_; rintro e w1 ⟨rfl, R7, n7, rfl⟩; rw [H10.out])
    | fail)
  go_ret
  exact ⟨rfl, by repeat (first | with_reducible exact Grew.refl _ | apply Grew.more | apply Grew.alloc | apply Grew.drew | apply Grew.drewN)⟩
open Classical in
set_option maxHeartbeats 16000000 in
theorem manRight_11 (c : MfC) (m : Gr.Mf) (w : World) (h : MfIs w c m) (hs : Small m.graph) (hp : ∀ s ∈ m.plan, s.nd.frm.length ≤ 100 ∧ s.nd.prog.length ≤ 1000) (he : m.ents.length ≤ 100000) (h1 : (numB m.epoch 2147483647) = true) (h2 : (numB m.plans 2147483647) = true) (h3 : (decide (checkR m.graph = 0)) = true) (h4 : (sortedB m.graph) = true) (h5 : (decide ((m.out.length : Int) ≤ 4000)) = true) (h6 : (plB m.plan) = true) (h7 : (((m.offs.length : Int) == parOf m.graph)) = true) (h8 : (!(m.offs.any fun x => !(numB x 400))) = true) (h9 : (entB m.ents m.graph) = true) (h10 : (!(m.out.any fun x => !(lineB x))) = true) : Calls Tryz.prog 10 #[.agg #[.int .i64 c.epoch, .int .i64 c.plans, .slice c.ao c.no c.co, .slice c.ag c.ng c.cg, .slice c.ae c.ne c.ce, .slice c.ax c.nx c.cx, .slice c.ap c.np c.cp]] w (Gives (.bool true) w) := by
  have e1 := h.epoch
  have e2 := h.plans
  have HG := Lib.hid h.g
  have HO := Lib.hid h.o
  have HE := Lib.hid h.e
  have HX := Lib.hid h.x
  have HP := Lib.hid h.p
  have HS := Lib.hid hs
  have HPS := Lib.hid hp
  obtain ⟨ep, pl, ao, co, ag, cg, ae, ce, ax, cx, ap, cp, rfl⟩ := h.lit
  simp only at e1 e2 HG HO HE HX HP
  clear h hs hp
  have hn1 := fun W => packNum_any ep 2147483647 W
  rw [← e1, h1] at hn1
  have hn2 := fun W => packNum_any pl 2147483647 W
  rw [← e2, h2] at hn2
  rw [e1] at hn1
  rw [e2] at hn2
  have HN1 := Lib.hid hn1
  have HN2 := Lib.hid hn2
  have hc0 : checkR m.graph = 0 := of_decide_eq_true h3
  have hrr := checkR_zero hc0
  have HC0 := Lib.hid hc0
  have HID := Lib.hid fun n (hn : n ∈ m.graph) => (show 0 ≤ n.id ∧ n.id ≤ 1000 from by have := hrr.r7 n hn; omega)
  have hgl : m.graph.length ≤ 1000 := by have := hrr.len; omega
  have H4 := Lib.hid h4
  have ho5 := of_decide_eq_true h5
  have ho6 : ¬ (4000 : Int) < (m.out.length : Int) := by omega
  clear ho5
  obtain ⟨src, hsrc⟩ := source_some hrr
  have hfi := fun W (g : Grew w W) => find_any _ m.graph 0 W (HG.out.grew g) HS.out
  rw [hsrc] at hfi
  have HF := Lib.hid hfi
  have hpo : parOf m.graph = src.par := by unfold parOf; rw [hsrc]
  have QPAR : ((m.offs.length : Int) == src.par) = true := by rw [← hpo]; exact h7
  have H6 := Lib.hid h6
  have h8b : (m.offs.any fun x => !(numB x 400)) = false := by cases hq : (m.offs.any fun x => !(numB x 400)) <;> rw [hq] at h8 <;> first | rfl | cases h8
  have H8 := Lib.hid h8b
  have h10b : (m.out.any fun x => !(lineB x)) = false := by cases hq : (m.out.any fun x => !(lineB x)) <;> rw [hq] at h10 <;> first | rfl | cases h10
  have H10 := Lib.hid h10b
  have H9 := Lib.hid h9
  clear hn1 e1 e2 h1 h2 h3 h4 h5 h6 h7 h8 h9 h10 hn2 hc0 hfi hpo hsrc hrr h8b h10b
  show Calls Tryz.prog _ #[.agg #[.int .i64 ep, .int .i64 pl, .slice ao m.offs.length co, .slice ag m.graph.length cg, .slice ae m.ents.length ce, .slice ax m.out.length cx, .slice ap m.plan.length cp]] w _
  go_enter Tryz.func10, Tryz.ntmps10
  go_wp2_with (first
    | (go_at_call 32; ((with_reducible refine (HN1.out _).mono ?_); rintro e w1 ⟨rfl, rfl⟩))
    | (go_at_call 32; ((with_reducible refine (HN2.out _).mono ?_); rintro e w1 ⟨rfl, rfl⟩))
    | (go_at_call 29; refine (check_graph _ m.graph _ (HG.out.grew (by repeat (first | with_reducible exact Grew.refl _ | apply Grew.more | apply Grew.alloc | apply Grew.drew | apply Grew.drewN))) HS.out).mono ?_; rintro e w1 ⟨rfl, R1, n1, rfl⟩; rw [HC0.out])
    | (go_at_call 33; refine (sorted_any _ m.graph _ (HG.out.grew (by repeat (first | with_reducible exact Grew.refl _ | apply Grew.more | apply Grew.alloc | apply Grew.drew | apply Grew.drewN))) HID.out (by omega)).mono ?_; rintro e w1 ⟨rfl, R2, n2, rfl⟩; rw [H4.out])
    | (go_at_call 31; refine (HF.out _ (by repeat (first | with_reducible exact Grew.refl _ | apply Grew.more | apply Grew.alloc | apply Grew.drew | apply Grew.drewN))).mono ?_; rintro e w1 ⟨c9, rfl, h9, -, R3, n3, rfl⟩; (have hpar := h9.par); obtain ⟨cid, kind, af9, cf9, ap9, cp9, par, r0, r1, r2, r3, r4, r5, r6, r7, rfl⟩ := h9.lit; simp only at hpar; rw [hpar] at QPAR; clear h9 hpar)
    | (go_at_call 37; refine (planned_any _ m.plan _ (HP.out.grew (by repeat (first | with_reducible exact Grew.refl _ | apply Grew.more | apply Grew.alloc | apply Grew.drew | apply Grew.drewN))) HPS.out).mono ?_; rintro e w1 ⟨rfl, R4, n4, rfl⟩; rw [H6.out])
    | (go_at_call 38; refine (containsIn_any _ m.offs (fun x => !(numB x 400)) _ (HO.out.grew (by repeat (first | with_reducible exact Grew.refl _ | apply Grew.more | apply Grew.alloc | apply Grew.drew | apply Grew.drewN))) (fun W x _ _ => right1_any x W)).mono ?_; rintro e w1 ⟨rfl, R5, n5, rfl⟩; rw [H8.out])
    | (go_at_call 39; refine (entries_any _ _ m.ents m.graph _ (HE.out.grew (by repeat (first | with_reducible exact Grew.refl _ | apply Grew.more | apply Grew.alloc | apply Grew.drew | apply Grew.drewN))) (HG.out.grew (by repeat (first | with_reducible exact Grew.refl _ | apply Grew.more | apply Grew.alloc | apply Grew.drew | apply Grew.drewN))) HS.out he).mono ?_; rintro e w1 ⟨rfl, R6, n6, rfl⟩; rw [H9.out])
    | (go_at_call 40; refine (containsLn_any _ m.out (fun x => !(lineB x)) _ (HX.out.grew (by repeat (first | with_reducible exact Grew.refl _ | apply Grew.more | apply Grew.alloc | apply Grew.drew | apply Grew.drewN))) (fun W x _ _ => right2_any x W)).mono ?_; rintro e w1 ⟨rfl, R7, n7, rfl⟩; rw [H10.out])
    | fail)
  go_ret
  exact ⟨rfl, by repeat (first | with_reducible exact Grew.refl _ | apply Grew.more | apply Grew.alloc | apply Grew.drew | apply Grew.drewN)⟩
open Classical in
theorem manRight_any (c : MfC) (m : Gr.Mf) (w : World) (h : MfIs w c m) (hs : Small m.graph) (hp : ∀ s ∈ m.plan, s.nd.frm.length ≤ 100 ∧ s.nd.prog.length ≤ 1000) (he : m.ents.length ≤ 100000) : Calls Tryz.prog 10 #[.agg #[.int .i64 c.epoch, .int .i64 c.plans, .slice c.ao c.no c.co, .slice c.ag c.ng c.cg, .slice c.ae c.ne c.ce, .slice c.ax c.nx c.cx, .slice c.ap c.np c.cp]] w (Gives (.bool (rightB m)) w) := by
  cases h1 : (numB m.epoch 2147483647)
  · have hr : rightB m = false := by unfold rightB; rw [h1]; rfl
    rw [hr]
    exact manRight_1 c m w h hs hp he h1
  cases h2 : (numB m.plans 2147483647)
  · have hr : rightB m = false := by unfold rightB; rw [h1, h2]; rfl
    rw [hr]
    exact manRight_2 c m w h hs hp he h1 h2
  cases h3 : (decide (checkR m.graph = 0))
  · have hr : rightB m = false := by unfold rightB; rw [h1, h2, h3]; rfl
    rw [hr]
    exact manRight_3 c m w h hs hp he h1 h2 h3
  cases h4 : (sortedB m.graph)
  · have hr : rightB m = false := by unfold rightB; rw [h1, h2, h3, h4]; rfl
    rw [hr]
    exact manRight_4 c m w h hs hp he h1 h2 h3 h4
  cases h5 : (decide ((m.out.length : Int) ≤ 4000))
  · have hr : rightB m = false := by unfold rightB; rw [h1, h2, h3, h4, h5]; rfl
    rw [hr]
    exact manRight_5 c m w h hs hp he h1 h2 h3 h4 h5
  cases h6 : (plB m.plan)
  · have hr : rightB m = false := by unfold rightB; rw [h1, h2, h3, h4, h5, h6]; rfl
    rw [hr]
    exact manRight_6 c m w h hs hp he h1 h2 h3 h4 h5 h6
  cases h7 : (((m.offs.length : Int) == parOf m.graph))
  · have hr : rightB m = false := by unfold rightB; rw [h1, h2, h3, h4, h5, h6, h7]; rfl
    rw [hr]
    exact manRight_7 c m w h hs hp he h1 h2 h3 h4 h5 h6 h7
  cases h8 : (!(m.offs.any fun x => !(numB x 400)))
  · have hr : rightB m = false := by unfold rightB; rw [h1, h2, h3, h4, h5, h6, h7, h8]; rfl
    rw [hr]
    exact manRight_8 c m w h hs hp he h1 h2 h3 h4 h5 h6 h7 h8
  cases h9 : (entB m.ents m.graph)
  · have hr : rightB m = false := by unfold rightB; rw [h1, h2, h3, h4, h5, h6, h7, h8, h9]; rfl
    rw [hr]
    exact manRight_9 c m w h hs hp he h1 h2 h3 h4 h5 h6 h7 h8 h9
  cases h10 : (!(m.out.any fun x => !(lineB x)))
  · have hr : rightB m = false := by unfold rightB; rw [h1, h2, h3, h4, h5, h6, h7, h8, h9, h10]; rfl
    rw [hr]
    exact manRight_10 c m w h hs hp he h1 h2 h3 h4 h5 h6 h7 h8 h9 h10
  have hr : rightB m = true := by unfold rightB; rw [h1, h2, h3, h4, h5, h6, h7, h8, h9, h10]; rfl
  rw [hr]
  exact manRight_11 c m w h hs hp he h1 h2 h3 h4 h5 h6 h7 h8 h9 h10
end Go.Proofs.YtepfdekppnobaaaGreat
