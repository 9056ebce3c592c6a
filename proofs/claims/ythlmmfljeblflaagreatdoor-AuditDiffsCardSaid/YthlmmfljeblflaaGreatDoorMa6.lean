import Derived.Test.YthlmmfljeblflaaGreatDoorMc20
import Derived.Test.YthlmmfljeblflaaGreatDoorMc15
import Derived.Test.YthlmmfljeblflaaGreatDoorMa1
import Derived.Test.YthlmmfljeblflaaGreatDoorMa2
import Derived.Test.YthlmmfljeblflaaGreatDoorMa3
import Derived.Test.YthlmmfljeblflaaGreatDoorMa4
import Derived.Test.YthlmmfljeblflaaGreatDoorMa5
/-! Manifests as arguments: their graph's slice is nil or has a block. -/
namespace Go.Proofs.YthlmmfljeblflaaGreatDoor
set_option linter.unusedSimpArgs false
set_option maxRecDepth 100000
set_option linter.unusedVariables false
open Go.RowKit Ga Go.ChangeShapes Go.WideShapes

theorem nilOr_sl {α : Type} {k : Nat} {R : World → List Value → α → Prop} {w : World} {a : Option Addr} {n cap : Nat} {l : List α} (h : SlAt k R w (.slice a n cap) l) : NilOr (.slice a n cap) l.length := by
  obtain ⟨a', cap', e, h1, h2, h3, h4⟩ := h
  cases e
  cases a with
  | none =>
    have h0 := h3 rfl
    subst h0
    have : l.length = 0 := by omega
    rw [this]
    exact .inl rfl
  | some ad => exact .inr ⟨ad, cap, rfl⟩
theorem opens_manN : Opens Tryz.prog 35 (fun w cs (x : MfC × Gr.Mf) => cs = [Value.int .i64 x.1.epoch, Value.int .i64 x.1.plans, .slice x.1.ao x.1.no x.1.co, .slice x.1.ag x.1.ng x.1.cg, .slice x.1.ae x.1.ne x.1.ce, .slice x.1.ax x.1.nx x.1.cx, .slice x.1.ap x.1.np x.1.cp] ∧ MfIs w x.1 x.2 ∧ NilOr (.slice x.1.ag x.1.ng x.1.cg) x.2.graph.length) := by
  intro H enc w fuel cs x hx
  obtain ⟨hl, hf⟩ := Opens.fields Tryz.underlying35 hx
  rw [cells_man] at hl
  match cs, hl with
  | [c0, c1, c2, c3, c4, c5, c6], _ =>
    obtain ⟨n0, y0, h0⟩ := hf 0 _ rfl
    obtain ⟨n1, y1, h1⟩ := hf 1 _ rfl
    obtain ⟨n2, y2, h2⟩ := hf 2 _ rfl
    obtain ⟨n3, y3, h3⟩ := hf 3 _ rfl
    obtain ⟨n4, y4, h4⟩ := hf 4 _ rfl
    obtain ⟨n5, y5, h5⟩ := hf 5 _ rfl
    obtain ⟨n6, y6, h6⟩ := hf 6 _ rfl
    have h0' : DataW.trod enc Tryz.prog w 0 (fun _ => true) true n0 3 (([c0, c1, c2, c3, c4, c5, c6].drop 0).take (Tryz.prog.cellsOf 3)) = some y0 := h0
    rw [cells_int1] at h0'
    have h1' : DataW.trod enc Tryz.prog w 0 (fun _ => true) true n1 3 (([c0, c1, c2, c3, c4, c5, c6].drop 1).take (Tryz.prog.cellsOf 3)) = some y1 := h1
    rw [cells_int1] at h1'
    have h2' : DataW.trod enc Tryz.prog w 0 (fun _ => true) true n2 29 (([c0, c1, c2, c3, c4, c5, c6].drop 2).take (Tryz.prog.cellsOf 29)) = some y2 := h2
    rw [cells_ints1] at h2'
    have h3' : DataW.trod enc Tryz.prog w 0 (fun _ => true) true n3 30 (([c0, c1, c2, c3, c4, c5, c6].drop 3).take (Tryz.prog.cellsOf 30)) = some y3 := h3
    rw [cells_slNode] at h3'
    have h4' : DataW.trod enc Tryz.prog w 0 (fun _ => true) true n4 31 (([c0, c1, c2, c3, c4, c5, c6].drop 4).take (Tryz.prog.cellsOf 31)) = some y4 := h4
    rw [cells_slEntry] at h4'
    have h5' : DataW.trod enc Tryz.prog w 0 (fun _ => true) true n5 32 (([c0, c1, c2, c3, c4, c5, c6].drop 5).take (Tryz.prog.cellsOf 32)) = some y5 := h5
    rw [cells_slLine] at h5'
    have h6' : DataW.trod enc Tryz.prog w 0 (fun _ => true) true n6 33 (([c0, c1, c2, c3, c4, c5, c6].drop 6).take (Tryz.prog.cellsOf 33)) = some y6 := h6
    rw [cells_slStep] at h6'
    obtain ⟨i0, e0, -⟩ := opens_int1 H enc w n0 _ _ h0'
    obtain ⟨i1, e1, -⟩ := opens_int1 H enc w n1 _ _ h1'
    obtain ⟨l2, v2, e2, s2⟩ := Opens.slice Tryz.underlying29 cells_int1 (by decide) opens_int1 H enc w n2 _ _ h2'
    obtain ⟨l3, v3, e3, s3⟩ := Opens.slice Tryz.underlying30 cells_node (by decide) opens_node H enc w n3 _ _ h3'
    obtain ⟨l4, v4, e4, s4⟩ := Opens.slice Tryz.underlying31 cells_ent (by decide) opens_ent H enc w n4 _ _ h4'
    obtain ⟨l5, v5, e5, s5⟩ := Opens.slice Tryz.underlying32 cells_line (by decide) opens_line H enc w n5 _ _ h5'
    obtain ⟨l6, v6, e6, s6⟩ := Opens.slice Tryz.underlying33 cells_step (by decide) opens_step H enc w n6 _ _ h6'
    obtain ⟨a2, k2, rfl⟩ := slice_form s2
    obtain ⟨a3, k3, rfl⟩ := slice_form s3
    obtain ⟨a4, k4, rfl⟩ := slice_form s4
    obtain ⟨a5, k5, rfl⟩ := slice_form s5
    obtain ⟨a6, k6, rfl⟩ := slice_form s6
    have r2 := (SlAt.rowsC (enc := fun (x : Int) => [Value.int .i64 x]) s2).1
    have r3 := nodes_of s3
    have q3 := nilOr_sl s3
    have r4 := (SlAt.rowsC (enc := encEn) s4).1
    have r5 := (SlAt.rowsC (enc := encLn) s5).1
    have r6 := steps_of s6
    simp at e0 e1 e2 e3 e4 e5 e6
    subst e0 e1 e2 e3 e4 e5 e6
    exact ⟨(⟨i0, i1, a2, l2.length, k2, a3, l3.length, k3, a4, l4.length, k4, a5, l5.length, k5, a6, l6.length, k6⟩, ⟨i0, i1, l2, l3.map (·.2), l4, l5, l6.map (·.2)⟩), rfl, ⟨rfl, rfl, r2, r3, r4, r5, r6⟩, by simpa using q3⟩
theorem arg_manN {H : Type} {enc : TypeId × Value → H} {w : World} {v : Value} {d : DataW H} {ps : List MemPlace} {r : Reach} {b : Nat} (ho : Value.okWide Tryz.prog w r b 35 v) (h : DataW.Trod enc Tryz.prog w 0 (fun _ => true) true 35 v d ps) : ∃ (c : MfC) (m : Gr.Mf), v = .agg #[.int .i64 c.epoch, .int .i64 c.plans, .slice c.ao c.no c.co, .slice c.ag c.ng c.cg, .slice c.ae c.ne c.ce, .slice c.ax c.nx c.cx, .slice c.ap c.np c.cp] ∧ MfIs w c m ∧ NilOr (.slice c.ag c.ng c.cg) m.graph.length := by
  obtain ⟨⟨c, m⟩, h1, h2, h3⟩ := opens_manN.arg h
  exact ⟨c, m, cells_agg Tryz.underlying35 ho h1, h2, h3⟩
end Go.Proofs.YthlmmfljeblflaaGreatDoor

/-! AuditDiffs: the whole. -/
namespace Go.Proofs.YthlmmfljeblflaaGreatDoor
set_option linter.unusedSimpArgs false
set_option linter.unusedVariables false
open Go.RowKit Ga
set_option maxRecDepth 100000

theorem great_small28 {l : List Gr.Nd} (h : greatG l = false) : Small l ∧ l.length ≤ 20 := by
  unfold greatG at h
  simp only [Bool.or_eq_false_iff, decide_eq_false_iff_not, List.any_eq_false] at h
  refine ⟨fun n hn => ?_, by omega⟩
  have := h.2 n hn
  unfold greatN at this
  simp only [Bool.or_eq_true, decide_eq_true_eq, not_or] at this
  omega
theorem ret28_end {w w0 W : World} {a : Act} (h : Ret28 w0 a W) (g : Grew w w0) : bodyPost Tryz.prog Tryz.f4 (Gives (.bool true) w) .ret a W := by
  obtain ⟨t, d⟩ := a
  obtain ⟨h1, h2, h3⟩ := h
  simp only at h1 h2
  subst h2
  refine bodyPost_ret (v := .bool true) ?_ rfl ⟨rfl, g.trans h3⟩
  simp [results, Tryz.results4, go_sem]
  rw [← Array.getD_eq_getD_getElem?, h1]
theorem diffA_want (ma mb : Gr.Mf) (ids : List Int) (h : ids = (ma.graph ++ mb.graph).map (·.id)) : unlA ma.graph mb.graph (insL ids) ++ wantC (newOk ma.ents && newOk mb.ents) (Tab.newT ma.ents) (Tab.newT mb.ents) = diffA ma mb := by
  subst h
  unfold diffA cellsA wantC
  rw [unlG_eq]
  congr 1
  by_cases hq : newOk ma.ents = true ∧ newOk mb.ents = true
  · rw [if_pos hq, if_pos (by rw [hq.1, hq.2]; rfl)]
  · rw [if_neg hq, if_neg (fun q => hq (by simpa using q))]
theorem diffA_len (ma mb : Gr.Mf) (ha : ma.graph.length ≤ 100) (hb : mb.graph.length ≤ 100) : (diffA ma mb).length ≤ 1000 := by
  have h1 := unlG_len ma.graph mb.graph ha hb
  have h2 := cellsA_len ma.ents mb.ents
  unfold diffA
  rw [List.length_append]
  omega
set_option maxHeartbeats 4000000 in
theorem audit28_any (c d : MfC) (ma mb : Gr.Mf) (w : World) (hc : MfIs w c ma) (hd : MfIs w d mb) (n1 : NilOr (.slice c.ag c.ng c.cg) ma.graph.length) (n2 : NilOr (.slice d.ag d.ng d.cg) mb.graph.length) (hP : Pow w) :
    Calls Tryz.prog 4 #[.agg #[.int .i64 c.epoch, .int .i64 c.plans, .slice c.ao c.no c.co, .slice c.ag c.ng c.cg, .slice c.ae c.ne c.ce, .slice c.ax c.nx c.cx, .slice c.ap c.np c.cp], .agg #[.int .i64 d.epoch, .int .i64 d.plans, .slice d.ao d.no d.co, .slice d.ag d.ng d.cg, .slice d.ae d.ne d.ce, .slice d.ax d.nx d.cx, .slice d.ap d.np d.cp]] w (Gives (.bool true) w) := by
  obtain ⟨w0, hw0⟩ : ∃ w0 : World, w0 = (w.alloc (.cells (encMf c).toArray 35)).alloc (.cells (encMf d).toArray 35) := ⟨_, rfl⟩
  have g0 : Grew w w0 := by rw [hw0]; exact ((Grew.refl w).alloc _).alloc _
  have bx : w0.heap[w.heap.size]? = some (.cells (encMf c).toArray 35) := by rw [hw0]; exact heap_alloc' (heap_new_at w _ _ rfl) _
  have yb : w0.heap[w.heap.size + 1]? = some (.cells (encMf d).toArray 35) := by rw [hw0]; exact heap_new_at _ _ _ (by simp [go_sem])
  have HM := Lib.hid (hc.grew g0)
  have HM2 := Lib.hid (hd.grew g0)
  have HP0 := Lib.hid (hP.grew g0)
  have HG0 := Lib.hid g0
  have HBX := Lib.hid bx
  have HBY := Lib.hid yb
  have HW0 := Lib.hid hw0
  have HN1 := Lib.hid n1
  have HN2 := Lib.hid n2
  clear hc hd hP g0 bx yb hw0 n1 n2
  go_enter Tryz.func4, Tryz.ntmps4
  iterate 14 go_step
  have hret : ∀ a' w', Ret28 w0 a' w' → bodyPost Tryz.prog Tryz.f4 (Gives (.bool true) w) .ret a' w' := fun a' w' h => ret28_end h HG0.out
  have HW := HW0.out
  unfold encMf at HW
  rw [← HW]
  refine ad_p1 w0 w0 w.heap.size (w.heap.size + 1) c d ma mb _ _ ?_ HM.out HM2.out HP0.out hret fun s1 s2 a1 w1 g1 P1 => ?_
  · exact ⟨rfl, rfl, rfl, Grew.refl _, HBX.out, HBY.out⟩
  obtain ⟨sa, la20⟩ := great_small28 s1.g
  obtain ⟨sb, lb20⟩ := great_small28 s2.g
  obtain ⟨la, ra, ea, ia⟩ := id HM.out.g
  obtain ⟨lb, rb, eb, ib⟩ := id HM2.out.g
  have da := nodes_ids ea ia
  have db := nodes_ids eb ib
  have hids : (la ++ lb).map (·.id) = (ma.graph ++ mb.graph).map (·.id) := by rw [List.map_append, List.map_append, da, db]
  have hll : (la ++ lb).length ≤ 200 := by rw [List.length_append]; omega
  refine ad_p2 w0 w1 _ _ c d ma mb _ _ la lb P1 HM.out HM2.out ra rb (ea ▸ HN1.out) (eb ▸ HN2.out) (by omega) (by omega) hret fun hid a3 w3 g3 P3 => ?_
  refine ad_p3 w0 w3 _ _ c d ma mb _ _ la lb P3 HM.out HM2.out ra rb (ea ▸ HN1.out) (eb ▸ HN2.out) (by omega) (by omega) hret fun a5 w5 v8 g5 P5 h7 h8 ho8 => ?_
  have hr8 := OwnAt.rows ho8 encN_len
  obtain ⟨a8, c8, rfl⟩ := hr8.len
  have hil : (insL ((la ++ lb).map (·.id))).length ≤ 200 := by
    have := insL_len ((la ++ lb).map (·.id))
    rw [List.length_map] at this
    omega
  have hib : ∀ x ∈ insL ((la ++ lb).map (·.id)), -1099511627776 ≤ x ∧ x ≤ 1099511627776 := fun x hx => by
    unfold insL at hx
    have := ((insFold ((la ++ lb).map (·.id)) [] List.Pairwise.nil).2.1 x).1 hx
    exact hid x (by simpa using this)
  refine ad_p4 w0 w5 _ _ c d ma mb _ _ _ a8 c8 P5 HM.out HM2.out h7 h8 hr8 hil hib hret fun a6 w6 v7 g6 P6 h7 ho7 => ?_
  refine ad_p5 w0 w6 _ _ c d ma mb _ _ v7 _ P6 HM.out HM2.out h7 (OwnAt.low ho7 P5.g.below.size) s1.e hret fun a7 w7 tr ur f g P7 h7 h16 h17 h18 htb hrl hz => ?_
  refine ad_p5b w0 w7 _ _ c d ma mb _ _ v7 _ tr ur f g _ P7 HM.out HM2.out h7 h16 h17 h18 htb hz s2.e hret fun a8 w8 g' P8 h7 h16 h17 h18 htb hrl2 => ?_
  have hul := unlA_len ma.graph mb.graph (insL ((la ++ lb).map (·.id)))
  refine ad_p6 w0 w8 _ _ c d ma mb _ _ v7 _ tr ur f g' _ (Tab.newT ma.ents) (Tab.newT mb.ents) P8 HM.out HM2.out h7 h16 h17 h18 htb (fun q => hrl (by rw [Bool.and_eq_true] at q; exact q.1)) hrl2 (by omega) hret fun a9 w9 v9 P9 h7 ho => ?_
  rw [diffA_want ma mb _ hids] at ho
  rw [hids] at hid
  refine ad_p7 w0 w9 _ _ c d ma mb _ _ v9 P9 HM.out HM2.out h7 ho (diffA_len ma mb (by omega) (by omega)) (fun W2 g => diff28_any c d ma mb W2 (HM.out.grew g) (HM2.out.grew g) HN1.out HN2.out (by omega) (by omega) sa sb s1.e s2.e hid (HP0.out.grew g)) (fun W2 g => ?_) hret trivial
  have := diff28_any c c ma ma W2 (HM.out.grew g) (HM.out.grew g) HN1.out HN1.out (by omega) (by omega) sa sa s1.e s1.e (fun x hx => hid x (by
    rw [List.map_append, List.mem_append] at hx ⊢
    exact .inl (hx.elim id id))) (HP0.out.grew g)
  rwa [diffA_self] at this
end Go.Proofs.YthlmmfljeblflaaGreatDoor
