import Derived.Test.YthlmmfljeblflaaGreatDoorMc15
import Derived.Test.YthlmmfljeblflaaGreatDoorMc13
/-! A manifest in memory: seven cells, five slices among them. -/
namespace Go.Proofs.YthlmmfljeblflaaGreatDoor
set_option linter.unusedSimpArgs false
set_option linter.unusedVariables false
open Go.RowKit Ga
set_option maxRecDepth 100000

/-- a manifest as it lies -/
structure MfC where
  epoch : Int
  plans : Int
  ao : Option Addr
  no : Nat
  co : Nat
  ag : Option Addr
  ng : Nat
  cg : Nat
  ae : Option Addr
  ne : Nat
  ce : Nat
  ax : Option Addr
  nx : Nat
  cx : Nat
  ap : Option Addr
  np : Nat
  cp : Nat
structure MfIs (w : World) (c : MfC) (m : Gr.Mf) : Prop where
  epoch : m.epoch = c.epoch
  plans : m.plans = c.plans
  o : IntsAt w (.slice c.ao c.no c.co) m.offs
  g : NodesAt w (.slice c.ag c.ng c.cg) m.graph
  e : EntsAt w (.slice c.ae c.ne c.ce) m.ents
  x : LnsAt w (.slice c.ax c.nx c.cx) m.out
  p : StepsAt w (.slice c.ap c.np c.cp) m.plan
theorem MfIs.grew {w w' : World} {c : MfC} {m : Gr.Mf} (h : MfIs w c m) (g : Grew w w') : MfIs w' c m := ⟨h.epoch, h.plans, h.o.grew g, h.g.grew g, h.e.grew g, h.x.grew g, h.p.grew g⟩
/-- .. written out -/
theorem MfIs.lit {w : World} {c : MfC} {m : Gr.Mf} (h : MfIs w c m) : ∃ ep pl ao co ag cg ae ce ax cx ap cp, c = ⟨ep, pl, ao, m.offs.length, co, ag, m.graph.length, cg, ae, m.ents.length, ce, ax, m.out.length, cx, ap, m.plan.length, cp⟩ := by
  obtain ⟨ep, pl, ao, no, co, ag, ng, cg, ae, ne, ce, ax, nx, cx, ap, np, cp⟩ := c
  obtain ⟨a1, c1, e1⟩ := h.o.len
  obtain ⟨a2, c2, e2, -⟩ := h.g.openC
  obtain ⟨a3, c3, e3⟩ := h.e.len
  obtain ⟨a4, c4, e4⟩ := h.x.len
  obtain ⟨a5, c5, e5, -⟩ := h.p.openC
  simp only at e1 e2 e3 e4 e5
  cases e1
  cases e2
  cases e3
  cases e4
  cases e5
  exact ⟨ep, pl, _, _, _, _, _, _, _, _, _, _, rfl⟩
end Go.Proofs.YthlmmfljeblflaaGreatDoor

/-! Steps as arguments. -/
namespace Go.Proofs.YthlmmfljeblflaaGreatDoor
set_option linter.unusedSimpArgs false
set_option maxRecDepth 100000
set_option linter.unusedVariables false
open Go.RowKit Ga Go.ChangeShapes Go.WideShapes

theorem cells_step : Tryz.prog.cellsOf 60 = 15 := by kernel_rfl
theorem cells_bool1 : Tryz.prog.cellsOf 4 = 1 := by kernel_rfl
theorem opens_bool1 : Opens Tryz.prog 4 (fun _ cs (b : Bool) => cs = [Value.bool b] ∧ True) := (Opens.bool Tryz.underlying4).mono fun _ _ n h => ⟨n, h, trivial⟩
theorem opens_step : Opens Tryz.prog 60 (fun w cs (x : StC × Gr.Stp) => cs = encSt x.1 ∧ StepIs w x.1 x.2) := by
  intro H enc w fuel cs x hx
  obtain ⟨hl, hf⟩ := Opens.fields Tryz.underlying60 hx
  rw [cells_step] at hl
  match cs, hl with
  | [c0, c1, c2, c3, c4, c5, c6, c7, c8, c9, c10, c11, c12, c13, c14], _ =>
    obtain ⟨n0, y0, h0⟩ := hf 0 _ rfl
    obtain ⟨n1, y1, h1⟩ := hf 1 _ rfl
    obtain ⟨n2, y2, h2⟩ := hf 2 _ rfl
    have h0' : DataW.trod enc Tryz.prog w 0 (fun _ => true) true n0 3 (([c0, c1, c2, c3, c4, c5, c6, c7, c8, c9, c10, c11, c12, c13, c14].drop 0).take (Tryz.prog.cellsOf 3)) = some y0 := h0
    have h1' : DataW.trod enc Tryz.prog w 0 (fun _ => true) true n1 41 (([c0, c1, c2, c3, c4, c5, c6, c7, c8, c9, c10, c11, c12, c13, c14].drop 1).take (Tryz.prog.cellsOf 41)) = some y1 := h1
    have h2' : DataW.trod enc Tryz.prog w 0 (fun _ => true) true n2 4 (([c0, c1, c2, c3, c4, c5, c6, c7, c8, c9, c10, c11, c12, c13, c14].drop 14).take (Tryz.prog.cellsOf 4)) = some y2 := h2
    rw [cells_int1] at h0'
    rw [cells_node] at h1'
    rw [cells_bool1] at h2'
    obtain ⟨i0, e0, -⟩ := opens_int1 H enc w n0 _ _ h0'
    obtain ⟨⟨c, n⟩, e1, hn⟩ := opens_node H enc w n1 _ _ h1'
    obtain ⟨b2, e2, -⟩ := opens_bool1 H enc w n2 _ _ h2'
    simp [encNd] at e0 e1 e2
    obtain ⟨g0, g1, g2, g3, g4, g5, g6, g7, g8, g9, g10, g11, g12⟩ := e1
    subst e0 e2 g0 g1 g2 g3 g4 g5 g6 g7 g8 g9 g10 g11 g12
    exact ⟨(⟨i0, c, b2⟩, ⟨i0, n, b2⟩), rfl, ⟨rfl, hn, rfl⟩⟩
theorem steps_of {w : World} {v : Value} {l : List (StC × Gr.Stp)} (h : SlAt 15 (fun w cs (x : StC × Gr.Stp) => cs = encSt x.1 ∧ StepIs w x.1 x.2) w v l) : StepsAt w v (l.map (·.2)) := by
  obtain ⟨a, cap, rfl, hl, hm, hnil, hx⟩ := h
  refine ⟨l.map (·.1), ⟨a, cap, by simp, Nat.le_trans (by simpa using hl) hm, fun hne => ?_⟩, by simp, ?_⟩
  · obtain ⟨b, off, rfl, hc⟩ := hx (by intro e; subst e; exact hne rfl)
    refine ⟨b, off, rfl, fun i c hi j u hu => ?_⟩
    rw [List.getElem?_map] at hi
    obtain ⟨y, hy, rfl⟩ := Option.map_eq_some_iff.1 hi
    obtain ⟨cs, -, ⟨rfl, -⟩, h2⟩ := hc i y hy
    exact h2 j u hu
  · intro i c n hc hn
    rw [List.getElem?_map] at hc hn
    obtain ⟨y, hy, rfl⟩ := Option.map_eq_some_iff.1 hc
    obtain ⟨z, hz, rfl⟩ := Option.map_eq_some_iff.1 hn
    obtain rfl := Option.some.inj (hy.symm.trans hz)
    obtain ⟨b, off, rfl, hx2⟩ := hx (by intro e; subst e; simp at hy)
    obtain ⟨cs, -, ⟨-, h1⟩, -⟩ := hx2 i y hy
    exact h1
end Go.Proofs.YthlmmfljeblflaaGreatDoor

/-! Manifests as arguments. -/
namespace Go.Proofs.YthlmmfljeblflaaGreatDoor
set_option linter.unusedSimpArgs false
set_option maxRecDepth 100000
set_option linter.unusedVariables false
open Go.RowKit Ga Go.ChangeShapes Go.WideShapes

theorem cells_valM : Tryz.prog.cellsOf 47 = 2 := by kernel_rfl
theorem cells_val2 : Tryz.prog.cellsOf 48 = 4 := by kernel_rfl
theorem cells_ent : Tryz.prog.cellsOf 53 = 6 := by kernel_rfl
theorem cells_line : Tryz.prog.cellsOf 284 = 5 := by kernel_rfl
theorem cells_man : Tryz.prog.cellsOf 35 = 7 := by kernel_rfl
theorem cells_slNode : Tryz.prog.cellsOf 30 = 1 := by kernel_rfl
theorem cells_slEntry : Tryz.prog.cellsOf 31 = 1 := by kernel_rfl
theorem cells_slLine : Tryz.prog.cellsOf 32 = 1 := by kernel_rfl
theorem cells_slStep : Tryz.prog.cellsOf 33 = 1 := by kernel_rfl
theorem opens_valM : Opens Tryz.prog 47 (fun _ cs (a : Ga.Val) => cs = [Value.int .i64 a.1, Value.int .i64 a.2] ∧ True) := by
  intro H enc w fuel cs x hx
  obtain ⟨hl, hf⟩ := Opens.fields Tryz.underlying47 hx
  rw [cells_valM] at hl
  match cs, hl with
  | [c0, c1], _ =>
    obtain ⟨n0, y0, h0⟩ := hf 0 _ rfl
    obtain ⟨n1, y1, h1⟩ := hf 1 _ rfl
    have h0' : DataW.trod enc Tryz.prog w 0 (fun _ => true) true n0 3 (([c0, c1].drop 0).take (Tryz.prog.cellsOf 3)) = some y0 := h0
    rw [cells_int1] at h0'
    have h1' : DataW.trod enc Tryz.prog w 0 (fun _ => true) true n1 3 (([c0, c1].drop 1).take (Tryz.prog.cellsOf 3)) = some y1 := h1
    rw [cells_int1] at h1'
    obtain ⟨i0, e0, -⟩ := opens_int1 H enc w n0 _ _ h0'
    obtain ⟨i1, e1, -⟩ := opens_int1 H enc w n1 _ _ h1'
    simp at e0 e1
    subst e0 e1
    exact ⟨(i0, i1), rfl, trivial⟩
theorem opens_val2 : Opens Tryz.prog 48 (fun _ cs (a : Ga.Val × Ga.Val) => cs = [Value.int .i64 a.1.1, Value.int .i64 a.1.2, Value.int .i64 a.2.1, Value.int .i64 a.2.2] ∧ True) := by
  intro H enc w fuel cs x hx
  obtain ⟨hl, hf⟩ := Opens.elems Tryz.underlying48 hx
  rw [cells_val2] at hl
  match cs, hl with
  | [c0, c1, c2, c3], _ =>
    obtain ⟨m0, y0, h0⟩ := hf 0 (by decide)
    obtain ⟨m1, y1, h1⟩ := hf 1 (by decide)
    rw [cells_valM] at h0 h1
    obtain ⟨a, e0, -⟩ := opens_valM H enc w m0 _ _ h0
    obtain ⟨b, e1, -⟩ := opens_valM H enc w m1 _ _ h1
    simp at e0 e1
    obtain ⟨p0, p1⟩ := e0
    obtain ⟨p2, p3⟩ := e1
    subst p0 p1 p2 p3
    exact ⟨(a, b), rfl, trivial⟩
theorem opens_ent : Opens Tryz.prog 53 (fun _ cs (x : Tab.En) => cs = encEn x ∧ True) := by
  intro H enc w fuel cs x hx
  obtain ⟨hl, hf⟩ := Opens.fields Tryz.underlying53 hx
  rw [cells_ent] at hl
  match cs, hl with
  | [c0, c1, c2, c3, c4, c5], _ =>
    obtain ⟨n0, y0, h0⟩ := hf 0 _ rfl
    obtain ⟨n1, y1, h1⟩ := hf 1 _ rfl
    obtain ⟨n2, y2, h2⟩ := hf 2 _ rfl
    have h0' : DataW.trod enc Tryz.prog w 0 (fun _ => true) true n0 3 (([c0, c1, c2, c3, c4, c5].drop 0).take (Tryz.prog.cellsOf 3)) = some y0 := h0
    rw [cells_int1] at h0'
    have h1' : DataW.trod enc Tryz.prog w 0 (fun _ => true) true n1 3 (([c0, c1, c2, c3, c4, c5].drop 1).take (Tryz.prog.cellsOf 3)) = some y1 := h1
    rw [cells_int1] at h1'
    have h2' : DataW.trod enc Tryz.prog w 0 (fun _ => true) true n2 48 (([c0, c1, c2, c3, c4, c5].drop 2).take (Tryz.prog.cellsOf 48)) = some y2 := h2
    rw [cells_val2] at h2'
    obtain ⟨i0, e0, -⟩ := opens_int1 H enc w n0 _ _ h0'
    obtain ⟨i1, e1, -⟩ := opens_int1 H enc w n1 _ _ h1'
    obtain ⟨⟨a, b⟩, e2, -⟩ := opens_val2 H enc w n2 _ _ h2'
    simp at e0 e1 e2
    obtain ⟨p0, p1, p2, p3⟩ := e2
    subst e0 e1 p0 p1 p2 p3
    exact ⟨⟨i0, i1, a, b⟩, rfl, trivial⟩
theorem opens_line : Opens Tryz.prog 284 (fun _ cs (x : Gr.Ln) => cs = encLn x ∧ True) := by
  intro H enc w fuel cs x hx
  obtain ⟨hl, hf⟩ := Opens.fields Tryz.underlying284 hx
  rw [cells_line] at hl
  match cs, hl with
  | [c0, c1, c2, c3, c4], _ =>
    obtain ⟨n0, y0, h0⟩ := hf 0 _ rfl
    obtain ⟨n1, y1, h1⟩ := hf 1 _ rfl
    obtain ⟨n2, y2, h2⟩ := hf 2 _ rfl
    obtain ⟨n3, y3, h3⟩ := hf 3 _ rfl
    have h0' : DataW.trod enc Tryz.prog w 0 (fun _ => true) true n0 3 (([c0, c1, c2, c3, c4].drop 0).take (Tryz.prog.cellsOf 3)) = some y0 := h0
    rw [cells_int1] at h0'
    have h1' : DataW.trod enc Tryz.prog w 0 (fun _ => true) true n1 3 (([c0, c1, c2, c3, c4].drop 1).take (Tryz.prog.cellsOf 3)) = some y1 := h1
    rw [cells_int1] at h1'
    have h2' : DataW.trod enc Tryz.prog w 0 (fun _ => true) true n2 3 (([c0, c1, c2, c3, c4].drop 2).take (Tryz.prog.cellsOf 3)) = some y2 := h2
    rw [cells_int1] at h2'
    have h3' : DataW.trod enc Tryz.prog w 0 (fun _ => true) true n3 47 (([c0, c1, c2, c3, c4].drop 3).take (Tryz.prog.cellsOf 47)) = some y3 := h3
    rw [cells_valM] at h3'
    obtain ⟨i0, e0, -⟩ := opens_int1 H enc w n0 _ _ h0'
    obtain ⟨i1, e1, -⟩ := opens_int1 H enc w n1 _ _ h1'
    obtain ⟨i2, e2, -⟩ := opens_int1 H enc w n2 _ _ h2'
    obtain ⟨a, e3, -⟩ := opens_valM H enc w n3 _ _ h3'
    simp at e0 e1 e2 e3
    obtain ⟨p0, p1⟩ := e3
    subst e0 e1 e2 p0 p1
    exact ⟨⟨i0, i1, i2, a⟩, rfl, trivial⟩
theorem slice_form {α : Type} {k : Nat} {Q : World → List Value → α → Prop} {w : World} {v : Value} {l : List α} (h : SlAt k Q w v l) : ∃ a cap, v = .slice a l.length cap := by
  obtain ⟨a, cap, rfl, -⟩ := h
  exact ⟨a, cap, rfl⟩
theorem opens_man : Opens Tryz.prog 35 (fun w cs (x : MfC × Gr.Mf) => cs = [Value.int .i64 x.1.epoch, Value.int .i64 x.1.plans, .slice x.1.ao x.1.no x.1.co, .slice x.1.ag x.1.ng x.1.cg, .slice x.1.ae x.1.ne x.1.ce, .slice x.1.ax x.1.nx x.1.cx, .slice x.1.ap x.1.np x.1.cp] ∧ MfIs w x.1 x.2) := by
  intro H enc w fuel cs x hx
  obtain ⟨hl, hf⟩ := Opens.fields Tryz.underlying35 hx
  rw [cells_man] at hl
  match cs, hl with
  | [c0, c1, c2, c3, c4, c5, c6], _ =>
    obtain ⟨n0, y0, h0⟩ := hf 0 _ rfl
    obtain ⟨n1, y1, h1⟩ := hf 1 _ rfl
    obtain ⟨n2, y2, h2⟩ := hf 2 _ rfl
    obtain ⟨n3, y3, h3⟩ := hf 3 _ rfl
    obtain ⟨n4, y4, h4⟩ := hf 4 _ rfl
    obtain ⟨n5, y5, h5⟩ := hf 5 _ rfl
    obtain ⟨n6, y6, h6⟩ := hf 6 _ rfl
    have h0' : DataW.trod enc Tryz.prog w 0 (fun _ => true) true n0 3 (([c0, c1, c2, c3, c4, c5, c6].drop 0).take (Tryz.prog.cellsOf 3)) = some y0 := h0
    rw [cells_int1] at h0'
    have h1' : DataW.trod enc Tryz.prog w 0 (fun _ => true) true n1 3 (([c0, c1, c2, c3, c4, c5, c6].drop 1).take (Tryz.prog.cellsOf 3)) = some y1 := h1
    rw [cells_int1] at h1'
    have h2' : DataW.trod enc Tryz.prog w 0 (fun _ => true) true n2 29 (([c0, c1, c2, c3, c4, c5, c6].drop 2).take (Tryz.prog.cellsOf 29)) = some y2 := h2
    rw [cells_ints1] at h2'
    have h3' : DataW.trod enc Tryz.prog w 0 (fun _ => true) true n3 30 (([c0, c1, c2, c3, c4, c5, c6].drop 3).take (Tryz.prog.cellsOf 30)) = some y3 := h3
    rw [cells_slNode] at h3'
    have h4' : DataW.trod enc Tryz.prog w 0 (fun _ => true) true n4 31 (([c0, c1, c2, c3, c4, c5, c6].drop 4).take (Tryz.prog.cellsOf 31)) = some y4 := h4
    rw [cells_slEntry] at h4'
    have h5' : DataW.trod enc Tryz.prog w 0 (fun _ => true) true n5 32 (([c0, c1, c2, c3, c4, c5, c6].drop 5).take (Tryz.prog.cellsOf 32)) = some y5 := h5
    rw [cells_slLine] at h5'
    have h6' : DataW.trod enc Tryz.prog w 0 (fun _ => true) true n6 33 (([c0, c1, c2, c3, c4, c5, c6].drop 6).take (Tryz.prog.cellsOf 33)) = some y6 := h6
    rw [cells_slStep] at h6'
    obtain ⟨i0, e0, -⟩ := opens_int1 H enc w n0 _ _ h0'
    obtain ⟨i1, e1, -⟩ := opens_int1 H enc w n1 _ _ h1'
    obtain ⟨l2, v2, e2, s2⟩ := Opens.slice Tryz.underlying29 cells_int1 (by decide) opens_int1 H enc w n2 _ _ h2'
    obtain ⟨l3, v3, e3, s3⟩ := Opens.slice Tryz.underlying30 cells_node (by decide) opens_node H enc w n3 _ _ h3'
    obtain ⟨l4, v4, e4, s4⟩ := Opens.slice Tryz.underlying31 cells_ent (by decide) opens_ent H enc w n4 _ _ h4'
    obtain ⟨l5, v5, e5, s5⟩ := Opens.slice Tryz.underlying32 cells_line (by decide) opens_line H enc w n5 _ _ h5'
    obtain ⟨l6, v6, e6, s6⟩ := Opens.slice Tryz.underlying33 cells_step (by decide) opens_step H enc w n6 _ _ h6'
    obtain ⟨a2, k2, rfl⟩ := slice_form s2
    obtain ⟨a3, k3, rfl⟩ := slice_form s3
    obtain ⟨a4, k4, rfl⟩ := slice_form s4
    obtain ⟨a5, k5, rfl⟩ := slice_form s5
    obtain ⟨a6, k6, rfl⟩ := slice_form s6
    have r2 := (SlAt.rowsC (enc := fun (x : Int) => [Value.int .i64 x]) s2).1
    have r3 := nodes_of s3
    have r4 := (SlAt.rowsC (enc := encEn) s4).1
    have r5 := (SlAt.rowsC (enc := encLn) s5).1
    have r6 := steps_of s6
    simp at e0 e1 e2 e3 e4 e5 e6
    subst e0 e1 e2 e3 e4 e5 e6
    exact ⟨(⟨i0, i1, a2, l2.length, k2, a3, l3.length, k3, a4, l4.length, k4, a5, l5.length, k5, a6, l6.length, k6⟩, ⟨i0, i1, l2, l3.map (·.2), l4, l5, l6.map (·.2)⟩), rfl, rfl, rfl, r2, r3, r4, r5, r6⟩
theorem arg_man {H : Type} {enc : TypeId × Value → H} {w : World} {v : Value} {d : DataW H} {ps : List MemPlace} {r : Reach} {b : Nat} (ho : Value.okWide Tryz.prog w r b 35 v) (h : DataW.Trod enc Tryz.prog w 0 (fun _ => true) true 35 v d ps) : ∃ (c : MfC) (m : Gr.Mf), v = .agg #[.int .i64 c.epoch, .int .i64 c.plans, .slice c.ao c.no c.co, .slice c.ag c.ng c.cg, .slice c.ae c.ne c.ce, .slice c.ax c.nx c.cx, .slice c.ap c.np c.cp] ∧ MfIs w c m := by
  obtain ⟨⟨c, m⟩, h1, h2⟩ := opens_man.arg h
  exact ⟨c, m, cells_agg Tryz.underlying35 ho h1, h2⟩
end Go.Proofs.YthlmmfljeblflaaGreatDoor
