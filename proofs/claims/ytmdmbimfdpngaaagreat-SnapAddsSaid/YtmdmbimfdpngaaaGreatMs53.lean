import Derived.Test.YtmdmbimfdpngaaaGreatMs52
import Derived.Test.YtmdmbimfdpngaaaGreatMs9
import Derived.Test.YtmdmbimfdpngaaaGreatRows
/-! Steps as arguments. -/
namespace Go.Proofs.YtmdmbimfdpngaaaGreat
set_option linter.unusedSimpArgs false
set_option maxRecDepth 100000
set_option linter.unusedVariables false
open Go.RowKit Ga Go.ChangeShapes Go.WideShapes

theorem cells_step : Tryz.prog.cellsOf 78 = 15 := by kernel_rfl
theorem cells_bool1 : Tryz.prog.cellsOf 4 = 1 := by kernel_rfl
theorem opens_bool1 : Opens Tryz.prog 4 (fun _ cs (b : Bool) => cs = [Value.bool b] ∧ True) := (Opens.bool Tryz.underlying4).mono fun _ _ n h => ⟨n, h, trivial⟩
theorem opens_step : Opens Tryz.prog 78 (fun w cs (x : StC × Gr.Stp) => cs = encSt x.1 ∧ StepIs w x.1 x.2) := by
  intro H enc w fuel cs x hx
  obtain ⟨hl, hf⟩ := Opens.fields Tryz.underlying78 hx
  rw [cells_step] at hl
  match cs, hl with
  | [c0, c1, c2, c3, c4, c5, c6, c7, c8, c9, c10, c11, c12, c13, c14], _ =>
    obtain ⟨n0, y0, h0⟩ := hf 0 _ rfl
    obtain ⟨n1, y1, h1⟩ := hf 1 _ rfl
    obtain ⟨n2, y2, h2⟩ := hf 2 _ rfl
    have h0' : DataW.trod enc Tryz.prog w 0 (fun _ => true) true n0 3 (([c0, c1, c2, c3, c4, c5, c6, c7, c8, c9, c10, c11, c12, c13, c14].drop 0).take (Tryz.prog.cellsOf 3)) = some y0 := h0
    have h1' : DataW.trod enc Tryz.prog w 0 (fun _ => true) true n1 42 (([c0, c1, c2, c3, c4, c5, c6, c7, c8, c9, c10, c11, c12, c13, c14].drop 1).take (Tryz.prog.cellsOf 42)) = some y1 := h1
    have h2' : DataW.trod enc Tryz.prog w 0 (fun _ => true) true n2 4 (([c0, c1, c2, c3, c4, c5, c6, c7, c8, c9, c10, c11, c12, c13, c14].drop 14).take (Tryz.prog.cellsOf 4)) = some y2 := h2
    rw [cells_int1] at h0'
    rw [cells_node] at h1'
    rw [cells_bool1] at h2'
    obtain ⟨i0, e0, -⟩ := opens_int1 H enc w n0 _ _ h0'
    obtain ⟨⟨c, n⟩, e1, hn⟩ := opens_node H enc w n1 _ _ h1'
    obtain ⟨b2, e2, -⟩ := opens_bool1 H enc w n2 _ _ h2'
    simp [encNd] at e0 e1 e2
    obtain ⟨g0, g1, g2, g3, g4, g5, g6, g7, g8, g9, g10, g11, g12⟩ := e1
    subst e0 e2 g0 g1 g2 g3 g4 g5 g6 g7 g8 g9 g10 g11 g12
    exact ⟨(⟨i0, c, b2⟩, ⟨i0, n, b2⟩), rfl, ⟨rfl, hn, rfl⟩⟩
theorem steps_of {w : World} {v : Value} {l : List (StC × Gr.Stp)} (h : SlAt 15 (fun w cs (x : StC × Gr.Stp) => cs = encSt x.1 ∧ StepIs w x.1 x.2) w v l) : StepsAt w v (l.map (·.2)) := by
  obtain ⟨a, cap, rfl, hl, hm, hnil, hx⟩ := h
  refine ⟨l.map (·.1), ⟨a, cap, by simp, Nat.le_trans (by simpa using hl) hm, fun hne => ?_⟩, by simp, ?_⟩
  · obtain ⟨b, off, rfl, hc⟩ := hx (by intro e; subst e; exact hne rfl)
    refine ⟨b, off, rfl, fun i c hi j u hu => ?_⟩
    rw [List.getElem?_map] at hi
    obtain ⟨y, hy, rfl⟩ := Option.map_eq_some_iff.1 hi
    obtain ⟨cs, -, ⟨rfl, -⟩, h2⟩ := hc i y hy
    exact h2 j u hu
  · intro i c n hc hn
    rw [List.getElem?_map] at hc hn
    obtain ⟨y, hy, rfl⟩ := Option.map_eq_some_iff.1 hc
    obtain ⟨z, hz, rfl⟩ := Option.map_eq_some_iff.1 hn
    obtain rfl := Option.some.inj (hy.symm.trans hz)
    obtain ⟨b, off, rfl, hx2⟩ := hx (by intro e; subst e; simp at hy)
    obtain ⟨cs, -, ⟨-, h1⟩, -⟩ := hx2 i y hy
    exact h1
end Go.Proofs.YtmdmbimfdpngaaaGreat

/-! Manifests as arguments. -/
namespace Go.Proofs.YtmdmbimfdpngaaaGreat
set_option linter.unusedSimpArgs false
set_option maxRecDepth 100000
set_option linter.unusedVariables false
open Go.RowKit Ga Go.ChangeShapes Go.WideShapes

theorem cells_valM : Tryz.prog.cellsOf 44 = 2 := by kernel_rfl
theorem cells_val2 : Tryz.prog.cellsOf 45 = 4 := by kernel_rfl
theorem cells_ent : Tryz.prog.cellsOf 47 = 6 := by kernel_rfl
theorem cells_line : Tryz.prog.cellsOf 102 = 5 := by kernel_rfl
theorem cells_man : Tryz.prog.cellsOf 28 = 7 := by kernel_rfl
theorem cells_slNode : Tryz.prog.cellsOf 23 = 1 := by kernel_rfl
theorem cells_slEntry : Tryz.prog.cellsOf 24 = 1 := by kernel_rfl
theorem cells_slLine : Tryz.prog.cellsOf 25 = 1 := by kernel_rfl
theorem cells_slStep : Tryz.prog.cellsOf 26 = 1 := by kernel_rfl
theorem opens_valM : Opens Tryz.prog 44 (fun _ cs (a : Ga.Val) => cs = [Value.int .i64 a.1, Value.int .i64 a.2] ∧ True) := by
  intro H enc w fuel cs x hx
  obtain ⟨hl, hf⟩ := Opens.fields Tryz.underlying44 hx
  rw [cells_valM] at hl
  match cs, hl with
  | [c0, c1], _ =>
    obtain ⟨n0, y0, h0⟩ := hf 0 _ rfl
    obtain ⟨n1, y1, h1⟩ := hf 1 _ rfl
    have h0' : DataW.trod enc Tryz.prog w 0 (fun _ => true) true n0 3 (([c0, c1].drop 0).take (Tryz.prog.cellsOf 3)) = some y0 := h0
    rw [cells_int1] at h0'
    have h1' : DataW.trod enc Tryz.prog w 0 (fun _ => true) true n1 3 (([c0, c1].drop 1).take (Tryz.prog.cellsOf 3)) = some y1 := h1
    rw [cells_int1] at h1'
    obtain ⟨i0, e0, -⟩ := opens_int1 H enc w n0 _ _ h0'
    obtain ⟨i1, e1, -⟩ := opens_int1 H enc w n1 _ _ h1'
    simp at e0 e1
    subst e0 e1
    exact ⟨(i0, i1), rfl, trivial⟩
theorem opens_val2 : Opens Tryz.prog 45 (fun _ cs (a : Ga.Val × Ga.Val) => cs = [Value.int .i64 a.1.1, Value.int .i64 a.1.2, Value.int .i64 a.2.1, Value.int .i64 a.2.2] ∧ True) := by
  intro H enc w fuel cs x hx
  obtain ⟨hl, hf⟩ := Opens.elems Tryz.underlying45 hx
  rw [cells_val2] at hl
  match cs, hl with
  | [c0, c1, c2, c3], _ =>
    obtain ⟨m0, y0, h0⟩ := hf 0 (by decide)
    obtain ⟨m1, y1, h1⟩ := hf 1 (by decide)
    rw [cells_valM] at h0 h1
    obtain ⟨a, e0, -⟩ := opens_valM H enc w m0 _ _ h0
    obtain ⟨b, e1, -⟩ := opens_valM H enc w m1 _ _ h1
    simp at e0 e1
    obtain ⟨p0, p1⟩ := e0
    obtain ⟨p2, p3⟩ := e1
    subst p0 p1 p2 p3
    exact ⟨(a, b), rfl, trivial⟩
theorem opens_ent : Opens Tryz.prog 47 (fun _ cs (x : Tab.En) => cs = encEn x ∧ True) := by
  intro H enc w fuel cs x hx
  obtain ⟨hl, hf⟩ := Opens.fields Tryz.underlying47 hx
  rw [cells_ent] at hl
  match cs, hl with
  | [c0, c1, c2, c3, c4, c5], _ =>
    obtain ⟨n0, y0, h0⟩ := hf 0 _ rfl
    obtain ⟨n1, y1, h1⟩ := hf 1 _ rfl
    obtain ⟨n2, y2, h2⟩ := hf 2 _ rfl
    have h0' : DataW.trod enc Tryz.prog w 0 (fun _ => true) true n0 3 (([c0, c1, c2, c3, c4, c5].drop 0).take (Tryz.prog.cellsOf 3)) = some y0 := h0
    rw [cells_int1] at h0'
    have h1' : DataW.trod enc Tryz.prog w 0 (fun _ => true) true n1 3 (([c0, c1, c2, c3, c4, c5].drop 1).take (Tryz.prog.cellsOf 3)) = some y1 := h1
    rw [cells_int1] at h1'
    have h2' : DataW.trod enc Tryz.prog w 0 (fun _ => true) true n2 45 (([c0, c1, c2, c3, c4, c5].drop 2).take (Tryz.prog.cellsOf 45)) = some y2 := h2
    rw [cells_val2] at h2'
    obtain ⟨i0, e0, -⟩ := opens_int1 H enc w n0 _ _ h0'
    obtain ⟨i1, e1, -⟩ := opens_int1 H enc w n1 _ _ h1'
    obtain ⟨⟨a, b⟩, e2, -⟩ := opens_val2 H enc w n2 _ _ h2'
    simp at e0 e1 e2
    obtain ⟨p0, p1, p2, p3⟩ := e2
    subst e0 e1 p0 p1 p2 p3
    exact ⟨⟨i0, i1, a, b⟩, rfl, trivial⟩
theorem opens_line : Opens Tryz.prog 102 (fun _ cs (x : Gr.Ln) => cs = encLn x ∧ True) := by
  intro H enc w fuel cs x hx
  obtain ⟨hl, hf⟩ := Opens.fields Tryz.underlying102 hx
  rw [cells_line] at hl
  match cs, hl with
  | [c0, c1, c2, c3, c4], _ =>
    obtain ⟨n0, y0, h0⟩ := hf 0 _ rfl
    obtain ⟨n1, y1, h1⟩ := hf 1 _ rfl
    obtain ⟨n2, y2, h2⟩ := hf 2 _ rfl
    obtain ⟨n3, y3, h3⟩ := hf 3 _ rfl
    have h0' : DataW.trod enc Tryz.prog w 0 (fun _ => true) true n0 3 (([c0, c1, c2, c3, c4].drop 0).take (Tryz.prog.cellsOf 3)) = some y0 := h0
    rw [cells_int1] at h0'
    have h1' : DataW.trod enc Tryz.prog w 0 (fun _ => true) true n1 3 (([c0, c1, c2, c3, c4].drop 1).take (Tryz.prog.cellsOf 3)) = some y1 := h1
    rw [cells_int1] at h1'
    have h2' : DataW.trod enc Tryz.prog w 0 (fun _ => true) true n2 3 (([c0, c1, c2, c3, c4].drop 2).take (Tryz.prog.cellsOf 3)) = some y2 := h2
    rw [cells_int1] at h2'
    have h3' : DataW.trod enc Tryz.prog w 0 (fun _ => true) true n3 44 (([c0, c1, c2, c3, c4].drop 3).take (Tryz.prog.cellsOf 44)) = some y3 := h3
    rw [cells_valM] at h3'
    obtain ⟨i0, e0, -⟩ := opens_int1 H enc w n0 _ _ h0'
    obtain ⟨i1, e1, -⟩ := opens_int1 H enc w n1 _ _ h1'
    obtain ⟨i2, e2, -⟩ := opens_int1 H enc w n2 _ _ h2'
    obtain ⟨a, e3, -⟩ := opens_valM H enc w n3 _ _ h3'
    simp at e0 e1 e2 e3
    obtain ⟨p0, p1⟩ := e3
    subst e0 e1 e2 p0 p1
    exact ⟨⟨i0, i1, i2, a⟩, rfl, trivial⟩
theorem slice_form {α : Type} {k : Nat} {Q : World → List Value → α → Prop} {w : World} {v : Value} {l : List α} (h : SlAt k Q w v l) : ∃ a cap, v = .slice a l.length cap := by
  obtain ⟨a, cap, rfl, -⟩ := h
  exact ⟨a, cap, rfl⟩
theorem opens_man : Opens Tryz.prog 28 (fun w cs (x : MfC × Gr.Mf) => cs = [Value.int .i64 x.1.epoch, Value.int .i64 x.1.plans, .slice x.1.ao x.1.no x.1.co, .slice x.1.ag x.1.ng x.1.cg, .slice x.1.ae x.1.ne x.1.ce, .slice x.1.ax x.1.nx x.1.cx, .slice x.1.ap x.1.np x.1.cp] ∧ MfIs w x.1 x.2) := by
  intro H enc w fuel cs x hx
  obtain ⟨hl, hf⟩ := Opens.fields Tryz.underlying28 hx
  rw [cells_man] at hl
  match cs, hl with
  | [c0, c1, c2, c3, c4, c5, c6], _ =>
    obtain ⟨n0, y0, h0⟩ := hf 0 _ rfl
    obtain ⟨n1, y1, h1⟩ := hf 1 _ rfl
    obtain ⟨n2, y2, h2⟩ := hf 2 _ rfl
    obtain ⟨n3, y3, h3⟩ := hf 3 _ rfl
    obtain ⟨n4, y4, h4⟩ := hf 4 _ rfl
    obtain ⟨n5, y5, h5⟩ := hf 5 _ rfl
    obtain ⟨n6, y6, h6⟩ := hf 6 _ rfl
    have h0' : DataW.trod enc Tryz.prog w 0 (fun _ => true) true n0 3 (([c0, c1, c2, c3, c4, c5, c6].drop 0).take (Tryz.prog.cellsOf 3)) = some y0 := h0
    rw [cells_int1] at h0'
    have h1' : DataW.trod enc Tryz.prog w 0 (fun _ => true) true n1 3 (([c0, c1, c2, c3, c4, c5, c6].drop 1).take (Tryz.prog.cellsOf 3)) = some y1 := h1
    rw [cells_int1] at h1'
    have h2' : DataW.trod enc Tryz.prog w 0 (fun _ => true) true n2 22 (([c0, c1, c2, c3, c4, c5, c6].drop 2).take (Tryz.prog.cellsOf 22)) = some y2 := h2
    rw [cells_ints1] at h2'
    have h3' : DataW.trod enc Tryz.prog w 0 (fun _ => true) true n3 23 (([c0, c1, c2, c3, c4, c5, c6].drop 3).take (Tryz.prog.cellsOf 23)) = some y3 := h3
    rw [cells_slNode] at h3'
    have h4' : DataW.trod enc Tryz.prog w 0 (fun _ => true) true n4 24 (([c0, c1, c2, c3, c4, c5, c6].drop 4).take (Tryz.prog.cellsOf 24)) = some y4 := h4
    rw [cells_slEntry] at h4'
    have h5' : DataW.trod enc Tryz.prog w 0 (fun _ => true) true n5 25 (([c0, c1, c2, c3, c4, c5, c6].drop 5).take (Tryz.prog.cellsOf 25)) = some y5 := h5
    rw [cells_slLine] at h5'
    have h6' : DataW.trod enc Tryz.prog w 0 (fun _ => true) true n6 26 (([c0, c1, c2, c3, c4, c5, c6].drop 6).take (Tryz.prog.cellsOf 26)) = some y6 := h6
    rw [cells_slStep] at h6'
    obtain ⟨i0, e0, -⟩ := opens_int1 H enc w n0 _ _ h0'
    obtain ⟨i1, e1, -⟩ := opens_int1 H enc w n1 _ _ h1'
    obtain ⟨l2, v2, e2, s2⟩ := Opens.slice Tryz.underlying22 cells_int1 (by decide) opens_int1 H enc w n2 _ _ h2'
    obtain ⟨l3, v3, e3, s3⟩ := Opens.slice Tryz.underlying23 cells_node (by decide) opens_node H enc w n3 _ _ h3'
    obtain ⟨l4, v4, e4, s4⟩ := Opens.slice Tryz.underlying24 cells_ent (by decide) opens_ent H enc w n4 _ _ h4'
    obtain ⟨l5, v5, e5, s5⟩ := Opens.slice Tryz.underlying25 cells_line (by decide) opens_line H enc w n5 _ _ h5'
    obtain ⟨l6, v6, e6, s6⟩ := Opens.slice Tryz.underlying26 cells_step (by decide) opens_step H enc w n6 _ _ h6'
    obtain ⟨a2, k2, rfl⟩ := slice_form s2
    obtain ⟨a3, k3, rfl⟩ := slice_form s3
    obtain ⟨a4, k4, rfl⟩ := slice_form s4
    obtain ⟨a5, k5, rfl⟩ := slice_form s5
    obtain ⟨a6, k6, rfl⟩ := slice_form s6
    have r2 := (SlAt.rowsC (enc := fun (x : Int) => [Value.int .i64 x]) s2).1
    have r3 := nodes_of s3
    have r4 := (SlAt.rowsC (enc := encEn) s4).1
    have r5 := (SlAt.rowsC (enc := encLn) s5).1
    have r6 := steps_of s6
    simp at e0 e1 e2 e3 e4 e5 e6
    subst e0 e1 e2 e3 e4 e5 e6
    exact ⟨(⟨i0, i1, a2, l2.length, k2, a3, l3.length, k3, a4, l4.length, k4, a5, l5.length, k5, a6, l6.length, k6⟩, ⟨i0, i1, l2, l3.map (·.2), l4, l5, l6.map (·.2)⟩), rfl, rfl, rfl, r2, r3, r4, r5, r6⟩
theorem arg_man {H : Type} {enc : TypeId × Value → H} {w : World} {v : Value} {d : DataW H} {ps : List MemPlace} {r : Reach} {b : Nat} (ho : Value.okWide Tryz.prog w r b 28 v) (h : DataW.Trod enc Tryz.prog w 0 (fun _ => true) true 28 v d ps) : ∃ (c : MfC) (m : Gr.Mf), v = .agg #[.int .i64 c.epoch, .int .i64 c.plans, .slice c.ao c.no c.co, .slice c.ag c.ng c.cg, .slice c.ae c.ne c.ce, .slice c.ax c.nx c.cx, .slice c.ap c.np c.cp] ∧ MfIs w c m := by
  obtain ⟨⟨c, m⟩, h1, h2⟩ := opens_man.arg h
  exact ⟨c, m, cells_agg Tryz.underlying28 ho h1, h2⟩
end Go.Proofs.YtmdmbimfdpngaaaGreat

/-
  The statement SnapParts: called with any manifest the law returns true, and each argument reads afterwards as it read before. Conditions: none.
-/
namespace Go.Proofs.YtmdmbimfdpngaaaGreat.snapParts
set_option linter.unusedSimpArgs false
set_option linter.unusedVariables false
open Go.ChangeShapes Go.WideShapes Go.ChangeAt Go.RowKit

theorem own : ownKnob Tryz.prog.godebug = none := by kernel_rfl

set_option maxRecDepth 100000 in
theorem lifted (os : Os) (started : os.Started) (H : Type) (enc : TypeId × Value → H) :
    ReturnsInHanded {} Tryz.checked os 3 .any (Rows.snapPartsSpec.pre6 enc Tryz.prog Tryz.f3 Rows.snapPartsRow.domain false) (Rows.snapPartsSpec.post enc Tryz.prog Tryz.f3 false true false false) := by
  refine returnsInHanded_of_change (C := Tryz.checked) own started (by kernel_rfl) Tryz.func3
    (ChangeSpec.witness6 (enc := enc) (C := Tryz.checked) false ⟨#[], #[.agg #[.int .i64 0, .int .i64 0, .slice none 0 0, .slice none 0 0, .slice none 0 0, .slice none 0 0, .slice none 0 0]], []⟩ 8 (by kernel_rfl) (by kernel_rfl) (by kernel_rfl) (by kernel_rfl)) ?_
  intro W base args ds gs before hval0 hW _ _
  have hval : ∀ (j : Nat) t v, Tryz.f3.params[j]? = some t → args[j]? = some v → Value.okWide Tryz.prog W .any base t v := hval0
  have hW' := hW
  obtain ⟨p, q, hA0, hV, rfl, _, _⟩ := hW
  have hA : DataW.TrodAll enc Tryz.prog W 0 (fun _ => true) true Tryz.f3.params.toList args.toList ds p := hA0
  rw [Tryz.params3] at hA hval
  obtain ⟨v0, d0, rfl, rfl, h0⟩ := trodAll_one hA
  obtain ⟨c, m, rfl, hm⟩ := arg_man (hval 0 _ _ rfl rfl) h0
  refine (snapPartsLaw_any c m W hm).mono fun e W' he => ?_
  obtain ⟨rfl, hg⟩ := he
  exact ⟨_, rfl, law_post laidOut (by kernel_rfl) rfl rfl Tryz.underlying4 hW' (fun gs h => by subst h; rfl) hg⟩

theorem holds : Rows.SnapPartsSaid :=
  OpenClaim.holds_of_wide 3 Tryz.f3 rfl rfl rfl rfl rfl rfl rfl ⟨rfl, rfl, rfl, rfl, rfl⟩ rfl rfl rfl rfl rfl (by kernel_rfl) Tryz.func3 (by kernel_rfl)
    (of_decide_eq_true (by kernel_rfl)) (by unfold Func.isWrapper; rw [if_neg (of_decide_eq_false (by kernel_rfl))]; exact ⟨rfl, rfl⟩)
    (fun os started H enc _ => lifted os started H enc)
#print axioms holds
end Go.Proofs.YtmdmbimfdpngaaaGreat.snapParts
