import Derived.Test.YtekkkmkhnphlhaaGreatDoorGh9
import Derived.Test.YtekkkmkhnphlhaaGreatDoorGh0
/-! Nodes as arguments. -/
namespace Go.Proofs.YtekkkmkhnphlhaaGreatDoor
set_option linter.unusedSimpArgs false
set_option maxRecDepth 100000
set_option linter.unusedVariables false
open Go.RowKit Ga Go.ChangeShapes Go.WideShapes

theorem cells_int1 : Tryz.prog.cellsOf 3 = 1 := by kernel_rfl
theorem cells_ints1 : Tryz.prog.cellsOf 56 = 1 := by kernel_rfl
theorem cells_ins : Tryz.prog.cellsOf 142 = 2 := by kernel_rfl
theorem cells_inss1 : Tryz.prog.cellsOf 57 = 1 := by kernel_rfl
theorem cells_arr8 : Tryz.prog.cellsOf 58 = 8 := by kernel_rfl
theorem cells_node : Tryz.prog.cellsOf 60 = 13 := by kernel_rfl
theorem laidOut : laidOutB Tryz.prog = true := by kernel_rfl
theorem opens_int1 : Opens Tryz.prog 3 (fun _ cs (n : Int) => cs = [Value.int .i64 n] ∧ True) := (Opens.i64 Tryz.underlying3).mono fun _ _ n h => ⟨n, h.1, trivial⟩
theorem opens_insN : Opens Tryz.prog 142 (fun _ cs (a : Ga.Val) => cs = [Value.int .i64 a.1, Value.int .i64 a.2] ∧ True) := by
  intro H enc w fuel cs x hx
  obtain ⟨hl, hf⟩ := Opens.fields Tryz.underlying142 hx
  rw [cells_ins] at hl
  match cs, hl with
  | [c0, c1], _ =>
    obtain ⟨n0, y0, h0⟩ := hf 0 _ rfl
    obtain ⟨n1, y1, h1⟩ := hf 1 _ rfl
    have h0' : DataW.trod enc Tryz.prog w 0 (fun _ => true) true n0 3 (([c0, c1].drop 0).take (Tryz.prog.cellsOf 3)) = some y0 := h0
    have h1' : DataW.trod enc Tryz.prog w 0 (fun _ => true) true n1 3 (([c0, c1].drop 1).take (Tryz.prog.cellsOf 3)) = some y1 := h1
    rw [cells_int1] at h0' h1'
    obtain ⟨i0, e0, -⟩ := opens_int1 H enc w n0 _ _ h0'
    obtain ⟨i1, e1, -⟩ := opens_int1 H enc w n1 _ _ h1'
    simp at e0 e1
    subst e0 e1
    exact ⟨(i0, i1), rfl, trivial⟩
/-- a slice and how far it may grow -/
theorem SlAt.rowsC {α : Type} {k : Nat} {enc : α → List Value} {w : World} {v : Value} {l : List α} (h : SlAt k (fun _ cs (a : α) => cs = enc a ∧ True) w v l) : RowsAt k enc w v l ∧ ∃ a cap, v = .slice a l.length cap ∧ l.length ≤ cap := by
  refine ⟨h.rows.1, ?_⟩
  obtain ⟨a, cap, rfl, hl, -⟩ := h
  exact ⟨a, cap, rfl, hl⟩
theorem opens_node : Opens Tryz.prog 60 (fun w cs (x : NdC × Gr.Nd) => cs = encNd x.1 ∧ NodeIs w x.1 x.2) := by
  intro H enc w fuel cs x hx
  obtain ⟨hl, hf⟩ := Opens.fields Tryz.underlying60 hx
  rw [cells_node] at hl
  match cs, hl with
  | [c0, c1, c2, c3, c4, c5, c6, c7, c8, c9, c10, c11, c12], _ =>
    obtain ⟨n0, y0, h0⟩ := hf 0 _ rfl
    obtain ⟨n1, y1, h1⟩ := hf 1 _ rfl
    obtain ⟨n2, y2, h2⟩ := hf 2 _ rfl
    obtain ⟨n3, y3, h3⟩ := hf 3 _ rfl
    obtain ⟨n4, y4, h4⟩ := hf 4 _ rfl
    obtain ⟨n5, y5, h5⟩ := hf 5 _ rfl
    have h0' : DataW.trod enc Tryz.prog w 0 (fun _ => true) true n0 3 (([c0, c1, c2, c3, c4, c5, c6, c7, c8, c9, c10, c11, c12].drop 0).take (Tryz.prog.cellsOf 3)) = some y0 := h0
    have h1' : DataW.trod enc Tryz.prog w 0 (fun _ => true) true n1 3 (([c0, c1, c2, c3, c4, c5, c6, c7, c8, c9, c10, c11, c12].drop 1).take (Tryz.prog.cellsOf 3)) = some y1 := h1
    have h2' : DataW.trod enc Tryz.prog w 0 (fun _ => true) true n2 56 (([c0, c1, c2, c3, c4, c5, c6, c7, c8, c9, c10, c11, c12].drop 2).take (Tryz.prog.cellsOf 56)) = some y2 := h2
    have h3' : DataW.trod enc Tryz.prog w 0 (fun _ => true) true n3 57 (([c0, c1, c2, c3, c4, c5, c6, c7, c8, c9, c10, c11, c12].drop 3).take (Tryz.prog.cellsOf 57)) = some y3 := h3
    have h4' : DataW.trod enc Tryz.prog w 0 (fun _ => true) true n4 3 (([c0, c1, c2, c3, c4, c5, c6, c7, c8, c9, c10, c11, c12].drop 4).take (Tryz.prog.cellsOf 3)) = some y4 := h4
    have h5' : DataW.trod enc Tryz.prog w 0 (fun _ => true) true n5 58 (([c0, c1, c2, c3, c4, c5, c6, c7, c8, c9, c10, c11, c12].drop 5).take (Tryz.prog.cellsOf 58)) = some y5 := h5
    rw [cells_int1] at h0' h1' h4'
    rw [cells_ints1] at h2'
    rw [cells_inss1] at h3'
    rw [cells_arr8] at h5'
    obtain ⟨i0, e0, -⟩ := opens_int1 H enc w n0 _ _ h0'
    obtain ⟨i1, e1, -⟩ := opens_int1 H enc w n1 _ _ h1'
    obtain ⟨i4, e4, -⟩ := opens_int1 H enc w n4 _ _ h4'
    obtain ⟨l2, v2, e2, s2⟩ := Opens.slice Tryz.underlying56 cells_int1 (by decide) opens_int1 H enc w n2 _ _ h2'
    obtain ⟨l3, v3, e3, s3⟩ := Opens.slice Tryz.underlying57 cells_ins (by decide) opens_insN H enc w n3 _ _ h3'
    obtain ⟨hl5, hf5⟩ := Opens.elems Tryz.underlying58 h5'
    obtain ⟨r2, a2, k2, rfl, hk2⟩ := SlAt.rowsC (enc := fun (x : Int) => [Value.int .i64 x]) s2
    obtain ⟨r3, a3, k3, rfl, hk3⟩ := SlAt.rowsC (enc := fun (a : Ga.Val) => [Value.int .i64 a.1, Value.int .i64 a.2]) s3
    have hr : ∀ i, i < 8 → ∃ r : Int, (([c5, c6, c7, c8, c9, c10, c11, c12].drop i).take 1) = [Value.int .i64 r] := fun i hi => by
      obtain ⟨m, y, h⟩ := hf5 i hi
      rw [cells_int1, Nat.mul_one] at h
      obtain ⟨r, e, -⟩ := opens_int1 H enc w m _ _ h
      exact ⟨r, e⟩
    obtain ⟨q0, g0⟩ := hr 0 (by decide)
    obtain ⟨q1, g1⟩ := hr 1 (by decide)
    obtain ⟨q2, g2⟩ := hr 2 (by decide)
    obtain ⟨q3, g3⟩ := hr 3 (by decide)
    obtain ⟨q4, g4⟩ := hr 4 (by decide)
    obtain ⟨q5, g5⟩ := hr 5 (by decide)
    obtain ⟨q6, g6⟩ := hr 6 (by decide)
    obtain ⟨q7, g7⟩ := hr 7 (by decide)
    simp at e0 e1 e2 e3 e4 g0 g1 g2 g3 g4 g5 g6 g7
    subst e0 e1 e2 e3 e4 g0 g1 g2 g3 g4 g5 g6 g7
    exact ⟨(⟨i0, i1, a2, l2.length, k2, a3, l3.length, k3, i4, q0, q1, q2, q3, q4, q5, q6, q7⟩, ⟨i0, i1, l2, l3, i4, [q0, q1, q2, q3, q4, q5, q6, q7]⟩), rfl, rfl, rfl, r2, r3, rfl, rfl, hk2⟩
theorem nodes_of {w : World} {v : Value} {l : List (NdC × Gr.Nd)} (h : SlAt 13 (fun w cs (x : NdC × Gr.Nd) => cs = encNd x.1 ∧ NodeIs w x.1 x.2) w v l) : NodesAt w v (l.map (·.2)) := by
  obtain ⟨a, cap, rfl, hl, hm, hnil, hx⟩ := h
  refine ⟨l.map (·.1), ⟨a, cap, by simp, Nat.le_trans (by simpa using hl) hm, fun hne => ?_⟩, by simp, ?_⟩
  · obtain ⟨b, off, rfl, hc⟩ := hx (by intro e; subst e; exact hne rfl)
    refine ⟨b, off, rfl, fun i c hi j u hu => ?_⟩
    rw [List.getElem?_map] at hi
    obtain ⟨y, hy, rfl⟩ := Option.map_eq_some_iff.1 hi
    obtain ⟨cs, -, ⟨rfl, -⟩, h2⟩ := hc i y hy
    exact h2 j u hu
  · intro i c n hc hn
    rw [List.getElem?_map] at hc hn
    obtain ⟨y, hy, rfl⟩ := Option.map_eq_some_iff.1 hc
    obtain ⟨z, hz, rfl⟩ := Option.map_eq_some_iff.1 hn
    obtain rfl := Option.some.inj (hy.symm.trans hz)
    obtain ⟨b, off, rfl, hx2⟩ := hx (by intro e; subst e; simp at hy)
    obtain ⟨cs, -, ⟨-, h1⟩, -⟩ := hx2 i y hy
    exact h1
theorem arg_nodes {H : Type} {enc : TypeId × Value → H} {w : World} {v : Value} {d : DataW H} {ps : List MemPlace} {r : Reach} {b : Nat} (ho : Value.okWide Tryz.prog w r b 43 v) (h : DataW.Trod enc Tryz.prog w 0 (fun _ => true) true 43 v d ps) : ∃ l, NodesAt w v l := by
  obtain ⟨l, u, h1, h2⟩ := (Opens.slice Tryz.underlying43 cells_node (by decide) opens_node).arg h
  obtain rfl := cells_slice Tryz.underlying43 ho h1
  exact ⟨_, nodes_of h2⟩
end Go.Proofs.YtekkkmkhnphlhaaGreatDoor
