import Derived.Test.YthlmmfljeblflaaGreatDoorMc9
import Derived.Test.YthlmmfljeblflaaGreatDoorMc6
import Derived.Test.YthlmmfljeblflaaGreatDoorMc0
import Derived.Deep.DeepCutAuto
import Derived.Deep.QuietTactic
import Derived.RegionTactic
import Derived.Test.YthlmmfljeblflaaGreatDoorMc10
import Derived.BigQuiet
/-! Steps in memory: fifteen cells each. -/
namespace Go.Proofs.YthlmmfljeblflaaGreatDoor
set_option linter.unusedSimpArgs false
set_option linter.unusedVariables false
open Go.RowKit Ga
set_option maxRecDepth 100000

/-- a step as it lies -/
structure StC where
  kind : Int
  c : NdC
  reset : Bool
instance : Inhabited StC := ⟨⟨0, default, false⟩⟩
def encSt (s : StC) : List Value := [.int .i64 s.kind, .int .i64 s.c.id, .int .i64 s.c.kind, .slice s.c.af s.c.nf s.c.cf, .slice s.c.ap s.c.np s.c.cp, .int .i64 s.c.par, .int .i64 s.c.r0, .int .i64 s.c.r1, .int .i64 s.c.r2, .int .i64 s.c.r3, .int .i64 s.c.r4, .int .i64 s.c.r5, .int .i64 s.c.r6, .int .i64 s.c.r7, .bool s.reset]
theorem encSt_len (s : StC) : (encSt s).length = 15 := rfl
structure StepIs (w : World) (c : StC) (s : Gr.Stp) : Prop where
  kind : s.kind = c.kind
  nd : NodeIs w c.c s.nd
  reset : s.reset = c.reset
theorem StepIs.grew {w w' : World} {c : StC} {s : Gr.Stp} (h : StepIs w c s) (g : Grew w w') : StepIs w' c s := { h with nd := h.nd.grew g }
def StepsAt (w : World) (v : Value) (l : List Gr.Stp) : Prop := ∃ lc : List StC, RowsAt 15 encSt w v lc ∧ lc.length = l.length ∧ ∀ (i : Nat) (c : StC) (s : Gr.Stp), lc[i]? = some c → l[i]? = some s → StepIs w c s
theorem StepsAt.grew {w w' : World} {v : Value} {l : List Gr.Stp} (h : StepsAt w v l) (g : Grew w w') : StepsAt w' v l := by
  obtain ⟨lc, h1, h2, h3⟩ := h
  exact ⟨lc, h1.grew g, h2, fun i c n hc hn => (h3 i c n hc hn).grew g⟩
theorem StepsAt.nil (w : World) : StepsAt w (.slice none 0 0) [] := ⟨[], RowsAt.nil, rfl, fun i c n h => by simp at h⟩
theorem StepsAt.openC {w : World} {v : Value} {l : List Gr.Stp} (h : StepsAt w v l) : ∃ a cap, v = .slice a l.length cap ∧ l.length ≤ 9223372036854775807 ∧ ∀ i (hi : i < l.length), ∃ b off c, a = some ⟨b, off, none⟩ ∧ Pre b w ∧ StepIs w c l[i] ∧
    w.cell? ⟨b, off + i * 15, none⟩ = some (.int .i64 c.kind) ∧
    w.cell? ⟨b, off + i * 15 + 1, none⟩ = some (.int .i64 c.c.id) ∧
    w.cell? ⟨b, off + i * 15 + 2, none⟩ = some (.int .i64 c.c.kind) ∧
    w.cell? ⟨b, off + i * 15 + 3, none⟩ = some (.slice c.c.af c.c.nf c.c.cf) ∧
    w.cell? ⟨b, off + i * 15 + 4, none⟩ = some (.slice c.c.ap c.c.np c.c.cp) ∧
    w.cell? ⟨b, off + i * 15 + 5, none⟩ = some (.int .i64 c.c.par) ∧
    w.cell? ⟨b, off + i * 15 + 6, none⟩ = some (.int .i64 c.c.r0) ∧
    w.cell? ⟨b, off + i * 15 + 7, none⟩ = some (.int .i64 c.c.r1) ∧
    w.cell? ⟨b, off + i * 15 + 8, none⟩ = some (.int .i64 c.c.r2) ∧
    w.cell? ⟨b, off + i * 15 + 9, none⟩ = some (.int .i64 c.c.r3) ∧
    w.cell? ⟨b, off + i * 15 + 10, none⟩ = some (.int .i64 c.c.r4) ∧
    w.cell? ⟨b, off + i * 15 + 11, none⟩ = some (.int .i64 c.c.r5) ∧
    w.cell? ⟨b, off + i * 15 + 12, none⟩ = some (.int .i64 c.c.r6) ∧
    w.cell? ⟨b, off + i * 15 + 13, none⟩ = some (.int .i64 c.c.r7) ∧
    w.cell? ⟨b, off + i * 15 + 14, none⟩ = some (.bool c.reset) := by
  obtain ⟨lc, ⟨a, cap, rfl, hm, hx⟩, h2, h3⟩ := h
  refine ⟨a, cap, by rw [h2], by unfold maxLen at hm; omega, fun i hi => ?_⟩
  have hi' : i < lc.length := by omega
  obtain ⟨b, off, rfl, hc⟩ := hx (by intro e; subst e; simp at hi')
  have hn := h3 i lc[i] l[i] (List.getElem?_eq_getElem hi') (List.getElem?_eq_getElem hi)
  have hj := fun j u => hc i lc[i] (List.getElem?_eq_getElem hi') j u
  have h0 := hj 0 _ rfl
  exact ⟨b, off, lc[i], rfl, Pre.mk (World.block_lt_of_cell? w _ h0), hn, h0, hj 1 _ rfl, hj 2 _ rfl, hj 3 _ rfl, hj 4 _ rfl, hj 5 _ rfl, hj 6 _ rfl, hj 7 _ rfl, hj 8 _ rfl, hj 9 _ rfl, hj 10 _ rfl, hj 11 _ rfl, hj 12 _ rfl, hj 13 _ rfl, hj 14 _ rfl⟩
/-- .. written out -/
theorem StepIs.lit {w : World} {c : StC} {s : Gr.Stp} (h : StepIs w c s) : ∃ kind reset id kd af cf ap cp par r0 r1 r2 r3 r4 r5 r6 r7, c = ⟨kind, ⟨id, kd, af, s.nd.frm.length, cf, ap, s.nd.prog.length, cp, par, r0, r1, r2, r3, r4, r5, r6, r7⟩, reset⟩ := by
  obtain ⟨kind, c, reset⟩ := c
  obtain ⟨id, kd, af, cf, ap, cp, par, r0, r1, r2, r3, r4, r5, r6, r7, e⟩ := h.nd.lit
  simp only at e
  subst e
  exact ⟨_, _, _, _, _, _, _, _, _, _, _, _, _, _, _, _, _, rfl⟩
/-- a node alone in a slice just made -/
theorem NodesAt.one {w : World} {c : NdC} {n : Gr.Nd} (h : NodeIs w c n) (k : Nat) (hk : k = w.heap.size) (cs : List Value) (hcs : cs = encNd c) : NodesAt (w.alloc (.cells cs.toArray 41)) (.slice (some ⟨k, 0, none⟩) 1 1) [n] := by
  refine ⟨[c], RowsAt.fresh (l := [c]) rfl (by simp [maxLen]) encNd_len hk (by rw [hcs]; simp), rfl, ?_⟩
  intro i c' n' h1 h2
  match i with
  | 0 =>
    cases h1
    cases h2
    exact h.grew ((Grew.refl _).alloc _)
  | i + 1 => cases h1
end Go.Proofs.YthlmmfljeblflaaGreatDoor

/-! forebayref13.Clean. -/
namespace Go.Proofs.YthlmmfljeblflaaGreatDoor
set_option linter.unusedSimpArgs false
set_option linter.unusedVariables false
open Go.RowKit Ga
set_option maxRecDepth 100000

end Go.Proofs.YthlmmfljeblflaaGreatDoor

/-! forebayref07.Val, Right, Rec. -/
namespace Go.Proofs.YthlmmfljeblflaaGreatDoor
set_option linter.unusedSimpArgs false
set_option linter.unusedVariables false
open Go.RowKit Ga
set_option maxRecDepth 100000

set_option maxHeartbeats 1000000 in
theorem refVal07_any (x y : Int) (w : World) : Calls Tryz.prog 22 #[.agg #[.int .i64 x, .int .i64 y]] w (Gives (.bool (rightV (x, y))) w) := by
  have H : rightV (x, y) = (decide (into x = x) && decide (into y = y)) := by
    unfold rightV; simp only [eq_comm]
  by_cases h1 : into x = x <;> by_cases h2 : into y = y
  all_goals
    rw [H]
    simp only [h1, h2, decide_true, decide_false, Bool.and_true, Bool.and_false, Bool.and_self]
    clear H
    try (have h1' : ¬ x = into x := fun e => h1 e.symm)
    try (have h2' : ¬ y = into y := fun e => h2 e.symm)
    go_enter Tryz.func22, Tryz.ntmps22
    go_wp2
    refine wp_region_seq 8 Tryz.mixed (by kernel_rfl) (by kernel_rfl) ?_
    iterate 8
      apply Seq.val
      focus
        rintro w1 u ⟨R1, n1, rfl⟩ -
        simp [putFacts, Oper.deps, Region.binds, List.filter_cons, Region.dstOf, Fact.at, Act.put, World.more_drew]
        go_wp2_with (first
        | (go_at_call 36; refine (refOf_any _ _ _).mono ?_; rintro e w1 ⟨rfl, R1, n1, rfl⟩))
        exact ⟨by repeat (first | exact Grew.refl _ | apply Grew.more | apply Grew.alloc | apply Grew.drew), rfl, _, _, rfl, rfl, rfl⟩
    rintro u w1 ⟨R1, n1, rfl⟩ -
    simp [putFacts, Region.dstOf, Fact.at, Act.put, List.range_succ, World.more_drew]
    go_wp2
    go_ret
    refine ⟨by simp [h1, h2], ?_⟩
    repeat (first | exact Grew.refl _ | apply Grew.more | apply Grew.alloc | apply Grew.drew)
set_option maxHeartbeats 4000000 in
theorem refRight07_any (nd ky p0 q0 p1 q1 : Int) (w : World) : Calls Tryz.prog 12 #[.agg #[.int .i64 nd, .int .i64 ky, .int .i64 p0, .int .i64 q0, .int .i64 p1, .int .i64 q1]] w (Gives (.bool (okEn ⟨nd, ky, (p0, q0), (p1, q1)⟩)) w) := by
  obtain ⟨r, hr⟩ : ∃ r, okEn ⟨nd, ky, (p0, q0), (p1, q1)⟩ = r := ⟨_, rfl⟩
  rw [hr]
  have hr2 : r = (decide (0 ≤ nd) && decide (nd < 8) && decide (0 ≤ ky) && decide (ky < 64) && (rightV (p0, q0) && rightV (p1, q1))) := hr.symm
  clear hr
  have HV0 := Lib.hid fun W => refVal07_any p0 q0 W
  have HV1 := Lib.hid fun W => refVal07_any p1 q1 W
  generalize rightV (p0, q0) = b0 at *
  generalize rightV (p1, q1) = b1 at *
  by_cases h1 : 0 ≤ nd
  case neg =>
    have hr3 : r = false := by rw [hr2]; simp [h1]
    subst hr3
    clear HV0 HV1 hr2
    go_enter Tryz.func12, Tryz.ntmps12
    go_wp2
    go_ret
    exact ⟨rfl, by repeat (first | with_reducible exact Grew.refl _ | apply Grew.more | apply Grew.alloc | apply Grew.drew | apply Grew.drewN)⟩
  by_cases h2 : nd < 8
  case neg =>
    have hr3 : r = false := by rw [hr2]; simp [h2]
    subst hr3
    clear HV0 HV1 hr2
    go_enter Tryz.func12, Tryz.ntmps12
    go_wp2
    go_ret
    exact ⟨rfl, by repeat (first | with_reducible exact Grew.refl _ | apply Grew.more | apply Grew.alloc | apply Grew.drew | apply Grew.drewN)⟩
  by_cases h3 : 0 ≤ ky
  case neg =>
    have hr3 : r = false := by rw [hr2]; simp [h3]
    subst hr3
    clear HV0 HV1 hr2
    go_enter Tryz.func12, Tryz.ntmps12
    go_wp2
    go_ret
    exact ⟨rfl, by repeat (first | with_reducible exact Grew.refl _ | apply Grew.more | apply Grew.alloc | apply Grew.drew | apply Grew.drewN)⟩
  by_cases h4 : ky < 64
  case neg =>
    have hr3 : r = false := by rw [hr2]; simp [h4]
    subst hr3
    clear HV0 HV1 hr2
    go_enter Tryz.func12, Tryz.ntmps12
    go_wp2
    go_ret
    exact ⟨rfl, by repeat (first | with_reducible exact Grew.refl _ | apply Grew.more | apply Grew.alloc | apply Grew.drew | apply Grew.drewN)⟩
  simp only [h1, h2, h3, h4, decide_true, Bool.true_and] at hr2
  cases b0
  · subst hr2
    go_enter Tryz.func12, Tryz.ntmps12
    go_wp2_with (go_at_call 22; refine (HV0.out _).mono ?_; rintro e w1 ⟨rfl, R1, n1, rfl⟩)
    go_ret
    exact ⟨rfl, by repeat (first | with_reducible exact Grew.refl _ | apply Grew.more | apply Grew.alloc | apply Grew.drew | apply Grew.drewN)⟩
  · obtain rfl : r = b1 := by simpa using hr2
    clear hr2
    go_enter Tryz.func12, Tryz.ntmps12
    go_wp2_with fail
    refine (HV0.out _).mono ?_
    rintro e w1 ⟨rfl, R1, n1, rfl⟩
    go_wp2_with fail
    refine (HV1.out _).mono ?_
    rintro e w1 ⟨rfl, R2, n2, rfl⟩
    go_wp2
    go_ret
    exact ⟨rfl, by repeat (first | with_reducible exact Grew.refl _ | apply Grew.more | apply Grew.alloc | apply Grew.drew | apply Grew.drewN)⟩
end Go.Proofs.YthlmmfljeblflaaGreatDoor
