import Derived.Test.YtangapokicnfgaaGreatMq7
import Derived.Test.YtangapokicnfgaaGreatMq8
import Derived.Deep.DeepCutAuto
import Derived.Deep.QuietTactic
import Derived.RegionTactic
import Derived.Test.YtangapokicnfgaaGreatMq6
import Derived.Test.YtangapokicnfgaaGreatMq3
/-! forebayref13.Clean. -/
namespace Go.Proofs.YtangapokicnfgaaGreat
set_option linter.unusedSimpArgs false
set_option linter.unusedVariables false
open Go.RowKit Ga
set_option maxRecDepth 100000

def zeroNd (id : Int) : NdC := ⟨id, 0, none, 0, 0, none, 0, 0, 0, 0, 0, 0, 0, 0, 0, 0, 0⟩
/-- a step's cells without what doesn't matter -/
def cleanC (c : StC) : StC :=
  if c.kind = 1 then ⟨1, { zeroNd c.c.id with ap := c.c.ap, np := c.c.np, cp := c.c.cp }, c.reset⟩
  else if c.kind = 2 then ⟨2, c.c, false⟩
  else if c.kind = 3 then ⟨3, zeroNd c.c.id, false⟩
  else if c.kind = 4 then ⟨4, ⟨c.c.id, 0, none, 0, 0, none, 0, 0, c.c.par, c.c.r0, c.c.r1, c.c.r2, c.c.r3, c.c.r4, c.c.r5, c.c.r6, c.c.r7⟩, false⟩
  else if c.kind = 5 then ⟨5, { zeroNd c.c.id with af := c.c.af, nf := c.c.nf, cf := c.c.cf }, false⟩
  else ⟨0, zeroNd 0, false⟩
theorem zeros_is : Gr.zeros = [0, 0, 0, 0, 0, 0, 0, 0] := rfl
theorem StepIs.clean {w : World} {c : StC} {s : Gr.Stp} (h : StepIs w c s) : StepIs w (cleanC c) (Gr.cleanS s) := by
  obtain ⟨hk, hn, hr⟩ := h
  unfold cleanC Gr.cleanS
  rw [hk]
  by_cases h1 : c.kind = 1
  · rw [if_pos h1, if_pos h1]
    exact ⟨rfl, ⟨hn.id, rfl, RowsAt.nil, hn.p, rfl, rfl, Nat.zero_le _⟩, hr⟩
  rw [if_neg h1, if_neg h1]
  by_cases h2 : c.kind = 2
  · rw [if_pos h2, if_pos h2]
    exact ⟨rfl, hn, rfl⟩
  rw [if_neg h2, if_neg h2]
  by_cases h3 : c.kind = 3
  · rw [if_pos h3, if_pos h3]
    exact ⟨rfl, ⟨hn.id, rfl, RowsAt.nil, RowsAt.nil, rfl, rfl, Nat.zero_le _⟩, rfl⟩
  rw [if_neg h3, if_neg h3]
  by_cases h4 : c.kind = 4
  · rw [if_pos h4, if_pos h4]
    exact ⟨rfl, ⟨hn.id, rfl, RowsAt.nil, RowsAt.nil, hn.par, hn.route, Nat.zero_le _⟩, rfl⟩
  rw [if_neg h4, if_neg h4]
  by_cases h5 : c.kind = 5
  · rw [if_pos h5, if_pos h5]
    exact ⟨rfl, ⟨hn.id, rfl, hn.f, RowsAt.nil, rfl, rfl, hn.fc⟩, rfl⟩
  rw [if_neg h5, if_neg h5]
  exact ⟨rfl, ⟨rfl, rfl, RowsAt.nil, RowsAt.nil, rfl, rfl, Nat.zero_le _⟩, rfl⟩
theorem set15 {W : World} {q : Nat} {t : TypeId} {u0 u1 u2 u3 u4 u5 u6 u7 u8 u9 u10 u11 u12 u13 u14 : Value} (h : W.heap[q]? = some (.cells #[u0, u1, u2, u3, u4, u5, u6, u7, u8, u9, u10, u11, u12, u13, u14] t)) (v0 v1 v2 v3 v4 v5 v6 v7 v8 v9 v10 v11 v12 v13 v14 : Value) : (((((((((((((((W.setCell ⟨q, 0, none⟩ v0).setCell ⟨q, 1, none⟩ v1).setCell ⟨q, 2, none⟩ v2).setCell ⟨q, 3, none⟩ v3).setCell ⟨q, 4, none⟩ v4).setCell ⟨q, 5, none⟩ v5).setCell ⟨q, 6, none⟩ v6).setCell ⟨q, 7, none⟩ v7).setCell ⟨q, 8, none⟩ v8).setCell ⟨q, 9, none⟩ v9).setCell ⟨q, 10, none⟩ v10).setCell ⟨q, 11, none⟩ v11).setCell ⟨q, 12, none⟩ v12).setCell ⟨q, 13, none⟩ v13).setCell ⟨q, 14, none⟩ v14).heap[q]? = some (.cells #[v0, v1, v2, v3, v4, v5, v6, v7, v8, v9, v10, v11, v12, v13, v14] t) := by
  have h0 := set_self (o := 0) (v := v0) h
  simp at h0
  have h1 := set_self (o := 1) (v := v1) h0
  simp at h1
  have h2 := set_self (o := 2) (v := v2) h1
  simp at h2
  have h3 := set_self (o := 3) (v := v3) h2
  simp at h3
  have h4 := set_self (o := 4) (v := v4) h3
  simp at h4
  have h5 := set_self (o := 5) (v := v5) h4
  simp at h5
  have h6 := set_self (o := 6) (v := v6) h5
  simp at h6
  have h7 := set_self (o := 7) (v := v7) h6
  simp at h7
  have h8 := set_self (o := 8) (v := v8) h7
  simp at h8
  have h9 := set_self (o := 9) (v := v9) h8
  simp at h9
  have h10 := set_self (o := 10) (v := v10) h9
  simp at h10
  have h11 := set_self (o := 11) (v := v11) h10
  simp at h11
  have h12 := set_self (o := 12) (v := v12) h11
  simp at h12
  have h13 := set_self (o := 13) (v := v13) h12
  simp at h13
  have h14 := set_self (o := 14) (v := v14) h13
  simp at h14
  exact h14
theorem res_clean13 {W : World} {tmps : Array Value} {q : Nat} {v0 v1 v2 v3 v4 v5 v6 v7 v8 v9 v10 v11 v12 v13 v14 : Value} (ht : tmps[2]? = some (.pointer (some ⟨q, 0, none⟩))) (h : W.heap[q]? = some (.cells #[v0, v1, v2, v3, v4, v5, v6, v7, v8, v9, v10, v11, v12, v13, v14] 47)) :
    (results Tryz.f19 tmps).run Tryz.prog W = .ok (.agg #[v0, v1, v2, v3, v4, v5, v6, v7, v8, v9, v10, v11, v12, v13, v14]) W := by
  have c0 := cell_of (o := 0) h
  have c1 := cell_of (o := 1) h
  have c2 := cell_of (o := 2) h
  have c3 := cell_of (o := 3) h
  have c4 := cell_of (o := 4) h
  have c5 := cell_of (o := 5) h
  have c6 := cell_of (o := 6) h
  have c7 := cell_of (o := 7) h
  have c8 := cell_of (o := 8) h
  have c9 := cell_of (o := 9) h
  have c10 := cell_of (o := 10) h
  have c11 := cell_of (o := 11) h
  have c12 := cell_of (o := 12) h
  have c13 := cell_of (o := 13) h
  have c14 := cell_of (o := 14) h
  simp at c0 c1 c2 c3 c4 c5 c6 c7 c8 c9 c10 c11 c12 c13 c14
  simp [results, Tryz.results19, go_sem, ht, c0, c1, c2, c3, c4, c5, c6, c7, c8, c9, c10, c11, c12, c13, c14]
set_option maxHeartbeats 4000000 in
theorem clean13_1 (id kd par r0 r1 r2 r3 r4 r5 r6 r7 : Int) (af ap : Option Addr) (nf cf np cp : Nat) (reset : Bool) (w : World) : Calls Tryz.prog 19 #[.agg #[.int .i64 1, .int .i64 id, .int .i64 kd, .slice af nf cf, .slice ap np cp, .int .i64 par, .int .i64 r0, .int .i64 r1, .int .i64 r2, .int .i64 r3, .int .i64 r4, .int .i64 r5, .int .i64 r6, .int .i64 r7, .bool reset]] w (Gives (.agg #[.int .i64 1, .int .i64 id, .int .i64 0, .slice none 0 0, .slice ap np cp, .int .i64 0, .int .i64 0, .int .i64 0, .int .i64 0, .int .i64 0, .int .i64 0, .int .i64 0, .int .i64 0, .int .i64 0, .bool reset]) w) := by
  go_enter Tryz.func19, Tryz.ntmps19
  go_wp2
  refine bodyPost_ret (res_clean13 rfl ?_) rfl ⟨rfl, ?_⟩
  · exact heap_alloc' (heap_new_at (w.alloc _) _ _ (by simp [World.size_alloc])) _
  · repeat (first | with_reducible exact Grew.refl _ | apply Grew.more | apply Grew.alloc | apply Grew.drew | apply Grew.drewN)
set_option maxHeartbeats 4000000 in
theorem clean13_2 (id kd par r0 r1 r2 r3 r4 r5 r6 r7 : Int) (af ap : Option Addr) (nf cf np cp : Nat) (reset : Bool) (w : World) : Calls Tryz.prog 19 #[.agg #[.int .i64 2, .int .i64 id, .int .i64 kd, .slice af nf cf, .slice ap np cp, .int .i64 par, .int .i64 r0, .int .i64 r1, .int .i64 r2, .int .i64 r3, .int .i64 r4, .int .i64 r5, .int .i64 r6, .int .i64 r7, .bool reset]] w (Gives (.agg #[.int .i64 2, .int .i64 id, .int .i64 kd, .slice af nf cf, .slice ap np cp, .int .i64 par, .int .i64 r0, .int .i64 r1, .int .i64 r2, .int .i64 r3, .int .i64 r4, .int .i64 r5, .int .i64 r6, .int .i64 r7, .bool false]) w) := by
  go_enter Tryz.func19, Tryz.ntmps19
  go_wp2
  refine bodyPost_ret (res_clean13 rfl ?_) rfl ⟨rfl, ?_⟩
  · exact heap_alloc' (heap_new_at (w.alloc _) _ _ (by simp [World.size_alloc])) _
  · repeat (first | with_reducible exact Grew.refl _ | apply Grew.more | apply Grew.alloc | apply Grew.drew | apply Grew.drewN)
set_option maxHeartbeats 4000000 in
theorem clean13_3 (id kd par r0 r1 r2 r3 r4 r5 r6 r7 : Int) (af ap : Option Addr) (nf cf np cp : Nat) (reset : Bool) (w : World) : Calls Tryz.prog 19 #[.agg #[.int .i64 3, .int .i64 id, .int .i64 kd, .slice af nf cf, .slice ap np cp, .int .i64 par, .int .i64 r0, .int .i64 r1, .int .i64 r2, .int .i64 r3, .int .i64 r4, .int .i64 r5, .int .i64 r6, .int .i64 r7, .bool reset]] w (Gives (.agg #[.int .i64 3, .int .i64 id, .int .i64 0, .slice none 0 0, .slice none 0 0, .int .i64 0, .int .i64 0, .int .i64 0, .int .i64 0, .int .i64 0, .int .i64 0, .int .i64 0, .int .i64 0, .int .i64 0, .bool false]) w) := by
  go_enter Tryz.func19, Tryz.ntmps19
  go_wp2
  refine bodyPost_ret (res_clean13 rfl ?_) rfl ⟨rfl, ?_⟩
  · exact heap_alloc' (heap_new_at (w.alloc _) _ _ (by simp [World.size_alloc])) _
  · repeat (first | with_reducible exact Grew.refl _ | apply Grew.more | apply Grew.alloc | apply Grew.drew | apply Grew.drewN)
set_option maxHeartbeats 4000000 in
theorem clean13_4 (id kd par r0 r1 r2 r3 r4 r5 r6 r7 : Int) (af ap : Option Addr) (nf cf np cp : Nat) (reset : Bool) (w : World) : Calls Tryz.prog 19 #[.agg #[.int .i64 4, .int .i64 id, .int .i64 kd, .slice af nf cf, .slice ap np cp, .int .i64 par, .int .i64 r0, .int .i64 r1, .int .i64 r2, .int .i64 r3, .int .i64 r4, .int .i64 r5, .int .i64 r6, .int .i64 r7, .bool reset]] w (Gives (.agg #[.int .i64 4, .int .i64 id, .int .i64 0, .slice none 0 0, .slice none 0 0, .int .i64 par, .int .i64 r0, .int .i64 r1, .int .i64 r2, .int .i64 r3, .int .i64 r4, .int .i64 r5, .int .i64 r6, .int .i64 r7, .bool false]) w) := by
  go_enter Tryz.func19, Tryz.ntmps19
  go_upto_region 9 with fail
  go_region
  all_goals
    go_wp2
    refine bodyPost_ret (res_clean13 rfl ?_) rfl ⟨rfl, ?_⟩
    · exact heap_alloc' (heap_new_at (w.alloc _) _ _ (by simp [World.size_alloc])) _
    · repeat (first | with_reducible exact Grew.refl _ | apply Grew.more | apply Grew.alloc | apply Grew.drew | apply Grew.drewN)
set_option maxHeartbeats 4000000 in
theorem clean13_5 (id kd par r0 r1 r2 r3 r4 r5 r6 r7 : Int) (af ap : Option Addr) (nf cf np cp : Nat) (reset : Bool) (w : World) : Calls Tryz.prog 19 #[.agg #[.int .i64 5, .int .i64 id, .int .i64 kd, .slice af nf cf, .slice ap np cp, .int .i64 par, .int .i64 r0, .int .i64 r1, .int .i64 r2, .int .i64 r3, .int .i64 r4, .int .i64 r5, .int .i64 r6, .int .i64 r7, .bool reset]] w (Gives (.agg #[.int .i64 5, .int .i64 id, .int .i64 0, .slice af nf cf, .slice none 0 0, .int .i64 0, .int .i64 0, .int .i64 0, .int .i64 0, .int .i64 0, .int .i64 0, .int .i64 0, .int .i64 0, .int .i64 0, .bool false]) w) := by
  go_enter Tryz.func19, Tryz.ntmps19
  go_wp2
  refine bodyPost_ret (res_clean13 rfl ?_) rfl ⟨rfl, ?_⟩
  · exact heap_alloc' (heap_new_at (w.alloc _) _ _ (by simp [World.size_alloc])) _
  · repeat (first | with_reducible exact Grew.refl _ | apply Grew.more | apply Grew.alloc | apply Grew.drew | apply Grew.drewN)
theorem clean13_any (c : StC) (w : World) (hk : 1 ≤ c.kind ∧ c.kind ≤ 5) : Calls Tryz.prog 19 #[.agg #[.int .i64 c.kind, .int .i64 c.c.id, .int .i64 c.c.kind, .slice c.c.af c.c.nf c.c.cf, .slice c.c.ap c.c.np c.c.cp, .int .i64 c.c.par, .int .i64 c.c.r0, .int .i64 c.c.r1, .int .i64 c.c.r2, .int .i64 c.c.r3, .int .i64 c.c.r4, .int .i64 c.c.r5, .int .i64 c.c.r6, .int .i64 c.c.r7, .bool c.reset]] w (Gives (.agg #[.int .i64 (cleanC c).kind, .int .i64 (cleanC c).c.id, .int .i64 (cleanC c).c.kind, .slice (cleanC c).c.af (cleanC c).c.nf (cleanC c).c.cf, .slice (cleanC c).c.ap (cleanC c).c.np (cleanC c).c.cp, .int .i64 (cleanC c).c.par, .int .i64 (cleanC c).c.r0, .int .i64 (cleanC c).c.r1, .int .i64 (cleanC c).c.r2, .int .i64 (cleanC c).c.r3, .int .i64 (cleanC c).c.r4, .int .i64 (cleanC c).c.r5, .int .i64 (cleanC c).c.r6, .int .i64 (cleanC c).c.r7, .bool (cleanC c).reset]) w) := by
  obtain ⟨kind, ⟨id, kd, af, nf, cf, ap, np, cp, par, r0, r1, r2, r3, r4, r5, r6, r7⟩, reset⟩ := c
  simp only at hk
  rcases (show kind = 1 ∨ kind = 2 ∨ kind = 3 ∨ kind = 4 ∨ kind = 5 by omega) with rfl | rfl | rfl | rfl | rfl
  · exact clean13_1 id kd par r0 r1 r2 r3 r4 r5 r6 r7 af ap nf cf np cp reset w
  · exact clean13_2 id kd par r0 r1 r2 r3 r4 r5 r6 r7 af ap nf cf np cp reset w
  · exact clean13_3 id kd par r0 r1 r2 r3 r4 r5 r6 r7 af ap nf cf np cp reset w
  · exact clean13_4 id kd par r0 r1 r2 r3 r4 r5 r6 r7 af ap nf cf np cp reset w
  · exact clean13_5 id kd par r0 r1 r2 r3 r4 r5 r6 r7 af ap nf cf np cp reset w
end Go.Proofs.YtangapokicnfgaaGreat

/-! Graphs: what the document calls right, and what the program does: the same. -/
namespace Gr
set_option linter.unusedSimpArgs false
set_option linter.unusedVariables false

/-- a node among others, by the document -/
structure OkR (l : List Nd) (i : Nat) (n : Nd) : Prop where
  id0 : 0 ≤ n.id
  id7 : n.id ≤ 7
  fst : find l n.id = some i
  kd0 : 0 ≤ n.kind
  kd2 : n.kind ≤ 2
  pr1 : 1 ≤ n.par
  pr3 : n.par ≤ 3
  fr3 : n.frm.length ≤ 3
  src : n.id = 0 ↔ n.kind = 0
  rt : ∀ g ∈ n.route, 0 ≤ g ∧ g < n.par
  f0 : n.kind = 0 → n.frm.length = 0
  f1 : n.kind = 1 → n.frm.length = 1
  f2 : n.kind = 2 → n.frm.length ≠ 0
  p1 : n.kind = 1 → Vm.safe n.prog = true
  p0 : n.kind ≠ 1 → n.prog.length = 0
  fr : ∀ k f, n.frm[k]? = some f → (∃ j m, find l f = some j ∧ l[j]? = some m ∧ m.kind ≠ 2) ∧ f ∉ n.frm.take k
/-- .. and a graph -/
structure RightR (l : List Nd) : Prop where
  len : l.length ≤ 8
  ok : ∀ i n, l[i]? = some n → OkR l i n
  one : l.countP (fun n => n.kind == 0) = 1
  ac : ∀ n ∈ l, above l n.id n.id 9 = false
/-- a node among others, by the program -/
structure OkP (l : List Nd) (n : Nd) : Prop where
  id0 : 0 ≤ n.id
  id7 : n.id < 8
  kd : (n.kind = 0 ∧ n.id = 0 ∧ n.frm.length = 0 ∧ n.prog.length = 0) ∨ (n.kind = 1 ∧ n.id ≠ 0 ∧ n.frm.length = 1 ∧ Vm.safe n.prog = true) ∨ (n.kind = 2 ∧ n.id ≠ 0 ∧ 1 ≤ n.frm.length ∧ n.frm.length ≤ 3 ∧ n.frm.Nodup ∧ n.prog.length = 0)
  pr1 : 1 ≤ n.par
  pr3 : n.par ≤ 3
  rt : ∀ g ∈ n.route, 0 ≤ g ∧ g < n.par
  fr : ∀ f ∈ n.frm, ∃ j m, find l f = some j ∧ l[j]? = some m ∧ m.kind ≠ 2
structure RightP (l l' : List Nd) : Prop where
  len : l.length ≤ 8
  ok : ∀ n ∈ l, OkP l n
  un : (ids l).Nodup
  z : (0 : Int) ∈ ids l
  so : (sortG l' (l'.length + 1) []).length = l.length

theorem perm_ids {l l' : List Nd} (hp : l.Perm l') : (ids l).Perm (ids l') := hp.map _
theorem nodup_take {l : List Int} : l.Nodup ↔ ∀ k f, l[k]? = some f → f ∉ l.take k := by
  rw [List.Nodup, List.pairwise_iff_getElem]
  constructor
  · intro h k f hk hf
    obtain ⟨j, hj, e⟩ := List.mem_iff_getElem.1 hf
    rw [List.length_take] at hj
    rw [List.getElem_take] at e
    obtain ⟨hk', e2⟩ := List.getElem?_eq_some_iff.1 hk
    exact h j k (by omega) hk' (by omega) (by rw [e, e2])
  · intro h i j hi hj hij he
    refine h j l[j] (List.getElem?_eq_getElem hj) ?_
    rw [← he]
    exact List.mem_iff_getElem.2 ⟨i, by rw [List.length_take]; omega, by rw [List.getElem_take]⟩
theorem find_some {l : List Nd} {x : Int} {j : Nat} (h : find l x = some j) : ∃ m, l[j]? = some m ∧ m.id = x := by
  unfold find at h
  obtain ⟨hi, h1, -⟩ := List.findIdx?_eq_some_iff_getElem.1 h
  exact ⟨l[j], List.getElem?_eq_getElem hi, by simpa using h1⟩
/-- each is the first of its number: the numbers are unlike -/
theorem ids_nodup {l : List Nd} : (∀ i n, l[i]? = some n → find l n.id = some i) ↔ (ids l).Nodup := by
  rw [List.Nodup, List.pairwise_iff_getElem]
  constructor
  · intro h i j hi hj hij he
    have hi' : i < l.length := by simpa [ids] using hi
    have hj' : j < l.length := by simpa [ids] using hj
    have h1 := h i l[i] (List.getElem?_eq_getElem hi')
    have h2 := h j l[j] (List.getElem?_eq_getElem hj')
    simp [ids] at he
    rw [he, h2] at h1
    have := Option.some.inj h1
    omega
  · intro h i n hn
    obtain ⟨hi, e⟩ := List.getElem?_eq_some_iff.1 hn
    unfold find
    refine List.findIdx?_eq_some_iff_getElem.2 ⟨hi, by simp [e], fun j hji => ?_⟩
    have := h j i (by simp [ids]; omega) (by simp [ids]; omega) hji
    simp [ids, e] at this
    simpa using this
theorem bind_find {l : List Nd} (hu : (ids l).Nodup) {n : Nd} (hn : n ∈ l) : ((find l n.id).bind fun i => l[i]?) = some n := by
  obtain ⟨i, hi, e⟩ := List.mem_iff_getElem.1 hn
  have h1 := ids_nodup.2 hu i n (by rw [List.getElem?_eq_getElem hi, e])
  rw [h1, Option.bind_some, List.getElem?_eq_getElem hi, e]
theorem bind_perm {l l' : List Nd} (hp : l.Perm l') (hu : (ids l).Nodup) (x : Int) : ((find l x).bind fun i => l[i]?) = ((find l' x).bind fun i => l'[i]?) := by
  have hu' : (ids l').Nodup := (perm_ids hp).nodup_iff.1 hu
  by_cases h : x ∈ ids l
  · obtain ⟨n, hn, rfl⟩ := List.mem_map.1 h
    rw [bind_find hu hn, bind_find hu' (hp.mem_iff.1 hn)]
  · have h' : x ∉ ids l' := fun q => h ((perm_ids hp).mem_iff.2 q)
    have hno : ∀ (l : List Nd), x ∉ ids l → find l x = none := fun l hl => by
      unfold find
      rw [List.findIdx?_eq_none_iff]
      intro n hn
      have : n.id ≠ x := fun e => hl (List.mem_map.2 ⟨n, hn, e⟩)
      simpa using this
    rw [hno l h, hno l' h']
    rfl
theorem above_perm {l l' : List Nd} (hp : l.Perm l') (hu : (ids l).Nodup) : ∀ (k : Nat) (x z : Int), above l x z k = above l' x z k
  | 0, x, z => rfl
  | k + 1, x, z => by
    rw [above, above, bind_perm hp hu x]
    cases (find l' x).bind fun i => l'[i]? with
    | none => rfl
    | some n =>
      simp only
      congr 1
      funext f
      rw [above_perm hp hu k f z]
theorem zero_one {l : List Nd} (hu : (ids l).Nodup) (hs : ∀ n ∈ l, n.id = 0 ↔ n.kind = 0) : l.countP (fun n => n.kind == 0) = 1 ↔ (0 : Int) ∈ ids l := by
  have h1 : l.countP (fun n => n.kind == 0) = (ids l).count 0 := by
    unfold ids
    rw [List.count, List.countP_map]
    refine List.countP_congr fun n hn => ?_
    have := hs n hn
    simp only [Function.comp, beq_iff_eq]
    exact this.symm
  rw [h1]
  constructor
  · intro h
    exact List.count_pos_iff.1 (by omega)
  · intro h
    have h2 := List.count_pos_iff.2 h
    have h3 := List.nodup_iff_count.1 hu 0
    omega
theorem mem_ids_of_find {l : List Nd} {f : Int} {j : Nat} (h : find l f = some j) : f ∈ ids l := by
  obtain ⟨m, hm, e⟩ := find_some h
  exact List.mem_map.2 ⟨m, List.mem_of_getElem? hm, e⟩
/-- THE LAW: what the program calls right is what the document calls so. -/
theorem right_iff {l l' : List Nd} (hp : l.Perm l') : RightR l ↔ RightP l l' := by
  constructor
  · intro h
    have hu : (ids l).Nodup := ids_nodup.1 fun i n hn => (h.ok i n hn).fst
    have hok : ∀ n ∈ l, ∃ i, OkR l i n := fun n hn => by
      obtain ⟨i, hi, e⟩ := List.mem_iff_getElem.1 hn
      exact ⟨i, h.ok i n (by rw [List.getElem?_eq_getElem hi, e])⟩
    have hfr : ∀ n ∈ l, ∀ f ∈ n.frm, ∃ j m, find l f = some j ∧ l[j]? = some m ∧ m.kind ≠ 2 := fun n hn f hf => by
      obtain ⟨i, hr⟩ := hok n hn
      obtain ⟨k, hk, e⟩ := List.mem_iff_getElem.1 hf
      exact (hr.fr k f (by rw [List.getElem?_eq_getElem hk, e])).1
    refine ⟨h.len, fun n hn => ?_, hu, (zero_one hu fun n hn => (hok n hn).elim fun i hr => hr.src).1 h.one, ?_⟩
    · obtain ⟨i, hr⟩ := hok n hn
      refine ⟨hr.id0, by have := hr.id7; omega, ?_, hr.pr1, hr.pr3, hr.rt, hfr n hn⟩
      have hk0 := hr.kd0
      have hk2 := hr.kd2
      have hs := hr.src
      rcases (show n.kind = 0 ∨ n.kind = 1 ∨ n.kind = 2 by omega) with e | e | e
      · exact .inl ⟨e, hs.2 e, hr.f0 e, hr.p0 (by omega)⟩
      · exact .inr (.inl ⟨e, fun q => by have := hs.1 q; omega, hr.f1 e, hr.p1 e⟩)
      · exact .inr (.inr ⟨e, fun q => by have := hs.1 q; omega, by have := hr.f2 e; omega, hr.fr3, nodup_take.2 fun k f hk => (hr.fr k f hk).2, hr.p0 (by omega)⟩)
    · rw [hp.length_eq]
      refine (sort_all (by rw [← hp.length_eq]; exact h.len) ((perm_ids hp).nodup_iff.1 hu) (fun n hn f hf => ?_)).2 fun n hn => ?_
      · obtain ⟨j, m, h1, _⟩ := hfr n (hp.mem_iff.2 hn) f hf
        exact (perm_ids hp).mem_iff.1 (mem_ids_of_find h1)
      · rw [← above_perm hp hu]
        exact h.ac n (hp.mem_iff.2 hn)
  · intro h
    have hu := h.un
    refine ⟨h.len, fun i n hn => ?_, (zero_one hu fun n hn => ?_).2 h.z, fun n hn => ?_⟩
    · have hr := h.ok n (List.mem_of_getElem? hn)
      have hkd := hr.kd
      refine ⟨hr.id0, by have := hr.id7; omega, ids_nodup.2 hu i n hn, by omega, by omega, hr.pr1, hr.pr3, by omega, by omega, hr.rt, by omega, by omega, by omega, ?_, by omega, fun k f hk => ⟨hr.fr f (List.mem_of_getElem? hk), ?_⟩⟩
      · intro e
        rcases hkd with h1 | h1 | h1
        · omega
        · exact h1.2.2.2
        · omega
      · have hnd : n.frm.Nodup := by
          rcases hkd with h1 | h1 | h1
          · rw [List.length_eq_zero_iff.1 h1.2.2.1]; exact List.nodup_nil
          · obtain ⟨a, e⟩ := List.length_eq_one_iff.1 h1.2.2.1
            rw [e]; simp
          · exact h1.2.2.2.2.1
        exact nodup_take.1 hnd k f hk
    · have hkd := (h.ok n hn).kd
      omega
    · rw [above_perm hp hu]
      refine (sort_all (l := l') (by rw [← hp.length_eq]; exact h.len) ((perm_ids hp).nodup_iff.1 hu) (fun n hn f hf => ?_)).1 (h.so.trans hp.length_eq) n (hp.mem_iff.1 hn)
      obtain ⟨j, m, h1, _⟩ := (h.ok n (hp.mem_iff.2 hn)).fr f hf
      exact (perm_ids hp).mem_iff.1 (mem_ids_of_find h1)
end Gr

/-! forebayref08: Find, Has. -/
namespace Go.Proofs.YtangapokicnfgaaGreat
set_option linter.unusedSimpArgs false
set_option linter.unusedVariables false
open Go.RowKit Ga
set_option maxRecDepth 100000

def findI (l : List Gr.Nd) (id : Int) : Int := match Gr.find l id with
  | some i => i
  | none => -1
theorem findI_at {l : List Gr.Nd} {id : Int} {k : Nat} (hk : k < l.length) (h : l[k].id = id) (hn : ∀ j (hj : j < l.length), j < k → l[j].id ≠ id) : findI l id = k := by
  unfold findI Gr.find
  rw [List.findIdx?_eq_some_iff_getElem.2 ⟨hk, by simpa using h, fun j hj => by simpa using hn j (by omega) hj⟩]
theorem findI_no {l : List Gr.Nd} {id : Int} (hn : ∀ j (hj : j < l.length), l[j].id ≠ id) : findI l id = -1 := by
  unfold findI Gr.find
  rw [List.findIdx?_eq_none_iff.2 fun n hm => by
    obtain ⟨j, hj, rfl⟩ := List.mem_iff_getElem.1 hm
    simpa using hn j hj]

theorem ints_open {w : World} {v : Value} {l : List Int} (h : IntsAt w v l) : ∃ a cap, v = .slice a l.length cap ∧ l.length ≤ 9223372036854775807 ∧ ∀ i (hi : i < l.length), ∃ b off, a = some ⟨b, off, none⟩ ∧ Pre b w ∧ w.cell? ⟨b, off + i, none⟩ = some (.int .i64 l[i]) := by
  obtain ⟨a, cap, rfl, hm, hl⟩ := h
  refine ⟨a, cap, rfl, by unfold maxLen at hm; omega, fun i hi => ?_⟩
  obtain ⟨b, off, rfl, hx⟩ := hl (by intro e; subst e; simp at hi)
  have h0 := hx i l[i] (List.getElem?_eq_getElem hi) 0 _ rfl
  rw [Nat.mul_one, Nat.add_zero] at h0
  exact ⟨b, off, rfl, Pre.mk (World.block_lt_of_cell? w _ h0), h0⟩

set_option maxHeartbeats 2000000 in
theorem refFind08_any (v : Value) (l : List Gr.Nd) (id : Int) (w : World) (hv : NodesAt w v l) : Calls Tryz.prog 33 #[v, .int .i64 id] w fun e w' => e = .returned (.int .i64 (findI l id)) ∧ w' = w := by
  obtain ⟨a, cap, rfl, hm, hx⟩ := hv.open'
  have HX := Lib.hid hx
  clear hx hv
  go_enter Tryz.func33, Tryz.ntmps33
  go_wp2
  go_loopw [5] (fun i wr => ∃ k : Nat, k ≤ l.length ∧ i = .int .i64 k ∧ wr = w ∧ ∀ j (hj : j < l.length), j < k → l[j].id ≠ id) (fun i _ => l.length - (intOf i).toNat)
  case atStart => exact ⟨0, Nat.zero_le _, rfl, rfl, fun j _ h => by omega⟩
  case round =>
    obtain ⟨k, hk, rfl, rfl, hno⟩ := hrel
    have HNO := Lib.hid hno
    clear hno
    by_cases hlt : k < l.length
    · obtain ⟨b, off, vf, vp, rfl, hb, -, -, c0, -⟩ := HX.out k hlt
      by_cases he : l[k].id = id
      · have hf := findI_at hlt he fun j hj h => HNO.out j hj h
        have HF := Lib.hid hf
        clear hf
        rw [he] at c0
        clear he
        go_wp2
        refine bodyPost_ret (v := .int .i64 k) (by simp [results, Tryz.results33, go_sem]) rfl (by rw [HF.out]; first | exact ⟨rfl, rfl⟩ | exact ⟨rfl, trivial⟩ | trivial)
      · have hbe : (l[k].id == id) = false := by simpa using he
        have HNE := Lib.hid he
        clear he
        generalize hgx : l[k].id = x at *
        have HGX := Lib.hid hgx
        clear hgx
        go_wp2
        go_roundw
        case rel => exact ⟨k + 1, by omega, by go_num, trivial, fun j hj h => by
          rcases Nat.lt_or_ge j k with h1 | h1
          · exact HNO.out j hj h1
          · obtain rfl : j = k := by omega
            rw [HGX.out]
            exact HNE.out⟩
        case measure => first | (simp [intOf]; done) | (simp [intOf]; omega)
    · obtain rfl : k = l.length := by omega
      have hf := findI_no fun j hj => HNO.out j hj hj
      have HF := Lib.hid hf
      clear hf
      go_wp2
      refine bodyPost_ret (v := .int .i64 (-1)) (by simp [results, Tryz.results33, go_sem]) rfl (by rw [HF.out]; first | exact ⟨rfl, rfl⟩ | exact ⟨rfl, trivial⟩ | trivial)

set_option maxHeartbeats 2000000 in
theorem refHas08_any (v : Value) (l : List Int) (n : Int) (w : World) (hv : IntsAt w v l) : Calls Tryz.prog 35 #[v, .int .i64 n] w fun e w' => e = .returned (.bool (decide (n ∈ l))) ∧ w' = w := by
  obtain ⟨a, cap, rfl, hm, hx⟩ := ints_open hv
  have HX := Lib.hid hx
  clear hx hv
  go_enter Tryz.func35, Tryz.ntmps35
  go_wp2
  go_loopw [5] (fun i wr => ∃ k : Nat, k ≤ l.length ∧ i = .int .i64 k ∧ wr = w ∧ ∀ j (hj : j < l.length), j < k → l[j] ≠ n) (fun i _ => l.length - (intOf i).toNat)
  case atStart => exact ⟨0, Nat.zero_le _, rfl, rfl, fun j _ h => by omega⟩
  case round =>
    obtain ⟨k, hk, rfl, rfl, hno⟩ := hrel
    have HNO := Lib.hid hno
    clear hno
    by_cases hlt : k < l.length
    · obtain ⟨b, off, rfl, hb, c0⟩ := HX.out k hlt
      by_cases he : l[k] = n
      · have hf : n ∈ l := he ▸ List.getElem_mem hlt
        have HF := Lib.hid hf
        clear hf
        rw [he] at c0
        clear he
        go_wp2
        refine bodyPost_ret (v := .bool true) (by simp [results, Tryz.results35, go_sem]) rfl (by rw [decide_eq_true HF.out]; first | exact ⟨rfl, rfl⟩ | exact ⟨rfl, trivial⟩ | trivial)
      · have hbe : (l[k] == n) = false := by simpa using he
        have HNE := Lib.hid he
        clear he
        generalize hgx : l[k] = x at *
        have HGX := Lib.hid hgx
        clear hgx
        go_wp2
        go_roundw
        case rel => exact ⟨k + 1, by omega, by go_num, trivial, fun j hj h => by
          rcases Nat.lt_or_ge j k with h1 | h1
          · exact HNO.out j hj h1
          · obtain rfl : j = k := by omega
            rw [HGX.out]
            exact HNE.out⟩
        case measure => first | (simp [intOf]; done) | (simp [intOf]; omega)
    · obtain rfl : k = l.length := by omega
      have hf : n ∉ l := fun q => by
        obtain ⟨j, hj, e⟩ := List.mem_iff_getElem.1 q
        exact HNO.out j hj hj e
      have HF := Lib.hid hf
      clear hf
      go_wp2
      refine bodyPost_ret (v := .bool false) (by simp [results, Tryz.results35, go_sem]) rfl (by rw [decide_eq_false HF.out]; first | exact ⟨rfl, rfl⟩ | exact ⟨rfl, trivial⟩ | trivial)
end Go.Proofs.YtangapokicnfgaaGreat

/-! Instructions and values as two cells. -/
namespace Go.Proofs.YtangapokicnfgaaGreat
set_option linter.unusedSimpArgs false
set_option linter.unusedVariables false
open Go.RowKit Ga
set_option maxRecDepth 100000

def encI (a : Val) : List Value := [.int .i64 a.1, .int .i64 a.2]
theorem infoIns : (Tryz.prog.info? 123).map (fun i => (i.zero, i.size, i.bytes)) = some (some (.agg #[.int .i64 0, .int .i64 0]), 2, 16) := by kernel_rfl

theorem encI_len (l : Val) : (encI l).length = 2 := rfl
theorem encI_one (l : Val) : ∀ u ∈ encI l, u.oneCell' = true := by
  intro u hu; simp [encI] at hu; rcases hu with rfl | rfl <;> rfl
theorem encI_at (W : World) (a : Val) (t : TypeId) (b : Nat) {c : Array Value} (hc : c = #[.int .i64 a.1, .int .i64 a.2]) (hb : b = W.heap.size) : ∀ j u, (encI a)[j]? = some u → (W.alloc (.cells c t)).cell? ⟨b, j, none⟩ = some u := by
  subst hc
  intro j u hu
  rw [new_cells W _ t b hb j]
  simpa [encI] using hu
end Go.Proofs.YtangapokicnfgaaGreat
