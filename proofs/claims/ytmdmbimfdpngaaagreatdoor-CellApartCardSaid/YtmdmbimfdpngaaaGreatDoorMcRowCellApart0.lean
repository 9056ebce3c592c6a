import Derived.Test.YtmdmbimfdpngaaaGreatDoorMc46
import Derived.Test.YtmdmbimfdpngaaaGreatDoorMc47
import Derived.Test.YtmdmbimfdpngaaaGreatDoorMc48
import Derived.Test.YtmdmbimfdpngaaaGreatDoorCards
import Derived.Test.YtmdmbimfdpngaaaGreatDoorTie
import Derived.Deep.DeepHandedRow
import Derived.Deep.DeepWitnessRowRef
import Derived.SevenTiedPlain
/-! The law CellApart, walked. -/
namespace Go.Proofs.YtmdmbimfdpngaaaGreatDoor
set_option linter.unusedSimpArgs false
set_option linter.unusedVariables false
open Go.RowKit Ga
set_option maxRecDepth 100000

theorem run_neq_same (a b c d : Int) (w : World) : (binOp .neq 48 (.agg #[.int .i64 a, .int .i64 b, .int .i64 c, .int .i64 d]) (.agg #[.int .i64 a, .int .i64 b, .int .i64 c, .int .i64 d])).run Tryz.prog w = .ok (.bool false) w := by
  simp [go_sem, arr2_eq]
/-- what holds behind each run: both tables, the arguments, what was put out -/
structure Ap (w W : World) (ta ba na : Nat) (ma : List Tab.En) (tb bb nb : Nat) (mb : List Tab.En) (l : List Tab.En) (vl : Value) (p : List Val) (vp : Value) (two : Array Value) (outs : List (Value × List Rc)) : Prop where
  g : Grew w W
  a : TableAt W ta ba na ma
  b : TableAt W tb bb nb mb
  l : EntsAt W vl l
  p : ValsAt W vp p
  x : W.heap[w.heap.size]? = some (.cells two 59)
  o : ∀ z ∈ outs, RecsAt W z.1 z.2
  b1 : w.heap.size < ba
  b2 : w.heap.size < bb
  ne : ta ≠ bb ∧ tb ≠ ba ∧ ba ≠ bb
theorem Ap.grew {w W W' : World} {ta ba na : Nat} {ma : List Tab.En} {tb bb nb : Nat} {mb : List Tab.En} {l : List Tab.En} {vl : Value} {p : List Val} {vp : Value} {two : Array Value} {outs : List (Value × List Rc)} (h : Ap w W ta ba na ma tb bb nb mb l vl p vp two outs) (g : Grew W W') : Ap w W' ta ba na ma tb bb nb mb l vl p vp two outs :=
  ⟨h.g.trans g, h.a.grew g, h.b.grew g, h.l.grew g, h.p.grew g, grew_heap g h.x, fun z hz => (h.o z hz).grew g, h.b1, h.b2, h.ne⟩
theorem Ap.runA {w W W' : World} {ta ba na : Nat} {ma : List Tab.En} {tb bb nb : Nat} {mb : List Tab.En} {l : List Tab.En} {vl : Value} {p : List Val} {vp : Value} {two : Array Value} {outs : List (Value × List Rc)} (h : Ap w W ta ba na ma tb bb nb mb l vl p vp two outs) {v : Value} {o : List Rc} {m' : List Tab.En} (hr : RecsAt W' v o) (hT : TableAt W' ta ba (na + 1) m') (hg : Grew w W') (hk : Keep ba W W') : Ap w W' ta ba (na + 1) m' tb bb nb mb l vl p vp two ((v, o) :: outs) := by
  have nc := fun c t f => TabAt.nocells h.a.2 c t f
  refine ⟨hg, hT, h.b.keep hk h.ne.2.1 (fun e => h.ne.2.2 e.symm), rows_keepB h.l hk nc, rows_keepB h.p hk nc, by rw [hk.2 _ (heap_lt h.x) (fun e => by have := h.b1; omega)]; exact h.x, fun z hz => ?_, h.b1, h.b2, h.ne⟩
  rcases List.mem_cons.1 hz with rfl | hz
  · exact hr
  · exact rows_keepB (h.o z hz) hk nc
theorem Ap.runB {w W W' : World} {ta ba na : Nat} {ma : List Tab.En} {tb bb nb : Nat} {mb : List Tab.En} {l : List Tab.En} {vl : Value} {p : List Val} {vp : Value} {two : Array Value} {outs : List (Value × List Rc)} (h : Ap w W ta ba na ma tb bb nb mb l vl p vp two outs) {v : Value} {o : List Rc} {m' : List Tab.En} (hr : RecsAt W' v o) (hT : TableAt W' tb bb (nb + 1) m') (hg : Grew w W') (hk : Keep bb W W') : Ap w W' ta ba na ma tb bb (nb + 1) m' l vl p vp two ((v, o) :: outs) := by
  have nc := fun c t f => TabAt.nocells h.b.2 c t f
  refine ⟨hg, h.a.keep hk h.ne.1 h.ne.2.2, hT, rows_keepB h.l hk nc, rows_keepB h.p hk nc, by rw [hk.2 _ (heap_lt h.x) (fun e => by have := h.b2; omega)]; exact h.x, fun z hz => ?_, h.b1, h.b2, h.ne⟩
  rcases List.mem_cons.1 hz with rfl | hz
  · exact hr
  · exact rows_keepB (h.o z hz) hk nc
set_option maxHeartbeats 8000000 in
theorem cellApart_any (v u : Value) (l : List Tab.En) (p : List Val) (k0 x0 y0 k1 x1 y1 : Int) (w : World) (hv : EntsAt w v l) (hu : ValsAt w u p) (h : Env4 w) :
    Calls Tryz.prog 5 #[v, u, .agg #[.int .i64 k0, .int .i64 x0, .int .i64 y0, .int .i64 k1, .int .i64 x1, .int .i64 y1]] w (Gives (.bool true) w) := by
  obtain ⟨a, cap, rfl, hm, -⟩ := EntsAt.open6 hv
  obtain ⟨a2, cap2, rfl, hm2, -⟩ := hu.open2
  have HV := Lib.hid hv
  have HU := Lib.hid hu
  have HE := Lib.hid h
  clear hv hu h
  by_cases h60 : l.length ≤ 60
  case neg =>
    go_enter Tryz.func5, Tryz.ntmps5
    go_wp2_with (go_at_call 17; refine (awake07_any _ (HE.out.grew (by repeat (first | with_reducible exact Grew.refl _ | apply Grew.more | apply Grew.alloc | apply Grew.drew | apply Grew.drewN)))).mono ?_; rintro e w1 ⟨rfl, Ra, na, rfl⟩)
    go_ret
    refine ⟨rfl, ?_⟩
    repeat (first | with_reducible exact Grew.refl _ | apply Grew.more | apply Grew.alloc | apply Grew.drew | apply Grew.drewN)
  by_cases h24 : p.length ≤ 24
  case neg =>
    go_enter Tryz.func5, Tryz.ntmps5
    go_wp2_with (go_at_call 17; refine (awake07_any _ (HE.out.grew (by repeat (first | with_reducible exact Grew.refl _ | apply Grew.more | apply Grew.alloc | apply Grew.drew | apply Grew.drewN)))).mono ?_; rintro e w1 ⟨rfl, Ra, na, rfl⟩)
    go_ret
    refine ⟨rfl, ?_⟩
    repeat (first | with_reducible exact Grew.refl _ | apply Grew.more | apply Grew.alloc | apply Grew.drew | apply Grew.drewN)
  by_cases hk : k0 = k1
  · subst hk
    go_enter Tryz.func5, Tryz.ntmps5
    go_wp2_with (go_at_call 17; refine (awake07_any _ (HE.out.grew (by repeat (first | with_reducible exact Grew.refl _ | apply Grew.more | apply Grew.alloc | apply Grew.drew | apply Grew.drewN)))).mono ?_; rintro e w1 ⟨rfl, Ra, na, rfl⟩)
    go_ret
    refine ⟨rfl, ?_⟩
    repeat (first | with_reducible exact Grew.refl _ | apply Grew.more | apply Grew.alloc | apply Grew.drew | apply Grew.drewN)
  have hkb : (k0 == k1) = false := by simpa using hk
  have HK := Lib.hid hk
  clear hk
  cases ho : newOk l
  · have HO := Lib.hid ho
    clear ho
    go_enter Tryz.func5, Tryz.ntmps5
    go_wp2_with (first
      | (go_at_call 17; refine (awake07_any _ (HE.out.grew (by repeat (first | with_reducible exact Grew.refl _ | apply Grew.more | apply Grew.alloc | apply Grew.drew | apply Grew.drewN)))).mono ?_; rintro e w1 ⟨rfl, Ra, na, rfl⟩)
      | (go_at_call 18; refine (tabNew_any _ l _ (HV.out.grew (by repeat (first | with_reducible exact Grew.refl _ | apply Grew.more | apply Grew.alloc | apply Grew.drew | apply Grew.drewN))) (by omega)).mono ?_; rintro e w1 hN; obtain ⟨rfl, R1, n1, rfl⟩ := hN.bad HO.out; clear hN))
    go_ret
    refine ⟨rfl, ?_⟩
    repeat (first | with_reducible exact Grew.refl _ | apply Grew.more | apply Grew.alloc | apply Grew.drew | apply Grew.drewN)
  have hok := OkT.new ho
  have hl512 := len512 hok.there hok.un
  obtain ⟨T, hT0⟩ : ∃ T, Tab.newT l = T := ⟨_, rfl⟩
  rw [hT0] at hok hl512
  have HT0 := Lib.hid hT0
  have HOK := Lib.hid hok
  have HO := Lib.hid ho
  obtain ⟨q1, q2, q3, q4, q5⟩ := runT_swap hok 1 p k0 k1 (x0, y0) (x1, y1) HK.out
  obtain ⟨A1, hA1⟩ : ∃ r, runT T 1 p k0 (x0, y0) = r := ⟨_, rfl⟩
  obtain ⟨B1, hB1⟩ : ∃ r, runT T 1 p k1 (x1, y1) = r := ⟨_, rfl⟩
  rw [hA1, hB1] at q1 q2 q3 q4 q5
  obtain ⟨A2, hA2⟩ : ∃ r, runT A1.2.2 1 p k1 (x1, y1) = r := ⟨_, rfl⟩
  obtain ⟨B2, hB2⟩ : ∃ r, runT B1.2.2 1 p k0 (x0, y0) = r := ⟨_, rfl⟩
  rw [hA2] at q2 q4 q5
  rw [hB2] at q1 q3 q5
  have okA1 : OkT A1.2.2 := by rw [← hA1]; exact runT_ok hok 1 p k0 (x0, y0)
  have okB1 : OkT B1.2.2 := by rw [← hB1]; exact runT_ok hok 1 p k1 (x1, y1)
  have okA2 : OkT A2.2.2 := by rw [← hA2]; exact runT_ok okA1 1 p k1 (x1, y1)
  have HOTH : Hid (∀ n k : Int, (0 ≤ k ∧ k < 64) → ((1 : Int) ≠ n ∨ (k0 ≠ k ∧ k1 ≠ k)) → getT A2.2.2 n k = getT T n k) := Lib.hid fun n k hk hne => by rw [← hA2, runT_far okA1 hk (hne.imp id fun q => q.2), ← hA1, runT_far hok hk (hne.imp id fun q => q.1)]
  have HA1 := Lib.hid hA1
  have HA2 := Lib.hid hA2
  have HB1 := Lib.hid hB1
  have HB2 := Lib.hid hB2
  have Q3 := Lib.hid q3
  have Q4 := Lib.hid q4
  have Q5 := Lib.hid q5
  have OA1 := Lib.hid okA1
  have OB1 := Lib.hid okB1
  have OA2 := Lib.hid okA2
  obtain ⟨a1c, a1o, a1m⟩ := A1
  obtain ⟨b1c, b1o, b1m⟩ := B1
  obtain ⟨a2c, a2o, a2m⟩ := A2
  obtain ⟨b2c, b2o, b2m⟩ := B2
  simp only at q1 q2
  subst q1 q2
  simp only at HOTH Q3 Q4 Q5 OA1 OB1 OA2
  clear ho hT0 hok hA1 hA2 hB1 hB2 q3 q4 q5 okA1 okB1 okA2
  go_enter Tryz.func5, Tryz.ntmps5
  go_wp2_with (first
    | (go_at_call 17; refine (awake07_any _ (HE.out.grew (by repeat (first | with_reducible exact Grew.refl _ | apply Grew.more | apply Grew.alloc | apply Grew.drew | apply Grew.drewN)))).mono ?_; rintro e w1 ⟨rfl, Ra, na, rfl⟩))
  have HV1 := Lib.hid fun W (g : Grew w W) => tabNew_any _ l W (HV.out.grew g) (by omega)
  refine (HV1.out _ (by repeat (first | with_reducible exact Grew.refl _ | apply Grew.more | apply Grew.alloc | apply Grew.drew | apply Grew.drewN))).mono ?_
  rintro e w1 hN
  obtain ⟨ta, ba, rfl, hTa, hta, hba, R1, n1, rfl⟩ := hN.ok HO.out
  rw [HT0.out] at hTa
  have HTa := Lib.hid hTa
  have hBa := hTa.2.lt
  clear hTa hN
  go_wp2_with fail
  refine (HV1.out _ (by repeat (first | with_reducible exact Grew.refl _ | apply Grew.more | apply Grew.alloc | apply Grew.drew | apply Grew.drewN))).mono ?_
  rintro e w2 hN
  obtain ⟨tb, bb, rfl, hTb, htb, hbb, R2, n2, rfl⟩ := hN.ok HO.out
  rw [HT0.out] at hTb
  have HTb := Lib.hid hTb
  have hTA := heap_lt HTa.out.1
  clear hTb hN
  simp only [World.more_size, World.size_alloc] at hta hba htb hbb hBa hTA
  have HAP : Hid (Ap w ((((w.alloc (.cells #[.int .i64 k0, .int .i64 x0, .int .i64 y0, .int .i64 k1, .int .i64 x1, .int .i64 y1] 59)).more Ra na).more R1 n1).more R2 n2) ta ba l.length T tb bb l.length T l (.slice a l.length cap) p (.slice a2 p.length cap2) #[.int .i64 k0, .int .i64 x0, .int .i64 y0, .int .i64 k1, .int .i64 x1, .int .i64 y1] []) := Lib.hid
    ⟨by repeat (first | with_reducible exact Grew.refl _ | apply Grew.more | apply Grew.alloc | apply Grew.drew | apply Grew.drewN), HTa.out.grew (by repeat (first | with_reducible exact Grew.refl _ | apply Grew.more | apply Grew.alloc | apply Grew.drew | apply Grew.drewN)), HTb.out, HV.out.grew (by repeat (first | with_reducible exact Grew.refl _ | apply Grew.more | apply Grew.alloc | apply Grew.drew | apply Grew.drewN)), HU.out.grew (by repeat (first | with_reducible exact Grew.refl _ | apply Grew.more | apply Grew.alloc | apply Grew.drew | apply Grew.drewN)), grew_heap (by repeat (first | with_reducible exact Grew.refl _ | apply Grew.more | apply Grew.alloc | apply Grew.drew | apply Grew.drewN)) (heap_new_at w _ _ rfl), (fun z hz => by cases hz), by omega, by omega, ⟨by omega, by omega, by omega⟩⟩
  generalize ((((w.alloc (.cells #[.int .i64 k0, .int .i64 x0, .int .i64 y0, .int .i64 k1, .int .i64 x1, .int .i64 y1] 59)).more Ra na).more R1 n1).more R2 n2) = W0 at HAP ⊢
  clear HTa HTb hta hba htb hbb hBa hTA
  have hx1 := HAP.out.x
  have d0 := cell_of (o := 0) hx1
  have d1 := cell_of (o := 1) hx1
  have d2 := cell_of (o := 2) hx1
  have d3 := cell_of (o := 3) hx1
  have d4 := cell_of (o := 4) hx1
  have d5 := cell_of (o := 5) hx1
  simp at d0 d1 d2 d3 d4 d5
  have px := Pre.mk (heap_lt hx1)
  clear hx1
  go_wp2_with fail
  refine (tabRun_any w W0 ta ba l.length T HAP.out.a HOK.out HAP.out.g (by have := HAP.out.b1; omega) (by unfold maxLen; omega) 1 _ p HAP.out.p k0 x0 y0).mono ?_
  rintro e W1 ⟨v1, rfl, hr, hT, hg, hk⟩
  rw [HA1.out] at hr hT ⊢
  simp only at hr hT ⊢
  obtain ⟨a1', c1', e⟩ := hr.len
  rw [List.length_map] at e
  subst e
  have HAP := Lib.hid (HAP.out.runA hr hT hg hk)
  clear hr hT hg hk d0 d1 d2 d3 d4 d5 px
  have hx2 := HAP.out.x
  have d0 := cell_of (o := 0) hx2
  have d1 := cell_of (o := 1) hx2
  have d2 := cell_of (o := 2) hx2
  have d3 := cell_of (o := 3) hx2
  have d4 := cell_of (o := 4) hx2
  have d5 := cell_of (o := 5) hx2
  simp at d0 d1 d2 d3 d4 d5
  have px := Pre.mk (heap_lt hx2)
  clear hx2
  go_wp2_with fail
  refine (tabRun_any w W1 ta ba (l.length + 1) a1m HAP.out.a OA1.out HAP.out.g (by have := HAP.out.b1; omega) (by unfold maxLen; omega) 1 _ p HAP.out.p k1 x1 y1).mono ?_
  rintro e W2 ⟨v2, rfl, hr, hT, hg, hk⟩
  rw [HA2.out] at hr hT ⊢
  simp only at hr hT ⊢
  obtain ⟨a2', c2', e⟩ := hr.len
  rw [List.length_map] at e
  subst e
  have HAP := Lib.hid (HAP.out.runA hr hT hg hk)
  clear hr hT hg hk d0 d1 d2 d3 d4 d5 px
  have hx3 := HAP.out.x
  have d0 := cell_of (o := 0) hx3
  have d1 := cell_of (o := 1) hx3
  have d2 := cell_of (o := 2) hx3
  have d3 := cell_of (o := 3) hx3
  have d4 := cell_of (o := 4) hx3
  have d5 := cell_of (o := 5) hx3
  simp at d0 d1 d2 d3 d4 d5
  have px := Pre.mk (heap_lt hx3)
  clear hx3
  go_wp2_with fail
  refine (tabRun_any w W2 tb bb l.length T HAP.out.b HOK.out HAP.out.g (by have := HAP.out.b2; omega) (by unfold maxLen; omega) 1 _ p HAP.out.p k1 x1 y1).mono ?_
  rintro e W3 ⟨v3, rfl, hr, hT, hg, hk⟩
  rw [HB1.out] at hr hT ⊢
  simp only at hr hT ⊢
  obtain ⟨a3', c3', e⟩ := hr.len
  rw [List.length_map] at e
  subst e
  have HAP := Lib.hid (HAP.out.runB hr hT hg hk)
  clear hr hT hg hk d0 d1 d2 d3 d4 d5 px
  have hx4 := HAP.out.x
  have d0 := cell_of (o := 0) hx4
  have d1 := cell_of (o := 1) hx4
  have d2 := cell_of (o := 2) hx4
  have d3 := cell_of (o := 3) hx4
  have d4 := cell_of (o := 4) hx4
  have d5 := cell_of (o := 5) hx4
  simp at d0 d1 d2 d3 d4 d5
  have px := Pre.mk (heap_lt hx4)
  clear hx4
  go_wp2_with fail
  refine (tabRun_any w W3 tb bb (l.length + 1) b1m HAP.out.b OB1.out HAP.out.g (by have := HAP.out.b2; omega) (by unfold maxLen; omega) 1 _ p HAP.out.p k0 x0 y0).mono ?_
  rintro e W4 ⟨v4, rfl, hr, hT, hg, hk⟩
  rw [HB2.out] at hr hT ⊢
  simp only at hr hT ⊢
  obtain ⟨a4', c4', e⟩ := hr.len
  rw [List.length_map] at e
  subst e
  have HAP := Lib.hid (HAP.out.runB hr hT hg hk)
  clear hr hT hg hk d0 d1 d2 d3 d4 d5 px
  have hx5 := HAP.out.x
  have d0 := cell_of (o := 0) hx5
  have d3 := cell_of (o := 3) hx5
  simp at d0 d3
  have px := Pre.mk (heap_lt hx5)
  clear hx5
  have HO1 : Hid (RecsAt W4 (.slice a1' a1o.length c1') (a1o.map fun x => (k0, x))) := Lib.hid (HAP.out.o _ (List.mem_cons_of_mem _ (List.mem_cons_of_mem _ (List.mem_cons_of_mem _ (List.mem_cons_self ..)))))
  have HO2 : Hid (RecsAt W4 (.slice a2' a2o.length c2') (a2o.map fun x => (k1, x))) := Lib.hid (HAP.out.o _ (List.mem_cons_of_mem _ (List.mem_cons_of_mem _ (List.mem_cons_self ..))))
  have HO3 : Hid (RecsAt W4 (.slice a3' b1o.length c3') (b1o.map fun x => (k1, x))) := Lib.hid (HAP.out.o _ (List.mem_cons_of_mem _ (List.mem_cons_self ..)))
  have HO4 : Hid (RecsAt W4 (.slice a4' b2o.length c4') (b2o.map fun x => (k0, x))) := Lib.hid (HAP.out.o _ (List.mem_cons_self ..))
  have HRA := Lib.hid HAP.out.a
  have HRB := Lib.hid HAP.out.b
  go_wp2_with fail
  refine (refRecs07_yes _ _ _ _ _ (HO1.out.grew (by repeat (first | with_reducible exact Grew.refl _ | apply Grew.more | apply Grew.alloc | apply Grew.drew | apply Grew.drewN))) (HO4.out.grew (by repeat (first | with_reducible exact Grew.refl _ | apply Grew.more | apply Grew.alloc | apply Grew.drew | apply Grew.drewN))) (by rw [Q3.out])).mono ?_
  rintro e w5 ⟨rfl, R5, N5, rfl⟩
  go_wp2_with fail
  refine (refRecs07_yes _ _ _ _ _ (HO2.out.grew (by repeat (first | with_reducible exact Grew.refl _ | apply Grew.more | apply Grew.alloc | apply Grew.drew | apply Grew.drewN))) (HO3.out.grew (by repeat (first | with_reducible exact Grew.refl _ | apply Grew.more | apply Grew.alloc | apply Grew.drew | apply Grew.drewN))) (by rw [Q4.out])).mono ?_
  rintro e w6 ⟨rfl, R6, N6, rfl⟩
  go_wp2_with fail
  refine (tabAll_any _ ta ba (l.length + 1 + 1) a2m (HRA.out.grew (by repeat (first | with_reducible exact Grew.refl _ | apply Grew.more | apply Grew.alloc | apply Grew.drew | apply Grew.drewN)))).mono ?_
  rintro e w7 ⟨v7, s7, rfl, hr7, hp7, hs7, ⟨R7, N7, hw7⟩⟩
  subst hw7
  obtain ⟨a7, c7, rfl⟩ := (OwnAt.rows hr7 encEn_len).len
  have HR7 := Lib.hid (OwnAt.rows hr7 encEn_len)
  have HP7 := Lib.hid hp7
  have HS7 := Lib.hid hs7
  clear hr7 hp7 hs7
  go_wp2_with fail
  refine (tabAll_any _ tb bb (l.length + 1 + 1) b2m (HRB.out.grew (by repeat (first | with_reducible exact Grew.refl _ | apply Grew.more | apply Grew.alloc | apply Grew.drew | apply Grew.drewN)))).mono ?_
  rintro e w8 ⟨v8, s8, rfl, hr8, hp8, hs8, ⟨R8, N8, hw8⟩⟩
  subst hw8
  obtain ⟨a8, c8, rfl⟩ := (OwnAt.rows hr8 encEn_len).len
  have HR8 := Lib.hid (OwnAt.rows hr8 encEn_len)
  have HP8 := Lib.hid hp8
  have HS8 := Lib.hid hs8
  clear hr8 hp8 hs8
  have h78 : s7 = s8 := so_unique OA2.out.un HP7.out (HP8.out.trans Q5.out.symm) HS7.out HS8.out
  have H78 := Lib.hid h78
  clear h78
  go_wp2_with fail
  refine (refSame07_yes _ _ s7 s8 _ (HR7.out.grew (by repeat (first | with_reducible exact Grew.refl _ | apply Grew.more | apply Grew.alloc | apply Grew.drew | apply Grew.drewN))) (HR8.out.grew (by repeat (first | with_reducible exact Grew.refl _ | apply Grew.more | apply Grew.alloc | apply Grew.drew | apply Grew.drewN))) H78.out).mono ?_
  rintro e w9 ⟨rfl, R9, N9, rfl⟩
  go_wp2_with fail
  refine (tabNew_any _ l _ (HAP.out.l.grew (by repeat (first | with_reducible exact Grew.refl _ | apply Grew.more | apply Grew.alloc | apply Grew.drew | apply Grew.drewN))) (by omega)).mono ?_
  rintro e w10 hN
  obtain ⟨tc, bc, rfl, hTc, htc, hbc, R10, n10, rfl⟩ := hN.ok HO.out
  rw [HT0.out] at hTc
  have HTc := Lib.hid hTc
  clear hTc hN htc hbc
  go_wp2_with fail
  refine (tabAll_any _ tc bc l.length T (HTc.out.grew (by repeat (first | with_reducible exact Grew.refl _ | apply Grew.more | apply Grew.alloc | apply Grew.drew | apply Grew.drewN)))).mono ?_
  rintro e w11 ⟨v11, s11, rfl, hr11, hp11, hs11, ⟨R11, N11, hw11⟩⟩
  subst hw11
  obtain ⟨a11, c11, rfl⟩ := (OwnAt.rows hr11 encEn_len).len
  have HR11 := Lib.hid (OwnAt.rows hr11 encEn_len)
  have HP11 := Lib.hid hp11
  have HS11 := Lib.hid hs11
  clear hr11 hp11 hs11
  have hl11 : s11.length ≤ 512 := by rw [HP11.out.length_eq]; exact hl512
  have HX := Lib.hid HAP.out.x
  clear d0 d3 px
  go_wp2
  go_loopg [129] s11.length (fun gg s129 wr => ∃ k : Nat, k ≤ s11.length ∧ s11.length - k ≤ gg ∧ s129 = .int .i64 k ∧ Hid (Grew ((((((((W4.more R5 N5).more R6 N6).more R7 N7).more R8 N8).more R9 N9).more R10 n10).more R11 N11)) wr))
  case atStart => exact ⟨0, by omega, by omega, rfl, Lib.hid (Grew.refl _)⟩
  case round =>
    obtain ⟨k, hk, hgg, rfl, HGR⟩ := hrel
    have HG4 : Hid (Grew W4 wr) := Lib.hid (Grew.trans (by repeat (first | with_reducible exact Grew.refl _ | apply Grew.more | apply Grew.alloc | apply Grew.drew | apply Grew.drewN)) HGR.out)
    by_cases hlt : k < s11.length
    · obtain ⟨a', cap', e, -, hx⟩ := EntsAt.open6 (HR11.out.grew HGR.out)
      cases e
      obtain ⟨bq, off, rfl, hbq, c0, c1, c2, c3, c4, c5⟩ := hx k hlt
      have hzT : s11[k] ∈ T := HP11.out.mem_iff.1 (List.getElem_mem hlt)
      have hth := HOK.out.there _ hzT
      have hget := getT_is HOK.out.un hzT (n := s11[k].node) (k := s11[k].key) rfl
      clear hx
      have hx5 := grew_heap HG4.out HX.out
      have d0 := cell_of (o := 0) hx5
      have d3 := cell_of (o := 3) hx5
      simp at d0 d3
      have px := Pre.mk (heap_lt hx5)
      clear hx5
      generalize s11[k] = z at *
      obtain ⟨zn, zk, ⟨p0, q0⟩, ⟨p1, q1⟩⟩ := z
      simp only at c0 c1 c2 c3 c4 c5 hth hget
      unfold There at hth
      simp only at hth
      have HTB : Hid (thereB zn zk = true) := Lib.hid (thereB_iff (x := ⟨zn, zk, (0, 0), (0, 0)⟩) |>.2 hth)
      have HGT := Lib.hid fun (e0 : (1 : Int) ≠ zn ∨ (k0 ≠ zk ∧ k1 ≠ zk)) => (HOTH.out zn zk hth.2 e0).trans hget
      have hnq := run_neq_same p0 q0 p1 q1
      clear hget hzT
      by_cases hz : zn = 1 ∧ (zk = k0 ∨ zk = k1)
      · obtain ⟨rfl, hz⟩ := hz
        have hD0 : (zk != k0) = decide (zk ≠ k0) := by by_cases q : zk = k0 <;> simp [q]
        clear HGT hnq
        rcases hz with rfl | rfl
        · go_wp2
          refine wp_region_seq 30 Tryz.mixed (by kernel_rfl) (by kernel_rfl) ?_
          iterate 30
            apply Seq.val
            focus
              rintro w1 u ⟨R1, n1, rfl⟩ hF
              simp [moreFacts, Fact.more, Oper.deps, Region.binds, List.filter_cons, World.more_drew] at hF
              simp [putFacts, Oper.deps, Region.binds, List.filter_cons, Region.dstOf, Fact.at, Act.put, World.more_drew]
              go_wp2_with fail
              exact ⟨by repeat (first | with_reducible exact Grew.refl _ | apply Grew.more | apply Grew.alloc | apply Grew.drew | apply Grew.drewN), rfl, _, _, rfl, rfl, rfl⟩
          rintro u w1 ⟨R1, n1, rfl⟩ hF
          clear hF
          simp [putFacts, Region.dstOf, Fact.at, Act.put, List.range_succ, World.more_drew]
          go_wp2
          go_roundg (s11.length - (k + 1))
          case measure => omega
          case rel => exact ⟨k + 1, by omega, by omega, by go_num, Lib.hid (HGR.out.trans (by repeat (first | with_reducible exact Grew.refl _ | apply Grew.more | apply Grew.alloc | apply Grew.drew | apply Grew.drewN)))⟩
        · have hk0 : (zk != k0) = true := by rw [bne_iff_ne]; exact fun e => HK.out e.symm
          clear hD0
          go_wp2
          refine wp_region_seq 30 Tryz.mixed (by kernel_rfl) (by kernel_rfl) ?_
          iterate 30
            apply Seq.val
            focus
              rintro w1 u ⟨R1, n1, rfl⟩ hF
              simp [moreFacts, Fact.more, Oper.deps, Region.binds, List.filter_cons, World.more_drew] at hF
              simp [putFacts, Oper.deps, Region.binds, List.filter_cons, Region.dstOf, Fact.at, Act.put, World.more_drew]
              go_wp2_with fail
              exact ⟨by repeat (first | with_reducible exact Grew.refl _ | apply Grew.more | apply Grew.alloc | apply Grew.drew | apply Grew.drewN), rfl, _, _, rfl, rfl, rfl⟩
          rintro u w1 ⟨R1, n1, rfl⟩ hF
          clear hF
          simp [putFacts, Region.dstOf, Fact.at, Act.put, List.range_succ, World.more_drew]
          go_wp2
          go_roundg (s11.length - (k + 1))
          case measure => omega
          case rel => exact ⟨k + 1, by omega, by omega, by go_num, Lib.hid (HGR.out.trans (by repeat (first | with_reducible exact Grew.refl _ | apply Grew.more | apply Grew.alloc | apply Grew.drew | apply Grew.drewN)))⟩
      · have hgz : getT a2m zn zk = ((p0, q0), (p1, q1)) := by
          refine HGT.out ?_
          by_cases hz1 : zn = 1
          · exact .inr ⟨fun e => hz ⟨hz1, .inl e.symm⟩, fun e => hz ⟨hz1, .inr e.symm⟩⟩
          · exact .inl fun e => hz1 e.symm
        have HGET := Lib.hid fun W2 (g : Grew W4 W2) => tabGet_any W2 ta ba (l.length + 1 + 1) a2m (HRA.out.grew g) zn zk HTB.out (p0, q0) (p1, q1) hgz
        clear hgz HGT
        by_cases hz1 : zn = 1
        · subst hz1
          have hk0 : (zk != k0) = true := by rw [bne_iff_ne]; exact fun e => hz ⟨rfl, .inl e⟩
          have hk1 : (zk != k1) = true := by rw [bne_iff_ne]; exact fun e => hz ⟨rfl, .inr e⟩
          clear hz
          go_wp2
          refine wp_region_seq 30 Tryz.mixed (by kernel_rfl) (by kernel_rfl) ?_
          iterate 30
            apply Seq.val
            focus
              rintro w1 u ⟨R1, n1, rfl⟩ hF
              simp [moreFacts, Fact.more, Oper.deps, Region.binds, List.filter_cons, World.more_drew] at hF
              simp [putFacts, Oper.deps, Region.binds, List.filter_cons, Region.dstOf, Fact.at, Act.put, World.more_drew]
              go_wp2_with (first
                | (first | (go_at_call 23; refine (HGET.out _ (HG4.out.trans (by repeat (first | with_reducible exact Grew.refl _ | apply Grew.more | apply Grew.alloc | apply Grew.drew | apply Grew.drewN)))).mono ?_; rintro e w13 ⟨rfl, R13, N13, rfl⟩))
                )
              exact ⟨by repeat (first | with_reducible exact Grew.refl _ | apply Grew.more | apply Grew.alloc | apply Grew.drew | apply Grew.drewN), rfl, _, _, rfl, rfl, rfl⟩
          rintro u w1 ⟨R1, n1, rfl⟩ hF
          clear hF
          simp [putFacts, Region.dstOf, Fact.at, Act.put, List.range_succ, World.more_drew]
          go_wp2
          go_roundg (s11.length - (k + 1))
          case measure => omega
          case rel => exact ⟨k + 1, by omega, by omega, by go_num, Lib.hid (HGR.out.trans (by repeat (first | with_reducible exact Grew.refl _ | apply Grew.more | apply Grew.alloc | apply Grew.drew | apply Grew.drewN)))⟩
        · have hn1 : (zn != 1) = true := by rw [bne_iff_ne]; exact hz1
          clear hz hz1
          go_wp2
          refine wp_region_seq 30 Tryz.mixed (by kernel_rfl) (by kernel_rfl) ?_
          iterate 30
            apply Seq.val
            focus
              rintro w1 u ⟨R1, n1, rfl⟩ hF
              simp [moreFacts, Fact.more, Oper.deps, Region.binds, List.filter_cons, World.more_drew] at hF
              simp [putFacts, Oper.deps, Region.binds, List.filter_cons, Region.dstOf, Fact.at, Act.put, World.more_drew]
              go_wp2_with (first
                | (first | (go_at_call 23; refine (HGET.out _ (HG4.out.trans (by repeat (first | with_reducible exact Grew.refl _ | apply Grew.more | apply Grew.alloc | apply Grew.drew | apply Grew.drewN)))).mono ?_; rintro e w13 ⟨rfl, R13, N13, rfl⟩))
                )
              exact ⟨by repeat (first | with_reducible exact Grew.refl _ | apply Grew.more | apply Grew.alloc | apply Grew.drew | apply Grew.drewN), rfl, _, _, rfl, rfl, rfl⟩
          rintro u w1 ⟨R1, n1, rfl⟩ hF
          clear hF
          simp [putFacts, Region.dstOf, Fact.at, Act.put, List.range_succ, World.more_drew]
          go_wp2
          go_roundg (s11.length - (k + 1))
          case measure => omega
          case rel => exact ⟨k + 1, by omega, by omega, by go_num, Lib.hid (HGR.out.trans (by repeat (first | with_reducible exact Grew.refl _ | apply Grew.more | apply Grew.alloc | apply Grew.drew | apply Grew.drewN)))⟩
    · obtain rfl : k = s11.length := by omega
      go_wp2
      go_ret
      exact ⟨rfl, HAP.out.g.trans HG4.out⟩
end Go.Proofs.YtmdmbimfdpngaaaGreatDoor

/-
  The statement CellApart: called with any list of entries, any program and any two records the law returns true, and each argument reads afterwards as it read before. Conditions: the listed tables of the library hold what the program's text lays.
-/
namespace Go.Proofs.YtmdmbimfdpngaaaGreatDoor.cellApart
set_option linter.unusedSimpArgs false
set_option linter.unusedVariables false
set_option maxRecDepth 100000
open Go.ChangeShapes Go.WideShapes Go.ChangeAt Go.RowKit

theorem own : ownKnob Tryz.prog.godebug = none := by kernel_rfl

theorem contract (H : Type) (enc : TypeId × Value → H) (W : World) (base : Nat) (args : Array Value) (ds gs : List (DataW H)) (before : List MemPlace)
    (hval : ∀ (j : Nat) t v, Tryz.f5.params[j]? = some t → args[j]? = some v → Value.okWide Tryz.prog W .any base t v)
    (hW : DataW.Whole enc Tryz.prog Tryz.f5.params.toList Rows.cellApartSpec.vars false W args.toList ds gs before) (hL : laidMetH Tryz.prog Rows.cellApartRow.laid W) (hsh : W.ShapedOpen Tryz.prog) :
    Calls Tryz.prog 5 args W fun e W' => ∃ v, e = .returned v ∧ Rows.cellApartSpec.post enc Tryz.prog Tryz.f5 false true false false W args v W' := by
  have hW' := hW
  obtain ⟨p, q, hA0, hV, rfl, hfz, hnd⟩ := hW
  have hA : DataW.TrodAll enc Tryz.prog W 0 (fun _ => true) true Tryz.f5.params.toList args.toList ds p := hA0
  rw [Tryz.params5] at hA hval
  obtain ⟨v0, v1, v2, d0, d1, d2, p0, p1, p2, hargs, rfl, rfl, h0, h1, h2⟩ := trodAll_three hA
  obtain rfl : args = #[v0, v1, v2] := by cases args; simp_all
  obtain ⟨l, hl0⟩ := argO_ents (hval 0 _ _ rfl rfl) h0
  obtain ⟨p0, hl1⟩ := argO_inss (hval 1 _ _ rfl rfl) h1
  obtain ⟨k0, x0, y0, k1, x1, y1, rfl⟩ := argO_rec2 (hval 2 _ _ rfl rfl) h2
  have hl : laidMet Tryz.prog Rows.cellApartRow.laid W := hL
  refine (cellApart_any v0 v1 l p0 k0 x0 y0 k1 x1 y1 W hl0 hl1 (env4_of hl hsh)).mono fun e W' he => ?_
  obtain ⟨rfl, hg⟩ := he
  exact ⟨_, rfl, law_post laidOut (by kernel_rfl) rfl rfl Tryz.underlying4 hW' (fun gs h => by subst h; rfl) hg⟩

def wargs : Array Value := #[.slice none 0 0, .slice none 0 0, .agg #[.int .i64 0, .int .i64 0, .int .i64 0, .int .i64 0, .int .i64 0, .int .i64 0]]
theorem laid_met (os : Os) : laidMet Tryz.prog Rows.cellApartRow.laid ((laidWorld4 os).forCall (fun _ _ => 0) ⟨#[], wargs, []⟩).memory :=
  laidMet_of_run' 8 (by kernel_rfl) (by kernel_rfl)
theorem reads (os : Os) {H : Type} (enc : TypeId × Value → H) : ∃ places, DataW.whole enc Tryz.prog ((laidWorld4 os).forCall (fun _ _ => 0) ⟨#[], wargs, []⟩).memory Tryz.f5.params.toList Rows.cellApartSpec.vars false wargs.toList 8 = some ([.nil, .nil, .agg [.agg [.lit (.int .i64 0), .agg [.lit (.int .i64 0), .lit (.int .i64 0)]], .agg [.lit (.int .i64 0), .agg [.lit (.int .i64 0), .lit (.int .i64 0)]]]], [], places) :=
  ⟨[], by kernel_rfl⟩

set_option maxRecDepth 100000 in
theorem lifted (os : Os) (started : os.Started) (H : Type) (enc : TypeId × Value → H) (F : Stop.Interp) :
    ReturnsInHanded {} Tryz.checked os 5 .any ((OpenSpec.ofChange Rows.cellApartSpec).preRow enc Tryz.prog Tryz.f5 Rows.cellApartRow.domain false Rows.cellApartRow.laid) (((OpenSpec.ofChange Rows.cellApartSpec).at F).post enc Tryz.prog Tryz.f5 false true false false) := by
  obtain ⟨places, hx⟩ := reads os enc
  refine returnsInHanded_of_row (C := Tryz.checked) (s := OpenSpec.ofChange Rows.cellApartSpec) own started (by kernel_rfl) Tryz.func5
    (witness_row_atRef (enc := enc) (C := Tryz.checked) false (laidWorld4 os) wargs rfl (by kernel_rfl) (by kernel_rfl) (by kernel_rfl)
      (OpenSpec.preRow_of_cond 8 hx (by kernel_rfl) (fun k hk => by cases hk) (by kernel_rfl) (laid_met os))) ?_
  intro W base args ds gs before hval hW _ _ _ hL hsh _
  exact contract H enc W base args ds gs before hval hW hL hsh

theorem said : Rows.CellApartSaid :=
  OpenClaim.holds_of_cond 5 Tryz.f5 rfl rfl rfl rfl rfl rfl rfl ⟨rfl, rfl, rfl, rfl, rfl⟩ rfl rfl rfl rfl rfl (by kernel_rfl) Tryz.func5 (by kernel_rfl)
    (of_decide_eq_true (by kernel_rfl)) (by unfold Func.isWrapper; rw [if_neg (of_decide_eq_false (by kernel_rfl))]; exact ⟨rfl, rfl⟩)
    (fun os started H enc _ F => by rw [OpenClaim.pre_eq_preRow]; exact lifted os started H enc F)

theorem plain (f : FuncId) (fn : Func) (hf : Tryz.pinned.checked.prog.funcNamed Rows.cellApartRow.func = some f) (hfn : Tryz.pinned.checked.prog.funcs[f]? = some fn) :
    true = Tryz.pinned.checked.prog.looks [] ∧ ∀ (j : Nat) t, fn.params[j]? = some t → Tryz.pinned.checked.prog.wantsStandIn t = false := by
  obtain rfl : f = 5 := Option.some.inj ((show Tryz.prog.funcNamed Rows.cellApartRow.func = some 5 by kernel_rfl).symm.trans hf) |>.symm
  obtain rfl : fn = Tryz.f5 := (Option.some.inj (Tryz.func5.symm.trans hfn)).symm
  refine ⟨by kernel_rfl, fun j t ht => ?_⟩
  have hall : Tryz.f5.params.all (fun t => !Tryz.pinned.checked.prog.wantsStandIn t) = true := by kernel_rfl
  have := Array.all_eq_true_iff_forall_mem.1 hall t (Array.mem_of_getElem? ht)
  simpa using this

theorem card : Rows.CellApartCardSaid :=
  Claim7.holds_tied_plain_at .later [] _ _ _ _ said (fun _ h => by cases h) (by kernel_rfl) (fun _ h => by cases h) cellApart_row_tie rfl ⟨rfl, rfl⟩ (by kernel_rfl) rfl plain (by kernel_rfl)
#print axioms card
end Go.Proofs.YtmdmbimfdpngaaaGreatDoor.cellApart
