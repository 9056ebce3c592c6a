import Derived.Test.YtiocdmfmghanmaaDoorVm6
import Derived.Test.YtiocdmfmghanmaaDoorVmEachMath
import Derived.Test.YtiocdmfmghanmaaDoorLawCodeTexts
import Derived.ChangeKeysEq
/-! The document's example of layer 6; the law VmEach, walked. -/
namespace Go.Proofs.YtiocdmfmghanmaaDoor
set_option linter.unusedSimpArgs false
set_option linter.unusedVariables false
open Go.RowKit Ga
set_option maxRecDepth 100000

def awake6S : List UInt8 := [73, 78, 59, 32, 76, 79, 65, 68, 32, 48, 59, 32, 65, 68, 68, 59, 32, 68, 85, 80, 59, 32, 83, 84, 79, 82, 69, 32, 48, 59, 32, 69, 77, 73, 84]
theorem awake6_text : Co.textI Vm.exP = awake6S := by decide +kernel
theorem awake6_fits : Co.fitsI Vm.exP = true := by decide
theorem awake6_parse : Co.parseI awake6S = (Vm.exP, 0) := by rw [← awake6_text]; exact Co.parse_text awake6_fits
theorem each_ok {l : List Val} {c0 c1 : Val} {ins : List Val} {w w' : World} {e : Ending} (h : EachGives l c0 c1 ins w e w') (hs : Vm.safe l = true) (hr : ([c0, c1].all rightV && ins.all rightV) = true) :
    Grew w w' ∧ ∃ vo, e = .returned (.tuple #[resV vo (Vm.each l (start0 c0 c1) ins), .int .i64 0]) ∧ OwnAt w.heap.size 23 2 encI w' vo (Vm.each l (start0 c0 c1) ins).out := by
  obtain ⟨h1, h⟩ := h
  rw [if_neg (by rw [hs]; decide), if_neg (by rw [hr]; decide)] at h
  exact ⟨h1, h⟩

theorem EachGives.coded {l : List Val} {c0 c1 : Val} {ins : List Val} {w w' : World} {ao : Option Addr} {no co : Nat} {n1 n2 n3 n4 n5 err : Int} (h : EachGives l c0 c1 ins w (.returned (.tuple #[.agg #[.slice ao no co, .int .i64 n1, .int .i64 n2, .int .i64 n3, .int .i64 n4, .int .i64 n5], .int .i64 err])) w') :
    err = Vm.codeOf l c0 c1 ins ∧ (err ≠ 0 → no = 0 ∧ n5 = 0) ∧ (err = 0 → OwnAt w.heap.size 23 2 encI w' (.slice ao no co) (Vm.each l ⟨[], c0, c1, 0⟩ ins).out ∧ n1 = (Vm.each l ⟨[], c0, c1, 0⟩ ins).c0.1 ∧ n2 = (Vm.each l ⟨[], c0, c1, 0⟩ ins).c0.2 ∧ n3 = (Vm.each l ⟨[], c0, c1, 0⟩ ins).c1.1 ∧ n4 = (Vm.each l ⟨[], c0, c1, 0⟩ ins).c1.2 ∧ n5 = (Vm.each l ⟨[], c0, c1, 0⟩ ins).steps) := by
  obtain ⟨_, h⟩ := h
  unfold Vm.codeOf
  split at h
  · rename_i hs
    rw [if_pos hs]
    unfold zeroR at h
    cases h
    exact ⟨rfl, fun _ => ⟨rfl, rfl⟩, fun h => by cases h⟩
  · rename_i hs
    rw [if_neg hs]
    split at h
    · rename_i hr
      rw [if_pos hr]
      unfold zeroR at h
      cases h
      exact ⟨rfl, fun _ => ⟨rfl, rfl⟩, fun h => by cases h⟩
    · rename_i hr
      rw [if_neg hr]
      obtain ⟨vo, he, ho⟩ := h
      unfold resV start0 at he
      cases he
      exact ⟨rfl, fun h => absurd rfl h, fun _ => ⟨ho, rfl, rfl, rfl, rfl, rfl⟩⟩

set_option maxHeartbeats 4000000 in
theorem awake06_any (w : World) (h : Env4 w) : Calls Tryd.prog 33 #[] w (Gives (.bool true) w) := by
  have HE := Lib.hid h
  clear h
  have hE := fun (v : Value) (w : World) (hv : ValsAt w v Vm.exP) (vi : Value) (hi : ValsAt w vi [(1, 0), (2, 0)]) => (each_any v vi Vm.exP [(1, 0), (2, 0)] 0 0 0 0 w hv hi (by decide)).mono fun e w' h => each_ok h Vm.exP_safe (by decide)
  rw [show Vm.each Vm.exP (start0 (0, 0) (0, 0)) [(1, 0), (2, 0)] = ⟨[(1, 0), (3, 0)], (3, 0), (0, 0), 12⟩ from Vm.exP_each] at hE
  have HEA := Lib.hid hE
  clear hE
  go_enter Tryd.func33, Tryd.ntmps33
  go_wp2_with (first
    | (go_at_call 23; refine (codeParse_env awake6S (by decide) _ (HE.out.grew (by repeat (first | with_reducible exact Grew.refl _ | apply Grew.more | apply Grew.alloc | apply Grew.drew | apply Grew.drewN)))).mono ?_; rintro e w1 ⟨v, rfl, hv, R3, n3, rfl⟩; rw [awake6_parse] at hv ⊢; (have HV := Lib.hid hv); clear hv)
    | (go_at_call 34; go_loud (refine (HEA.out _ _ (HV.out.grew (by repeat (first | with_reducible exact Grew.refl _ | apply Grew.more | apply Grew.alloc | apply Grew.drew | apply Grew.drewN))) _ (vals2 _ _ _ _ _ _ _ (by simp [go_sem]))).mono ?_); rintro e w1 ⟨⟨R4, n4, hw4⟩, vo, rfl, ho⟩; subst hw4; obtain ⟨bo, co, rfl⟩ := own_some' ho (by decide); (have hvo := ho.rows encI_len); obtain ⟨a5, c5, e5, _, hx5⟩ := RowsAt.open2 (f := fun a : Val => Value.int .i64 a.1) (g := fun a : Val => Value.int .i64 a.2) hvo; cases e5; obtain ⟨b5, off5, e6, hb5, h50, h51⟩ := hx5 1 (by decide); cases e6; simp at h50 h51; unfold resV; clear ho hvo hx5)
    )
  go_ret
  refine ⟨rfl, ?_⟩
  repeat (first | with_reducible exact Grew.refl _ | apply Grew.more | apply Grew.alloc | apply Grew.drew | apply Grew.drewN)

theorem keepT_of {w0 W W' : World} {e : TypeId} {base k : Nat} {enc : Val → List Value} {v v' : Value} {l l' : List Val} (h : Appended w0 e k enc W v l' v' W') (ho : OwnAt base e k enc W v l) {q : Nat} {c : Array Value} {t : TypeId} (hq : W.heap[q]? = some (.cells c t)) (ht : t ≠ e) : W'.heap[q]? = some (.cells c t) :=
  (h.2.2.2.1 q (heap_lt hq) (ho.other hq ht)).trans hq
theorem appended_other {w0 W W1 W' : World} {e : TypeId} {base2 k : Nat} {enc : Val → List Value} {v v' u : Value} {l' m : List Val} (h : Appended w0 e k enc W v l' v' W') (g : Grew W1 W) (o1 : OwnAt base2 e k enc W1 u m) (o2 : ∀ q, v.ownBlock = some q → u.ownBlock ≠ some q) :
    OwnAt base2 e k enc W' u m ∧ (∀ q, v'.ownBlock = some q → u.ownBlock ≠ some q) := by
  have o3 := o1.grew g
  have hlt : ∀ q, u.ownBlock = some q → q < W.heap.size := fun q hq => let ⟨_, _, hc⟩ := o3.block hq; heap_lt hc
  refine ⟨o3.same fun q hq => h.2.2.2.1 q (hlt q hq) fun e => o2 q e hq, fun q hq hu => ?_⟩
  rcases h.2.2.2.2 q hq with h1 | h1
  · exact o2 q h1 hu
  · have := hlt q hu
    omega
theorem cellsV : Tryd.prog.cellsOf 23 = 2 := by kernel_rfl
theorem run_eql_arr (a b c d : Int) (w : World) : (binOp .eql 56 (.agg #[.int .i64 a, .int .i64 b, .int .i64 c, .int .i64 d]) (.agg #[.int .i64 a, .int .i64 b, .int .i64 c, .int .i64 d])).run Tryd.prog w = .ok (.bool true) w := by
  have h : (Op.equalIn 10000 56 (.agg #[.int .i64 a, .int .i64 b, .int .i64 c, .int .i64 d]) (.agg #[.int .i64 a, .int .i64 b, .int .i64 c, .int .i64 d])).run Tryd.prog w = .ok true w := by
    obtain ⟨i, hi, _⟩ := info_parts infoVal
    have h0 := run_equalIn_array (P := Tryd.prog) (w := w) 9999 #[.int .i64 a, .int .i64 b, .int .i64 c, .int .i64 d] #[.int .i64 a, .int .i64 b, .int .i64 c, .int .i64 d] Tryd.underlying56 hi
    rw [h0, show List.range 2 = [0, 1] from rfl, cellsV]
    simp [Op.eqItems, go_sem, Tryd.underlying23, Tryd.underlying3]
  simp [go_sem, h]

set_option maxHeartbeats 8000000 in
theorem vmEach_any (v vi : Value) (l ins : List Val) (x0 y0 x1 y1 : Int) (w : World) (hv : ValsAt w v l) (hi : ValsAt w vi ins) (h : Env4 w) :
    Calls Tryd.prog 8 #[v, .agg #[.int .i64 x0, .int .i64 y0, .int .i64 x1, .int .i64 y1], vi] w (Gives (.bool true) w) := by
  obtain ⟨a, cap, rfl, hm, -⟩ := hv.open2
  obtain ⟨ai, ci, rfl, hmi, -⟩ := hi.open2
  have HV := Lib.hid hv
  have HI := Lib.hid hi
  have HE := Lib.hid h
  clear hv hi h
  by_cases h60 : l.length ≤ 60 ∧ ins.length ≤ 40
  · obtain ⟨h6, h4⟩ := h60
    go_enter Tryd.func8, Tryd.ntmps8
    go_wp2_with (first
      | (go_at_call 33; refine (awake06_any _ (HE.out.grew (by repeat (first | with_reducible exact Grew.refl _ | apply Grew.more | apply Grew.alloc | apply Grew.drew | apply Grew.drewN)))).mono ?_; rintro e w1 ⟨rfl, Ra, na, rfl⟩)
      | (go_at_call 34; refine (each_any _ _ l ins x0 y0 x1 y1 _ (HV.out.grew (by repeat (first | with_reducible exact Grew.refl _ | apply Grew.more | apply Grew.alloc | apply Grew.drew | apply Grew.drewN))) (HI.out.grew (by repeat (first | with_reducible exact Grew.refl _ | apply Grew.more | apply Grew.alloc | apply Grew.drew | apply Grew.drewN))) (by omega)).mono ?_; rintro e w1 hE; obtain ⟨ao, no, co, n1, n2, n3, n4, n5, err, rfl⟩ := hE.shape; (have hcd := hE.coded); (have HCD := Lib.hid hcd); obtain ⟨⟨R3, N3, hw⟩, _⟩ := hE; subst hw; clear hcd)
      )
    obtain ⟨b7, hb7⟩ : ∃ b7, b7 = w.heap.size + 1 + Ra.size + R3.size := ⟨_, rfl⟩
    rw [← hb7]
    have HB7 := Lib.hid hb7
    clear hb7
    go_loopw [9, 10, 36] (fun v9 v10 v36 wr => ∃ (k : Nat), k ≤ ins.length ∧ v36 = .int .i64 k ∧ v10 = .int .i64 (Vm.resAt l (x0, y0) (x1, y1) ins k).steps ∧ Grew w wr ∧ Vm.Upto l (x0, y0) (x1, y1) ins k ∧ OwnAt w.heap.size 23 2 encI wr v9 (Vm.resAt l (x0, y0) (x1, y1) ins k).out ∧
        wr.heap[b7]? = some (.cells #[.slice ao no co, .int .i64 n1, .int .i64 n2, .int .i64 n3, .int .i64 n4, .int .i64 n5] 59) ∧
        wr.heap[b7 + 1]? = some (.cells #[.int .i64 (Vm.resAt l (x0, y0) (x1, y1) ins k).c0.1, .int .i64 (Vm.resAt l (x0, y0) (x1, y1) ins k).c0.2, .int .i64 (Vm.resAt l (x0, y0) (x1, y1) ins k).c1.1, .int .i64 (Vm.resAt l (x0, y0) (x1, y1) ins k).c1.2] 56) ∧
        (err = 0 → OwnAt w.heap.size 23 2 encI wr (.slice ao no co) (Vm.each l ⟨[], (x0, y0), (x1, y1), 0⟩ ins).out ∧ ∀ q, v9.ownBlock = some q → (Value.slice ao no co).ownBlock ≠ some q)) (fun _ _ i _ => ins.length - (intOf i).toNat)
    case atStart =>
      refine ⟨0, Nat.zero_le _, rfl, rfl, by repeat (first | with_reducible exact Grew.refl _ | apply Grew.more | apply Grew.alloc | apply Grew.drew | apply Grew.drewN), fun h => absurd h (Nat.lt_irrefl 0), OwnAt.nil _, ?_, ?_, ?_⟩
      · exact heap_alloc' (heap_new_at _ _ _ (by have := HB7.out; simp [World.size_alloc, World.more_size]; omega)) _
      · exact heap_new_at _ _ _ (by have := HB7.out; simp [World.size_alloc, World.more_size]; omega)
      · intro he
        exact ⟨(OwnAt.low (HCD.out.2.2 he).1 (by simp [World.size_alloc, World.more_size]; omega)).grew (by repeat (first | with_reducible exact Grew.refl _ | apply Grew.more | apply Grew.alloc | apply Grew.drew | apply Grew.drewN)), fun q hq => by cases hq⟩
    case round =>
      obtain ⟨k, hk, rfl, rfl, hg, hup, ho, h7, h11, hout⟩ := hrel
      have hc7 := fun o => cell_of (o := o) h7
      have hc70 := hc7 0
      have hc71 := hc7 1
      have hc72 := hc7 2
      have hc73 := hc7 3
      have hc74 := hc7 4
      have hc75 := hc7 5
      simp at hc70 hc71 hc72 hc73 hc74 hc75
      have hp7 := Pre.mk (heap_lt h7)
      have hp11 := Pre.mk (heap_lt h11)
      by_cases hlt : k < ins.length
      · have hsucc := Vm.resAt_succ l (x0, y0) (x1, y1) ins k hlt
        have hbad := fun h => Vm.code_bad (l := l) (c0 := (x0, y0)) (c1 := (x1, y1)) hlt h
        have hups := Vm.upto_succ (l := l) (c0 := (x0, y0)) (c1 := (x1, y1)) hlt hup
        have hbd := fun h24 => Vm.resAt_bounds (l := l) h24 (x0, y0) (x1, y1) ins k hk
        obtain ⟨ak, ck, ek, _, hxk⟩ := (HI.out.grew hg).open2
        cases ek
        obtain ⟨bi, offi, rfl, hbi, hi0, hi1⟩ := hxk k hlt
        clear hxk
        generalize hrk : Vm.resAt l (x0, y0) (x1, y1) ins k = r at *
        generalize ins[k] = pq at *
        obtain ⟨p, q⟩ := pq
        obtain ⟨ro, ⟨cx0, cy0⟩, ⟨cx1, cy1⟩, rs⟩ := r
        simp only at hi0 hi1 hsucc hbad hups hbd ho h11 ⊢
        have hc11 := fun o => cell_of (o := o) h11
        have hc110 := hc11 0
        have hc111 := hc11 1
        have hc112 := hc11 2
        have hc113 := hc11 3
        simp at hc110 hc111 hc112 hc113
        have HG := Lib.hid hg
        have HO := Lib.hid ho
        have H7 := Lib.hid h7
        have H11 := Lib.hid h11
        have HOUT := Lib.hid hout
        have HSUCC := Lib.hid hsucc
        have HUPS := Lib.hid hups
        have HBD := Lib.hid hbd
        clear hc7 hc11 hg ho h7 h11 hout hsucc hups hbd hrk hup
        by_cases hz : Vm.codeOf l (cx0, cy0) (cx1, cy1) [(p, q)] = 0
        · have HZ := Lib.hid hz
          have hs : Vm.safe l = true := (Vm.codeOf_zero.1 hz).1
          have h24 := (Co.fits_parts (Vm.safe_fits hs)).1
          obtain ⟨d1, d2, d3⟩ := HBD.out h24
          obtain ⟨d4, d5, d6⟩ := Vm.each1_bounds h24 (cx0, cy0) (cx1, cy1) (p, q)
          clear hz hbad hs
          generalize hEE : Vm.each l ⟨[], (cx0, cy0), (cx1, cy1), 0⟩ [(p, q)] = E at *
          obtain ⟨eo, ⟨ex0, ey0⟩, ⟨ex1, ey1⟩, es⟩ := E
          simp only at d4 d5 d6
          have HEE := Lib.hid hEE
          clear hEE
          go_wp2_with (first
            | (go_at_call 35; refine (run1_any _ l p q cx0 cy0 cx1 cy1 _ (HV.out.grew (HG.out.trans (by repeat (first | with_reducible exact Grew.refl _ | apply Grew.more | apply Grew.alloc | apply Grew.drew | apply Grew.drewN))))).mono ?_; rintro e w1 hE; obtain ⟨ao2, no2, co2, m1, m2, m3, m4, m5, err2, rfl⟩ := hE.shape; (have hcd2 := hE.coded); obtain ⟨hq1, _, hq2⟩ := hcd2; rw [HZ.out] at hq1; subst hq1; obtain ⟨ho2, hm1, hm2, hm3, hm4, hm5⟩ := hq2 rfl; rw [HEE.out] at ho2 hm1 hm2 hm3 hm4 hm5; simp only at ho2 hm1 hm2 hm3 hm4 hm5; subst hm1 hm2 hm3 hm4 hm5; (have HO2 := Lib.hid ho2); obtain ⟨⟨R6, N6, hw⟩, _⟩ := hE; subst hw; clear ho2 hq2)
            | (at_builtin; go_loud (refine wpList_ownL (w0 := w) rfl (.tmp 63) (.tmp 65) 57 _ _ rfl Tryd.underlying57 infoVal rfl (by decide) encI_len encI_one rfl (HO.out.grew (by repeat (first | with_reducible exact Grew.refl _ | apply Grew.more | apply Grew.alloc | apply Grew.drew | apply Grew.drewN))) (HG.out.trans (by repeat (first | with_reducible exact Grew.refl _ | apply Grew.more | apply Grew.alloc | apply Grew.drew | apply Grew.drewN))) rfl (HO2.out.grew (by repeat (first | with_reducible exact Grew.refl _ | apply Grew.more | apply Grew.alloc | apply Grew.drew | apply Grew.drewN))) (by omega) (by decide) ?_); intro v8 W9 hA9; (have k7 := keepT_of hA9 (HO.out.grew (by repeat (first | with_reducible exact Grew.refl _ | apply Grew.more | apply Grew.alloc | apply Grew.drew | apply Grew.drewN))) (grew_heap (by repeat (first | with_reducible exact Grew.refl _ | apply Grew.more | apply Grew.alloc | apply Grew.drew | apply Grew.drewN)) H7.out) (by decide)); (have k11 := keepT_of hA9 (HO.out.grew (by repeat (first | with_reducible exact Grew.refl _ | apply Grew.more | apply Grew.alloc | apply Grew.drew | apply Grew.drewN))) (grew_heap (by repeat (first | with_reducible exact Grew.refl _ | apply Grew.more | apply Grew.alloc | apply Grew.drew | apply Grew.drewN)) H11.out) (by decide)); (have k14 := keepT_of hA9 (HO.out.grew (by repeat (first | with_reducible exact Grew.refl _ | apply Grew.more | apply Grew.alloc | apply Grew.drew | apply Grew.drewN))) (heap_new_at _ _ (wr.heap.size + 1 + R6.size) (by simp [World.size_alloc, World.more_size])) (by decide)); (have c141 := cell_of (o := 1) k14); (have c142 := cell_of (o := 2) k14); (have c143 := cell_of (o := 3) k14); (have c144 := cell_of (o := 4) k14); (have c145 := cell_of (o := 5) k14); simp at c141 c142 c143 c144 c145; (have f0 := frozen_of (o := 0) k11); (have f1 := frozen_of (o := 1) k11); (have f2 := frozen_of (o := 2) k11); (have f3 := frozen_of (o := 3) k11); (have g0 := cell_of (o := 0) k11); (have g1 := cell_of (o := 1) k11); (have g2 := cell_of (o := 2) k11); (have g3 := cell_of (o := 3) k11); simp at g0 g1 g2 g3; (have q11 := Pre.mk (heap_lt k11)); (have q14 := Pre.mk (heap_lt k14)); (have K7 := Lib.hid k7); (have K11 := Lib.hid k11); (have HA9 := Lib.hid hA9); clear hA9 k7 k11 k14)
            )
          go_roundw
          case rel =>
            have hle : w.heap.size ≤ b7 + 1 := by have := HB7.out; omega
            have hR : Vm.resAt l (x0, y0) (x1, y1) ins (k + 1) = ⟨ro ++ eo, (m1, m2), (m3, m4), rs + m5⟩ := HSUCC.out
            refine ⟨k + 1, by omega, by go_num, by rw [hR], (((HA9.out.1.set hle _).set hle _).set hle _).set hle _, HUPS.out HZ.out, ?_, ?_, ?_, ?_⟩
            · rw [hR]
              refine HA9.out.2.1.same fun q hq => ?_
              have : b7 + 1 ≠ q := fun e => HA9.out.2.1.other K11.out (by decide) (e ▸ hq)
              rw [set_other this, set_other this, set_other this, set_other this]
            · have : b7 + 1 ≠ b7 := by omega
              rw [set_other this, set_other this, set_other this, set_other this]; exact K7.out
            · rw [hR, set_self (set_self (set_self (set_self K11.out)))]; rfl
            · intro he0
              obtain ⟨o1, o2⟩ := HOUT.out he0
              obtain ⟨o3, o4⟩ := appended_other HA9.out (by repeat (first | with_reducible exact Grew.refl _ | apply Grew.more | apply Grew.alloc | apply Grew.drew | apply Grew.drewN)) o1 o2
              refine ⟨o3.same fun q hq => ?_, o4⟩
              have : b7 + 1 ≠ q := fun e => o3.other K11.out (by decide) (e ▸ hq)
              rw [set_other this, set_other this, set_other this, set_other this]
          case measure => first | (simp [intOf]; done) | (simp [intOf]; omega)
        · obtain ⟨cd, hcd⟩ : ∃ cd, cd = Vm.codeOf l (cx0, cy0) (cx1, cy1) [(p, q)] := ⟨_, rfl⟩
          have he := HCD.out.1.trans (hbad hz)
          rw [← hcd] at he hz
          subst he
          obtain ⟨z1, z2⟩ := HCD.out.2.1 hz
          subst z1 z2
          have hzb : (err != 0) = true := by simpa using hz
          have HCDE := Lib.hid hcd
          clear hz hcd hbad
          go_wp2_with (go_at_call 35; refine (run1_any _ l p q cx0 cy0 cx1 cy1 _ (HV.out.grew (HG.out.trans (by repeat (first | with_reducible exact Grew.refl _ | apply Grew.more | apply Grew.alloc | apply Grew.drew | apply Grew.drewN))))).mono ?_; rintro e w1 hE; obtain ⟨ao2, no2, co2, m1, m2, m3, m4, m5, err2, rfl⟩ := hE.shape; (have hcd2 := hE.coded); obtain ⟨hq1, _, _⟩ := hcd2; rw [← HCDE.out] at hq1; subst hq1; obtain ⟨⟨R6, N6, hw⟩, _⟩ := hE; subst hw)
          go_ret
          refine ⟨rfl, ?_⟩
          repeat (first | with_reducible exact Grew.refl _ | apply Grew.more | apply Grew.alloc | apply Grew.drew | apply Grew.drewN)
          exact HG.out
      · obtain rfl : k = ins.length := by omega
        have hra : Vm.resAt l (x0, y0) (x1, y1) ins ins.length = Vm.each l ⟨[], (x0, y0), (x1, y1), 0⟩ ins := by unfold Vm.resAt; rw [List.take_length]
        rw [hra] at ho h11 ⊢
        by_cases he0 : err = 0
        · subst he0
          obtain ⟨-, -, z3⟩ := HCD.out
          obtain ⟨-, e1, e2, e3, e4, e5⟩ := z3 rfl
          obtain ⟨o1, o2⟩ := hout rfl
          generalize Vm.each l ⟨[], (x0, y0), (x1, y1), 0⟩ ins = r at *
          obtain ⟨ro, ⟨cx0, cy0⟩, ⟨cx1, cy1⟩, rs⟩ := r
          simp only at e1 e2 e3 e4 e5 ho h11 o1 ⊢
          subst e1 e2 e3 e4 e5
          have hc11 := fun o => cell_of (o := o) h11
          have hc110 := hc11 0
          have hc111 := hc11 1
          have hc112 := hc11 2
          have hc113 := hc11 3
          simp at hc110 hc111 hc112 hc113
          have hr1 : ValsAt wr (.slice ao no co) ro := o1.rows encI_len
          have hr2 := ho.rows encI_len
          have HR1 := Lib.hid hr1
          have HR2 : Hid (ValsAt wr _ ro) := Lib.hid hr2
          have hq := run_eql_arr n1 n2 n3 n4
          have HG := Lib.hid hg
          clear hc7 hc11 hg ho h7 h11 hout hr1 hr2 o1 o2 z3 hra hup
          go_wp2_with (go_at_call 36; refine (refSameV_any _ _ ro ro _ (HR1.out.grew (by repeat (first | with_reducible exact Grew.refl _ | apply Grew.more | apply Grew.alloc | apply Grew.drew | apply Grew.drewN))) (HR2.out.grew (by repeat (first | with_reducible exact Grew.refl _ | apply Grew.more | apply Grew.alloc | apply Grew.drew | apply Grew.drewN)))).mono ?_; rintro e w1 ⟨rfl, R8, N8, rfl⟩; rw [decide_eq_true (rfl : ro = ro)])
          go_ret
          refine ⟨rfl, ?_⟩
          repeat (first | with_reducible exact Grew.refl _ | apply Grew.more | apply Grew.alloc | apply Grew.drew | apply Grew.drewN)
          exact HG.out
        · have hn0 := Vm.code_end hup (by rw [← HCD.out.1]; exact he0)
          obtain ⟨z1, z2⟩ := HCD.out.2.1 he0
          subst z1 z2
          have hzb : (err != 0) = true := by simpa using he0
          have hnb : ((ins.length : Int) == 0) = true := by rw [hn0]; rfl
          have HG := Lib.hid hg
          clear hc7 hg ho h7 h11 hout hra hup he0 hn0
          go_wp2
          go_ret
          refine ⟨rfl, ?_⟩
          repeat (first | with_reducible exact Grew.refl _ | apply Grew.more | apply Grew.alloc | apply Grew.drew | apply Grew.drewN)
          exact HG.out
  · by_cases h6 : l.length ≤ 60
    · have h4 : 40 < ins.length := by omega
      go_enter Tryd.func8, Tryd.ntmps8
      go_wp2_with (go_at_call 33; refine (awake06_any _ (HE.out.grew (by repeat (first | with_reducible exact Grew.refl _ | apply Grew.more | apply Grew.alloc | apply Grew.drew | apply Grew.drewN)))).mono ?_; rintro e w1 ⟨rfl, Ra, na, rfl⟩)
      go_ret
      refine ⟨rfl, ?_⟩
      repeat (first | with_reducible exact Grew.refl _ | apply Grew.more | apply Grew.alloc | apply Grew.drew | apply Grew.drewN)
    · have h4 : 60 < l.length := by omega
      go_enter Tryd.func8, Tryd.ntmps8
      go_wp2_with (go_at_call 33; refine (awake06_any _ (HE.out.grew (by repeat (first | with_reducible exact Grew.refl _ | apply Grew.more | apply Grew.alloc | apply Grew.drew | apply Grew.drewN)))).mono ?_; rintro e w1 ⟨rfl, Ra, na, rfl⟩)
      go_ret
      refine ⟨rfl, ?_⟩
      repeat (first | with_reducible exact Grew.refl _ | apply Grew.more | apply Grew.alloc | apply Grew.drew | apply Grew.drewN)
end Go.Proofs.YtiocdmfmghanmaaDoor
