import Derived.Test.YtmdmbimfdpngaaaGreatDoorMp45
import Derived.Test.YtmdmbimfdpngaaaGreatDoorMp38
/-! CellPlays: Run. -/
namespace Go.Proofs.YtmdmbimfdpngaaaGreatDoor
set_option linter.unusedSimpArgs false
set_option linter.unusedVariables false
open Go.RowKit Ga
set_option maxRecDepth 100000

theorem field_known7 (d : Value) (n1 n2 : Int) (u1 u2 b : Bool) (W : World) : (Instr.field 81 (.agg #[d, .int .i64 n1, .int .i64 n2, .bool u1, .bool u2, .bool b]) 4).run Tryz.prog W = .ok (.bool b) W := by
  kernel_rfl
theorem thereB_parts (n k : Int) (v : Val) : (thereB n k && (thereB 0 k && rightV v)) = (decide (0 ≤ n) && (decide (n < 8) && recB k v)) := by
  unfold thereB recB
  by_cases h1 : 0 ≤ n <;> by_cases h2 : n < 8 <;> by_cases h3 : 0 ≤ k <;> by_cases h4 : k < 64 <;> simp [h1, h2, h3, h4]
set_option maxHeartbeats 16000000 in
theorem pl_1e (w W : World) (vo : Value) (len k t b n tr ob : Nat) (m : List Tab.En) (f : FTab) (c : OpC) (p : List Val) (gs : List Int) (Q : Exit → Act → World → Prop) (a0 : Act)
    (h0 : Live7 w vo len k 0 t b n tr m f a0 W) (hb : Box7 w ob c a0 W) (hi : OpIs w c p gs) (hk : c.k = 1 ∧ ¬ (0 ≤ c.nd ∧ c.nd < 8 ∧ recB c.rk (c.rx, c.ry) = true ∧ Vm.safe p = true)) (hlen : k < len ∧ len ≤ 100) (hpl : p.length ≤ 24) (hgl : gs.length ≤ 20)
    (hnext : ∀ a' W' t' b' n' m' f', Live7 w vo len k 1 t' b' n' tr m' f' a' W' → Box7 w ob c a' W' → Code.wp Tryz.prog (tail7 61) Q a' W') :
    Code.wp Tryz.prog (tail7 21) Q a0 W := by
  obtain ⟨hfr, h5, h7, h70, h71, h72, hs, hrel, hn⟩ := h0
  obtain ⟨h11, hbx, hlo⟩ := hb
  obtain ⟨u, hu⟩ : ∃ u : Nat → Value, u = fun i => a0.tmps.getD i undef := ⟨_, rfl⟩
  rw [← hu] at hfr
  have u5 : u 5 = _ := (congrFun hu 5).trans h5
  have u7 : u 7 = _ := (congrFun hu 7).trans h7
  have u11 : u 11 = _ := (congrFun hu 11).trans h11
  have u70 : u 70 = _ := (congrFun hu 70).trans h70
  have u71 : u 71 = _ := (congrFun hu 71).trans h71
  have u72 : u 72 = _ := (congrFun hu 72).trans h72
  clear hu h5 h7 h11 h70 h71 h72
  subst hfr
  conv => arg 2; whnf
  unfold frame7
  rw [u5, u7, u11, u70, u71, u72]
  clear u5 u7 u11 u70 u71 u72
  obtain ⟨l1, l2⟩ := hi.lens
  obtain ⟨ck, nd, ky, p0, q0, p1, q1, ap, np, cp, rk, rx, ry, al, nl, cl⟩ := c
  simp only at hk l1 l2
  subst l1 l2
  have x0 := cell_of (o := 0) hbx
  have x1 := cell_of (o := 1) hbx
  have x7 := cell_of (o := 7) hbx
  have x8 := cell_of (o := 8) hbx
  have x9 := cell_of (o := 9) hbx
  have x10 := cell_of (o := 10) hbx
  simp [encOp] at x0 x1 x7 x8 x9 x10
  have px := Pre.mk (heap_lt hbx)
  have HBX := Lib.hid hbx
  have HS := Lib.hid hs
  have HREL := Lib.hid hrel
  have HN := Lib.hid hn
  have HI := Lib.hid hi
  have HNX := Lib.hid hnext
  clear hs hrel hn hi hbx hnext
  obtain ⟨hk, hbad⟩ := hk
  subst hk
  have HBAD := Lib.hid hbad
  clear hbad
  have hfd := field_known7
  have HRUN := Lib.hid fun W2 (g : Grew W W2) => tabRun_any w W2 t b n m (HS.out.a.grew g) HS.out.ok (HS.out.g.trans g) HS.out.bb (by have := HN.out; unfold maxLen; omega) nd _ p (HI.out.p.grew (HS.out.g.trans g)) rk rx ry
  have HREC := Lib.hid fun W2 => refRec07_any rk rx ry W2
  by_cases h0 : 0 ≤ nd
  case neg =>
    have hlt : nd < 0 := by omega
    have hr : runT m nd p rk (rx, ry) = (1, [], m) := by
      have q1 := runT_code m nd p rk (rx, ry)
      rw [thereB_parts] at q1
      have q2 : (runT m nd p rk (rx, ry)).1 = 1 := by rw [q1]; rw [decide_eq_false h0]; rfl
      have q3 := runT_bad (m := m) (nd := nd) (p := p) (ky := rk) (v := (rx, ry)) (by rw [q2]; decide)
      exact Prod.ext q2 q3
    have HR := Lib.hid hr
    have HOK := Lib.hid HS.out.ok
    clear hr
    go_wp2_with fail
    refine (HRUN.out _ (by repeat (first | with_reducible exact Grew.refl _ | apply Grew.more | apply Grew.alloc | apply Grew.drew | apply Grew.drewN))).mono ?_
    rintro e W5 ⟨v5, rfl, hr5, hT5, hg5, hk5⟩
    rw [HR.out] at hr5 hT5 ⊢
    simp only at hr5 hT5 ⊢
    have HB5 : Hid (W5.heap[ob]? = some (.cells (encOp ⟨1, nd, ky, p0, q0, p1, q1, ap, p.length, cp, rk, rx, ry, al, gs.length, cl⟩).toArray 76)) := Lib.hid ((hk5.2 ob (heap_lt HBX.out) (box_ne HS.out HBX.out)).trans HBX.out)
    have HS5 := Lib.hid (HS.out.prog hT5 hg5 hk5 HOK.out)
    obtain ⟨a5, c5, e5⟩ := hr5.len
    rw [List.length_map] at e5
    subst e5
    have HR5 := Lib.hid hr5
    clear hr5 hT5 hg5 hk5 x0 x1 x7 x8 x9 x10 px
    have x1 := cell_of (o := 1) HB5.out
    have x7 := cell_of (o := 7) HB5.out
    have x8 := cell_of (o := 8) HB5.out
    have x9 := cell_of (o := 9) HB5.out
    have x10 := cell_of (o := 10) HB5.out
    simp [encOp] at x1 x7 x8 x9 x10
    have px := Pre.mk (heap_lt HB5.out)
    go_upto_if 194 with fail
    iterate 4 go_step
    refine HNX.out _ _ t b (n + 1) m f ?_ ?_
    · exact ⟨rfl, rfl, rfl, rfl, rfl, rfl, HS5.out.grew (by repeat (first | with_reducible exact Grew.refl _ | apply Grew.more | apply Grew.alloc | apply Grew.drew | apply Grew.drewN)), HREL.out, by have := HN.out; omega⟩
    · exact ⟨rfl, grew_heap (by repeat (first | with_reducible exact Grew.refl _ | apply Grew.more | apply Grew.alloc | apply Grew.drew | apply Grew.drewN)) HB5.out, hlo⟩
  by_cases h8 : nd < 8
  case neg =>
    have hgt : 7 < nd := by omega
    have hnl : ¬ nd < 0 := by omega
    have hr : runT m nd p rk (rx, ry) = (1, [], m) := by
      have q1 := runT_code m nd p rk (rx, ry)
      rw [thereB_parts] at q1
      have q2 : (runT m nd p rk (rx, ry)).1 = 1 := by rw [q1]; rw [decide_eq_false h8, decide_eq_true h0]; rfl
      have q3 := runT_bad (m := m) (nd := nd) (p := p) (ky := rk) (v := (rx, ry)) (by rw [q2]; decide)
      exact Prod.ext q2 q3
    have HR := Lib.hid hr
    have HOK := Lib.hid HS.out.ok
    clear hr
    go_wp2_with fail
    refine (HRUN.out _ (by repeat (first | with_reducible exact Grew.refl _ | apply Grew.more | apply Grew.alloc | apply Grew.drew | apply Grew.drewN))).mono ?_
    rintro e W5 ⟨v5, rfl, hr5, hT5, hg5, hk5⟩
    rw [HR.out] at hr5 hT5 ⊢
    simp only at hr5 hT5 ⊢
    have HB5 : Hid (W5.heap[ob]? = some (.cells (encOp ⟨1, nd, ky, p0, q0, p1, q1, ap, p.length, cp, rk, rx, ry, al, gs.length, cl⟩).toArray 76)) := Lib.hid ((hk5.2 ob (heap_lt HBX.out) (box_ne HS.out HBX.out)).trans HBX.out)
    have HS5 := Lib.hid (HS.out.prog hT5 hg5 hk5 HOK.out)
    obtain ⟨a5, c5, e5⟩ := hr5.len
    rw [List.length_map] at e5
    subst e5
    have HR5 := Lib.hid hr5
    clear hr5 hT5 hg5 hk5 x0 x1 x7 x8 x9 x10 px
    have x1 := cell_of (o := 1) HB5.out
    have x7 := cell_of (o := 7) HB5.out
    have x8 := cell_of (o := 8) HB5.out
    have x9 := cell_of (o := 9) HB5.out
    have x10 := cell_of (o := 10) HB5.out
    simp [encOp] at x1 x7 x8 x9 x10
    have px := Pre.mk (heap_lt HB5.out)
    go_upto_if 194 with fail
    iterate 4 go_step
    refine HNX.out _ _ t b (n + 1) m f ?_ ?_
    · exact ⟨rfl, rfl, rfl, rfl, rfl, rfl, HS5.out.grew (by repeat (first | with_reducible exact Grew.refl _ | apply Grew.more | apply Grew.alloc | apply Grew.drew | apply Grew.drewN)), HREL.out, by have := HN.out; omega⟩
    · exact ⟨rfl, grew_heap (by repeat (first | with_reducible exact Grew.refl _ | apply Grew.more | apply Grew.alloc | apply Grew.drew | apply Grew.drewN)) HB5.out, hlo⟩
  have hnl : ¬ nd < 0 := by omega
  have hng : ¬ 7 < nd := by omega
  cases hrc : recB rk (rx, ry)
  · rw [hrc] at HREC
    have hr : runT m nd p rk (rx, ry) = (1, [], m) := by
      have q1 := runT_code m nd p rk (rx, ry)
      rw [thereB_parts] at q1
      have q2 : (runT m nd p rk (rx, ry)).1 = 1 := by rw [q1]; rw [decide_eq_true h8, decide_eq_true h0, hrc]; rfl
      have q3 := runT_bad (m := m) (nd := nd) (p := p) (ky := rk) (v := (rx, ry)) (by rw [q2]; decide)
      exact Prod.ext q2 q3
    have HR := Lib.hid hr
    have HOK := Lib.hid HS.out.ok
    clear hr
    go_wp2_with fail
    refine (HRUN.out _ (by repeat (first | with_reducible exact Grew.refl _ | apply Grew.more | apply Grew.alloc | apply Grew.drew | apply Grew.drewN))).mono ?_
    rintro e W5 ⟨v5, rfl, hr5, hT5, hg5, hk5⟩
    rw [HR.out] at hr5 hT5 ⊢
    simp only at hr5 hT5 ⊢
    have HB5 : Hid (W5.heap[ob]? = some (.cells (encOp ⟨1, nd, ky, p0, q0, p1, q1, ap, p.length, cp, rk, rx, ry, al, gs.length, cl⟩).toArray 76)) := Lib.hid ((hk5.2 ob (heap_lt HBX.out) (box_ne HS.out HBX.out)).trans HBX.out)
    have HS5 := Lib.hid (HS.out.prog hT5 hg5 hk5 HOK.out)
    obtain ⟨a5, c5, e5⟩ := hr5.len
    rw [List.length_map] at e5
    subst e5
    have HR5 := Lib.hid hr5
    clear hr5 hT5 hg5 hk5 x0 x1 x7 x8 x9 x10 px
    have x1 := cell_of (o := 1) HB5.out
    have x7 := cell_of (o := 7) HB5.out
    have x8 := cell_of (o := 8) HB5.out
    have x9 := cell_of (o := 9) HB5.out
    have x10 := cell_of (o := 10) HB5.out
    simp [encOp] at x1 x7 x8 x9 x10
    have px := Pre.mk (heap_lt HB5.out)
    go_upto_if 194 with (go_at_call 27; refine (HREC.out _).mono ?_; rintro e w6 ⟨rfl, R6, N6, rfl⟩)
    iterate 4 go_step
    refine HNX.out _ _ t b (n + 1) m f ?_ ?_
    · exact ⟨rfl, rfl, rfl, rfl, rfl, rfl, HS5.out.grew (by repeat (first | with_reducible exact Grew.refl _ | apply Grew.more | apply Grew.alloc | apply Grew.drew | apply Grew.drewN)), HREL.out, by have := HN.out; omega⟩
    · exact ⟨rfl, grew_heap (by repeat (first | with_reducible exact Grew.refl _ | apply Grew.more | apply Grew.alloc | apply Grew.drew | apply Grew.drewN)) HB5.out, hlo⟩
  rw [hrc] at HREC
  cases hsf : Vm.safe p
  · have HSF := Lib.hid hsf
    have hr : runT m nd p rk (rx, ry) = (9, [], m) := by
      have q1 := runT_code m nd p rk (rx, ry)
      rw [thereB_parts] at q1
      have q2 : (runT m nd p rk (rx, ry)).1 = 9 := by rw [q1]; rw [decide_eq_true h8, decide_eq_true h0, hrc, if_neg (by simp), if_pos hsf]
      have q3 := runT_bad (m := m) (nd := nd) (p := p) (ky := rk) (v := (rx, ry)) (by rw [q2]; decide)
      exact Prod.ext q2 q3
    have HR := Lib.hid hr
    have HOK := Lib.hid HS.out.ok
    clear hr
    go_wp2_with fail
    refine (HRUN.out _ (by repeat (first | with_reducible exact Grew.refl _ | apply Grew.more | apply Grew.alloc | apply Grew.drew | apply Grew.drewN))).mono ?_
    rintro e W5 ⟨v5, rfl, hr5, hT5, hg5, hk5⟩
    rw [HR.out] at hr5 hT5 ⊢
    simp only at hr5 hT5 ⊢
    have HB5 : Hid (W5.heap[ob]? = some (.cells (encOp ⟨1, nd, ky, p0, q0, p1, q1, ap, p.length, cp, rk, rx, ry, al, gs.length, cl⟩).toArray 76)) := Lib.hid ((hk5.2 ob (heap_lt HBX.out) (box_ne HS.out HBX.out)).trans HBX.out)
    have HS5 := Lib.hid (HS.out.prog hT5 hg5 hk5 HOK.out)
    obtain ⟨a5, c5, e5⟩ := hr5.len
    rw [List.length_map] at e5
    subst e5
    have HR5 := Lib.hid hr5
    clear hr5 hT5 hg5 hk5 x0 x1 x7 x8 x9 x10 px
    have x1 := cell_of (o := 1) HB5.out
    have x7 := cell_of (o := 7) HB5.out
    have x8 := cell_of (o := 8) HB5.out
    have x9 := cell_of (o := 9) HB5.out
    have x10 := cell_of (o := 10) HB5.out
    simp [encOp] at x1 x7 x8 x9 x10
    have px := Pre.mk (heap_lt HB5.out)
    go_upto_if 194 with (first | (go_at_call 27; refine (HREC.out _).mono ?_; rintro e w6 ⟨rfl, R6, N6, rfl⟩) | (go_at_call 28; refine (refCheck_any _ p _ (HI.out.p.grew (HS5.out.g.trans (by repeat (first | with_reducible exact Grew.refl _ | apply Grew.more | apply Grew.alloc | apply Grew.drew | apply Grew.drewN))))).mono ?_; rintro e w1 hC; obtain ⟨⟨R7, N7, hw⟩, kd, kn1, kn2, ku1, ku2, rfl⟩ := hC; subst hw; rw [HSF.out]))
    iterate 4 go_step
    refine HNX.out _ _ t b (n + 1) m f ?_ ?_
    · exact ⟨rfl, rfl, rfl, rfl, rfl, rfl, HS5.out.grew (by repeat (first | with_reducible exact Grew.refl _ | apply Grew.more | apply Grew.alloc | apply Grew.drew | apply Grew.drewN)), HREL.out, by have := HN.out; omega⟩
    · exact ⟨rfl, grew_heap (by repeat (first | with_reducible exact Grew.refl _ | apply Grew.more | apply Grew.alloc | apply Grew.drew | apply Grew.drewN)) HB5.out, hlo⟩
  exact absurd ⟨h0, h8, hrc, hsf⟩ HBAD.out
end Go.Proofs.YtmdmbimfdpngaaaGreatDoor

/-! CellPlays: Run, of a right record. -/
namespace Go.Proofs.YtmdmbimfdpngaaaGreatDoor
set_option linter.unusedSimpArgs false
set_option linter.unusedVariables false
open Go.RowKit Ga
set_option maxRecDepth 100000

set_option maxHeartbeats 16000000 in
theorem pl_1ok (w W : World) (vo : Value) (len k t b n tr ob : Nat) (m : List Tab.En) (f : FTab) (c : OpC) (p : List Val) (gs : List Int) (Q : Exit → Act → World → Prop) (a0 : Act)
    (h0 : Live7 w vo len k 0 t b n tr m f a0 W) (hb : Box7 w ob c a0 W) (hi : OpIs w c p gs) (hk : c.k = 1 ∧ 0 ≤ c.nd ∧ c.nd < 8 ∧ recB c.rk (c.rx, c.ry) = true ∧ Vm.safe p = true) (hlen : k < len ∧ len ≤ 100) (hpl : p.length ≤ 24) (hgl : gs.length ≤ 20)
    (hnext : ∀ a' W' t' b' n' m' f', Live7 w vo len k 1 t' b' n' tr m' f' a' W' → Box7 w ob c a' W' → Code.wp Tryz.prog (tail7 61) Q a' W') :
    Code.wp Tryz.prog (tail7 21) Q a0 W := by
  obtain ⟨hfr, h5, h7, h70, h71, h72, hs, hrel, hn⟩ := h0
  obtain ⟨h11, hbx, hlo⟩ := hb
  obtain ⟨u, hu⟩ : ∃ u : Nat → Value, u = fun i => a0.tmps.getD i undef := ⟨_, rfl⟩
  rw [← hu] at hfr
  have u5 : u 5 = _ := (congrFun hu 5).trans h5
  have u7 : u 7 = _ := (congrFun hu 7).trans h7
  have u11 : u 11 = _ := (congrFun hu 11).trans h11
  have u70 : u 70 = _ := (congrFun hu 70).trans h70
  have u71 : u 71 = _ := (congrFun hu 71).trans h71
  have u72 : u 72 = _ := (congrFun hu 72).trans h72
  clear hu h5 h7 h11 h70 h71 h72
  subst hfr
  conv => arg 2; whnf
  unfold frame7
  rw [u5, u7, u11, u70, u71, u72]
  clear u5 u7 u11 u70 u71 u72
  obtain ⟨l1, l2⟩ := hi.lens
  obtain ⟨ck, nd, ky, p0, q0, p1, q1, ap, np, cp, rk, rx, ry, al, nl, cl⟩ := c
  simp only at hk l1 l2
  subst l1 l2
  have x0 := cell_of (o := 0) hbx
  have x1 := cell_of (o := 1) hbx
  have x7 := cell_of (o := 7) hbx
  have x8 := cell_of (o := 8) hbx
  have x9 := cell_of (o := 9) hbx
  have x10 := cell_of (o := 10) hbx
  simp [encOp] at x0 x1 x7 x8 x9 x10
  have px := Pre.mk (heap_lt hbx)
  have HBX := Lib.hid hbx
  have HS := Lib.hid hs
  have HREL := Lib.hid hrel
  have HN := Lib.hid hn
  have HI := Lib.hid hi
  have HNX := Lib.hid hnext
  clear hs hrel hn hi hbx hnext
  obtain ⟨hk, h0, h8, hrc, hsf⟩ := hk
  subst hk
  have hfd := field_known7
  have HRC := Lib.hid hrc
  unfold recB at hrc
  simp only [Bool.and_eq_true, decide_eq_true_eq] at hrc
  obtain ⟨⟨h3, h4⟩, hrv⟩ := hrc
  obtain ⟨nn, rfl⟩ := Int.eq_ofNat_of_zero_le h0
  obtain ⟨kk, rfl⟩ := Int.eq_ofNat_of_zero_le h3
  have HREC := Lib.hid fun W2 => refRec07_any (kk : Int) rx ry W2
  rw [HRC.out] at HREC
  have HSF := Lib.hid hsf
  have hcode := runT_code m (nn : Int) p (kk : Int) (rx, ry)
  rw [thereB_parts, decide_eq_true h0, decide_eq_true h8, HRC.out, if_neg (by simp), if_neg (by rw [hsf]; simp)] at hcode
  obtain ⟨hrel2, hout, -⟩ := HREL.out.run HS.out.ok hcode
  have hok2 := runT_ok HS.out.ok (nn : Int) p (kk : Int) (rx, ry)
  obtain ⟨g0, g1⟩ := getT_right HS.out.ok (nn : Int) (kk : Int)
  rw [HREL.out (nn : Int) (kk : Int) h0 h8 h3 h4] at g0 g1
  have HRUN := Lib.hid fun W2 (g : Grew W W2) => tabRunO_any w W2 t b n m (HS.out.a.grew g) HS.out.ok (HS.out.g.trans g) HS.out.bb (by have := HN.out; unfold maxLen; omega) (nn : Int) _ p (HI.out.p.grew (HS.out.g.trans g)) (kk : Int) rx ry
  obtain ⟨rr, hrr⟩ : ∃ r, runT m (nn : Int) p (kk : Int) (rx, ry) = r := ⟨_, rfl⟩
  rw [hrr] at hcode hrel2 hout hok2
  obtain ⟨rc, ro, m5⟩ := rr
  simp only at hcode hrel2 hout hok2
  subst hcode hout
  have HR := Lib.hid hrr
  have HOK := Lib.hid hok2
  have HRL := Lib.hid hrel2
  have HRF := Lib.hid fun W2 (hT : RTabAt W2 tr f) (hg : Grew w W2) => refRun07_any w W2 tr f hT hg HS.out.br nn kk (by omega) (by omega) _ p (HI.out.p.grew hg) rx ry HSF.out hrv g0 g1
  have hnl : ¬ (nn : Int) < 0 := by omega
  have hng : ¬ 7 < (nn : Int) := by omega
  generalize hO : (runC p (f nn kk) (rx, ry)).out = O at *
  clear hrr hok2 hrel2 g0 g1 hrv hsf hO
  go_wp2_with fail
  refine (HRUN.out _ (by repeat (first | with_reducible exact Grew.refl _ | apply Grew.more | apply Grew.alloc | apply Grew.drew | apply Grew.drewN))).mono ?_
  rintro e W5 ⟨v5, rfl, hr5, hT5, hg5, hk5⟩
  rw [HR.out] at hr5 hT5 ⊢
  simp only at hr5 hT5 ⊢
  have HB5 : Hid (W5.heap[ob]? = some (.cells (encOp ⟨1, nn, ky, p0, q0, p1, q1, ap, p.length, cp, kk, rx, ry, al, gs.length, cl⟩).toArray 76)) := Lib.hid ((hk5.2 ob (heap_lt HBX.out) (box_ne HS.out HBX.out)).trans HBX.out)
  have HS5 := Lib.hid (HS.out.prog hT5 hg5 hk5 HOK.out)
  obtain ⟨a5, c5, e5⟩ := (hr5.rows encRc_len).len
  rw [List.length_map] at e5
  subst e5
  have HR5 := Lib.hid hr5
  clear hr5 hT5 hg5 hk5 x0 x1 x7 x8 x9 x10 px
  have x1 := cell_of (o := 1) HB5.out
  have x7 := cell_of (o := 7) HB5.out
  have x8 := cell_of (o := 8) HB5.out
  have x9 := cell_of (o := 9) HB5.out
  have x10 := cell_of (o := 10) HB5.out
  simp [encOp] at x1 x7 x8 x9 x10
  have px := Pre.mk (heap_lt HB5.out)
  have HTB := Lib.hid (HS.out.r.lt)
  have hws := HS.out.g.below.size
  go_upto_region 37 with (first | (go_at_call 27; refine (HREC.out _).mono ?_; rintro e w6 ⟨rfl, R6, N6, rfl⟩) | (go_at_call 28; refine (refCheck_any _ p _ (HI.out.p.grew (HS5.out.g.trans (by repeat (first | with_reducible exact Grew.refl _ | apply Grew.more | apply Grew.alloc | apply Grew.drew | apply Grew.drewN))))).mono ?_; rintro e w1 hC; obtain ⟨⟨R7, N7, hw⟩, kd, kn1, kn2, ku1, ku2, rfl⟩ := hC; subst hw; rw [HSF.out]))
  go_wp2_with fail
  refine (HRF.out _ (HS5.out.r.grew (by repeat (first | with_reducible exact Grew.refl _ | apply Grew.more | apply Grew.alloc | apply Grew.drew | apply Grew.drewN))) (HS5.out.g.trans (by repeat (first | with_reducible exact Grew.refl _ | apply Grew.more | apply Grew.alloc | apply Grew.drew | apply Grew.drewN)))).mono ?_
  rintro e W8 ⟨v8, rfl, hr8, hT8, hg8, hk8⟩
  have hr5 : RecsAt W8 (.slice a5 O.length c5) (O.map fun x => ((kk : Int), x)) := (OwnAt.same (OwnAt.grew HR5.out (by repeat (first | with_reducible exact Grew.refl _ | apply Grew.more | apply Grew.alloc | apply Grew.drew | apply Grew.drewN))) fun q hq => hk8.2 q (by obtain ⟨_, cs, hc⟩ := OwnAt.block HR5.out hq; exact Nat.lt_of_lt_of_le (heap_lt hc) (by simp [go_sem]; omega)) (by have h1 := OwnAt.lt HR5.out q hq; have h2 := HTB.out; omega)).rows encRc_len
  have HS8 := Lib.hid ((HS5.out.grew (by repeat (first | with_reducible exact Grew.refl _ | apply Grew.more | apply Grew.alloc | apply Grew.drew | apply Grew.drewN))).refs hT8 hg8 hk8)
  have HB8 := Lib.hid ((hk8.2 ob (Nat.lt_of_lt_of_le (heap_lt HB5.out) (by simp [go_sem]; omega)) (box_ner HS5.out HB5.out)).trans (grew_heap (by repeat (first | with_reducible exact Grew.refl _ | apply Grew.more | apply Grew.alloc | apply Grew.drew | apply Grew.drewN)) HB5.out))
  obtain ⟨a8, c8, e8⟩ := hr8.len
  rw [List.length_map] at e8
  subst e8
  have HR8 := Lib.hid hr8
  have HR58 := Lib.hid hr5
  clear hr8 hr5 hT8 hg8 hk8
  go_wp2_with fail
  refine (refRecs07_yes _ _ _ _ _ (HR58.out.grew (by repeat (first | with_reducible exact Grew.refl _ | apply Grew.more | apply Grew.alloc | apply Grew.drew | apply Grew.drewN))) (HR8.out.grew (by repeat (first | with_reducible exact Grew.refl _ | apply Grew.more | apply Grew.alloc | apply Grew.drew | apply Grew.drewN))) rfl).mono ?_
  rintro e w9 ⟨rfl, R9, N9, rfl⟩
  go_upto_if 194 with fail
  iterate 4 go_step
  refine HNX.out _ _ t b (n + 1) m5 (runF f nn p kk (rx, ry)) ?_ ?_
  · exact ⟨rfl, rfl, rfl, rfl, rfl, rfl, HS8.out.grew (by repeat (first | with_reducible exact Grew.refl _ | apply Grew.more | apply Grew.alloc | apply Grew.drew | apply Grew.drewN)), HRL.out, by have := HN.out; omega⟩
  · exact ⟨rfl, grew_heap (by repeat (first | with_reducible exact Grew.refl _ | apply Grew.more | apply Grew.alloc | apply Grew.drew | apply Grew.drewN)) HB8.out, hlo⟩
end Go.Proofs.YtmdmbimfdpngaaaGreatDoor
