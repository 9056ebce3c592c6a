import Derived.Test.YtlgbipfpnfphjaaGreatDoorGb21
import Derived.Test.YtlgbipfpnfphjaaGreatDoorGb15
import Derived.Test.YtlgbipfpnfphjaaGreatDoorGb25
import Derived.Test.YtlgbipfpnfphjaaGreatDoorGb13
/-! pack.putNode, whatever the node. -/
namespace Go.Proofs.YtlgbipfpnfphjaaGreatDoor
set_option linter.unusedSimpArgs false
set_option linter.unusedVariables false
open Go.RowKit Ga
set_option maxRecDepth 100000

def PutSomeN (w0 W : World) (B : Nat) (ys : List UInt8) (n : Nat) (e : Ending) (W' : World) : Prop := e = .returned (.tuple #[]) ∧ Grew w0 W' ∧ KeptW w0.heap.size B W W' ∧ ∃ vb' zs, zs.length ≤ n ∧ WriterAt w0.heap.size B W' vb' (ys ++ zs)
theorem writerNum_freshS (w0 W : World) (B : Nat) (vb : Value) (bs : List UInt8) (l : List Int) (c : List Value) (b n cap : Nat) (hw : WriterAt w0.heap.size B W vb bs) (hg : Grew w0 W) (hc : c = l.map (Value.int .i64)) (hb : b = W.heap.size) (hn : n = l.length) (hlen : bs.length + l.length * 4 ≤ 100000) :
    Calls Tryz.prog 75 #[.pointer (some ⟨B, 0, none⟩), .slice (some ⟨b, 0, none⟩) n cap] (W.alloc (.cells c.toArray 3)) (PutSome w0 W B bs (l.length * 4)) := by
  have hB := (Array.getElem?_eq_some_iff.1 hw.2.1).1
  refine (writerNum_some w0 _ B vb bs _ l (hw.grew ((Grew.refl W).alloc _)) (hg.alloc _) ?_ ?_ hlen).mono fun e W' ⟨x, h1, h2, h3, h4⟩ => ⟨x, h1, h2, (KeptW.ofGrew ((Grew.refl W).alloc _)).trans h3, h4⟩
  · refine RowsAt.fresh hn (by unfold maxLen; omega) encN_len hb ?_
    rw [hc]
    clear hc hlen hn
    induction l with
    | nil => rfl
    | cons x l ih => rw [List.map_cons, List.flatMap_cons, ih]; rfl
  · rintro b2 off ⟨n2, c2, e⟩
    cases e
    subst hb
    exact ⟨.inr ⟨_, _, _, heap_new_at W _ _ rfl, by decide⟩, by omega⟩
set_option maxHeartbeats 8000000 in
theorem putNode_some (w0 W : World) (B : Nat) (vb : Value) (ys : List UInt8) (c : NdC) (n : Gr.Nd) (hw : WriterAt w0.heap.size B W vb ys) (hg : Grew w0 W) (hn : NodeIs W c n) (hsf : Apart w0.heap.size B W c.vf) (hsp : Apart w0.heap.size B W c.vp) (hok : n.frm.length ≤ 100) (hlen : ys.length ≤ 8000) :
    Calls Tryz.prog 76 #[.pointer (some ⟨B, 0, none⟩), .agg #[.int .i64 c.id, .int .i64 c.kind, .slice c.af c.nf c.cf, .slice c.ap c.np c.cp, .int .i64 c.par, .int .i64 c.r0, .int .i64 c.r1, .int .i64 c.r2, .int .i64 c.r3, .int .i64 c.r4, .int .i64 c.r5, .int .i64 c.r6, .int .i64 c.r7]] W (PutSomeN w0 W B ys 1000) := by
  obtain ⟨id, kind, af, cf, ap, cp, par, r0, r1, r2, r3, r4, r5, r6, r7, rfl⟩ := hn.lit
  have hr8 := hn.route
  simp only at hr8
  have HW := Lib.hid hw
  have HG := Lib.hid hg
  have HN := Lib.hid hn
  have HSF := Lib.hid hsf
  have HSP := Lib.hid hsp
  have HOK := Lib.hid hok
  have HR8 := Lib.hid hr8
  have hBlt := (Array.getElem?_eq_some_iff.1 hw.2.1).1
  have hneB : W.heap.size ≠ B := by omega
  clear hw hg hn hsf hsp hok hr8
  have hbx0 : (W.alloc (.cells #[.int .i64 id, .int .i64 kind, .slice af n.frm.length cf, .slice ap n.prog.length cp, .int .i64 par, .int .i64 r0, .int .i64 r1, .int .i64 r2, .int .i64 r3, .int .i64 r4, .int .i64 r5, .int .i64 r6, .int .i64 r7] 49)).heap[W.heap.size]? = some (.cells #[.int .i64 id, .int .i64 kind, .slice af n.frm.length cf, .slice ap n.prog.length cp, .int .i64 par, .int .i64 r0, .int .i64 r1, .int .i64 r2, .int .i64 r3, .int .i64 r4, .int .i64 r5, .int .i64 r6, .int .i64 r7] 49) := heap_new_at W _ _ rfl
  have HBX0 := Lib.hid hbx0
  clear hbx0
  show Calls Tryz.prog 76 #[.pointer (some ⟨B, 0, none⟩), .agg #[.int .i64 id, .int .i64 kind, .slice af n.frm.length cf, .slice ap n.prog.length cp, .int .i64 par, .int .i64 r0, .int .i64 r1, .int .i64 r2, .int .i64 r3, .int .i64 r4, .int .i64 r5, .int .i64 r6, .int .i64 r7]] W _
  go_enter Tryz.func76, Tryz.ntmps76
  go_wp2_with fail
  refine (writerNum_freshS w0 (W.alloc (.cells #[.int .i64 id, .int .i64 kind, .slice af n.frm.length cf, .slice ap n.prog.length cp, .int .i64 par, .int .i64 r0, .int .i64 r1, .int .i64 r2, .int .i64 r3, .int .i64 r4, .int .i64 r5, .int .i64 r6, .int .i64 r7] 49)) B vb ys [id, kind, n.frm.length] [.int .i64 id, .int .i64 kind, .int .i64 n.frm.length] _ _ _ (HW.out.grew (by repeat (first | with_reducible exact Grew.refl _ | apply Grew.more | apply Grew.alloc | apply Grew.drew | apply Grew.drewN))) (HG.out.alloc _) rfl (by simp [go_sem]) rfl (by simp only [List.length_append, List.length_cons, List.length_nil] at *; omega)).mono ?_
  rintro e W1 ⟨xx1, rfl, hg1, hk1, vb1, zs1, hz1, hw1⟩
  have HW1 := Lib.hid hw1
  have HG1 := Lib.hid hg1
  have HK1 := Lib.hid ((KeptW.ofGrew ((Grew.refl W).alloc _)).trans hk1)
  have hbx1 := hk1.cells HBX0.out hneB (by decide)
  have HBX1 := Lib.hid hbx1
  clear hw1 hg1 hk1
  have x2 := cell_of (o := 2) HBX1.out
  simp at x2
  have px2 := Pre.mk (heap_lt HBX1.out)
  have hfl := HOK.out
  go_wp2_with fail
  refine (writerNum_some w0 W1 B vb1 _ _ n.frm HW1.out HG1.out (HSF.out.kept HK1.out HN.out.f (ints_lt HN.out.f)) (HSF.out.to HK1.out) (by simp only [List.length_append, List.length_cons, List.length_nil] at *; omega)).mono ?_
  rintro e W2 ⟨xx2, rfl, hg2, hk2, vb2, zs2, hz2, hw2⟩
  have HW2 := Lib.hid hw2
  have HG2 := Lib.hid hg2
  have HK2 := Lib.hid (HK1.out.trans hk2)
  have hbx2 := hk2.cells HBX1.out hneB (by decide)
  have HBX2 := Lib.hid hbx2
  clear hw2 hg2 hk2 hbx2 x2 px2
  have x3 := cell_of (o := 3) HBX2.out
  simp at x3
  have px3 := Pre.mk (heap_lt HBX2.out)
  go_wp2_with fail
  refine (codePut_some w0 W2 B vb2 _ _ n.prog HW2.out HG2.out (HSP.out.kept HK2.out HN.out.p (vals_lt HN.out.p)) (HSP.out.to HK2.out) (by simp only [List.length_append, List.length_cons, List.length_nil] at *; omega)).mono ?_
  rintro e W3 ⟨xx3, rfl, hg3, hk3, vb3, zs3, hz3, hw3⟩
  have HW3 := Lib.hid hw3
  have HG3 := Lib.hid hg3
  have HK3 := Lib.hid (HK2.out.trans hk3)
  have hbx3 := hk3.cells HBX2.out hneB (by decide)
  have HBX3 := Lib.hid hbx3
  clear hw3 hg3 hk3 hbx3 x3 px3
  have x4 := cell_of (o := 4) HBX3.out
  simp at x4
  have px4 := Pre.mk (heap_lt HBX3.out)
  go_wp2_with fail
  refine (writerNum_freshS w0 W3 B vb3 _ [par] [.int .i64 par] _ _ _ HW3.out HG3.out rfl (by simp [go_sem]) rfl (by simp only [List.length_append, List.length_cons, List.length_nil] at *; omega)).mono ?_
  rintro e W4 ⟨xx4, rfl, hg4, hk4, vb4, zs4, hz4, hw4⟩
  have HW4 := Lib.hid hw4
  have HG4 := Lib.hid hg4
  have HK4 := Lib.hid (HK3.out.trans hk4)
  have hbx4 := hk4.cells HBX3.out hneB (by decide)
  have HBX4 := Lib.hid hbx4
  clear hw4 hg4 hk4 hbx4 x4 px4
  have px5 := Pre.mk (heap_lt HBX4.out)
  go_wp2_with fail
  refine (writerNum_some w0 W4 B vb4 _ _ [r0, r1, r2, r3, r4, r5, r6, r7] HW4.out HG4.out (route_box HBX4.out) ?_ (by simp only [List.length_append, List.length_cons, List.length_nil] at *; omega)).mono ?_
  · rintro b off ⟨m, k, e⟩
    cases e
    exact ⟨.inr ⟨_, _, _, HBX4.out, by decide⟩, hneB⟩
  rintro e W5 ⟨xx5, rfl, hg5, hk5, vb5, zs5, hz5, hw5⟩
  have HW5 := Lib.hid hw5
  have HG5 := Lib.hid hg5
  have HK5 := Lib.hid (HK4.out.trans hk5)
  clear hw5 hg5 hk5
  go_wp2
  go_end0
  refine ⟨rfl, HG5.out, HK5.out, vb5, zs1 ++ (zs2 ++ (zs3 ++ (zs4 ++ zs5))), ?_, ?_⟩
  · simp only [List.length_append, List.length_cons, List.length_nil] at *
    omega
  · have := HW5.out
    simp only [List.append_assoc] at this
    exact this
end Go.Proofs.YtlgbipfpnfphjaaGreatDoor

/-! forebayref13.Plan, cut: the frame; kind; what is told of a step. -/
namespace Go.Proofs.YtlgbipfpnfphjaaGreatDoor
set_option linter.unusedSimpArgs false
set_option linter.unusedVariables false
open Go.RowKit Ga
set_option maxRecDepth 100000

def framePl (u : Nat → Value) : Act := { tmps := #[u 0, u 1, u 2, u 3, u 4, u 5, u 6, u 7, u 8, u 9, u 10, u 11, u 12, u 13, u 14, u 15, u 16, u 17, u 18, u 19, u 20, u 21, u 22, u 23, u 24, u 25, u 26, u 27, u 28, u 29, u 30, u 31, u 32, u 33, u 34, u 35, u 36, u 37, u 38, u 39, u 40, u 41, u 42, u 43, u 44, u 45, u 46, u 47, u 48, u 49, u 50, u 51, u 52, u 53, u 54, u 55, u 56, u 57, u 58, u 59, u 60, u 61, u 62, u 63, u 64, u 65, u 66, u 67, u 68, u 69, u 70, u 71, u 72, u 73, u 74, u 75, u 76, u 77, u 78, u 79, u 80, u 81, u 82, u 83, u 84, u 85, u 86, u 87, u 88, u 89, u 90, u 91, u 92, u 93, u 94, u 95, u 96, u 97, u 98, u 99, u 100, u 101, u 102, u 103, u 104, u 105, u 106, u 107, u 108, u 109, u 110, u 111, u 112, u 113, u 114, u 115, u 116, u 117, u 118, u 119, u 120, u 121, u 122, u 123, u 124, u 125, u 126, u 127, u 128, u 129, u 130, u 131, u 132, u 133, u 134, u 135, u 136, u 137, u 138, u 139, u 140, u 141, u 142], defers := [] }
noncomputable def tail17 (n : Nat) : Code := (Tryz.f13.body.bind (from9 n)).getD .skip
structure Pre17 (w : World) (v : Value) (k : Nat) (T : List UInt8) (a : Act) (W : World) : Prop where
  fr : a = framePl (fun i => a.tmps.getD i undef)
  t0 : a.tmps.getD 0 undef = v
  t4 : a.tmps.getD 4 undef = str T
  t5 : a.tmps.getD 5 undef = .int .i64 k
  g : Grew w W
structure At17 (w : World) (v : Value) (k : Nat) (T : List UInt8) (tx ty : Nat) (d : StC) (a : Act) (W : World) : Prop where
  fr : a = framePl (fun i => a.tmps.getD i undef)
  t0 : a.tmps.getD 0 undef = v
  t4 : a.tmps.getD 4 undef = str T
  t5 : a.tmps.getD 5 undef = .int .i64 k
  t6 : a.tmps.getD 6 undef = .pointer (some ⟨tx, 0, none⟩)
  t7 : a.tmps.getD 7 undef = .pointer (some ⟨ty, 0, none⟩)
  g : Grew w W
  bx : W.heap[tx]? = some (.cells (encSt d).toArray 51)
  bY : W.heap[ty]? = some (.cells (encNd d.c).toArray 49)
structure Ret17 (w : World) (a : Act) (W : World) : Prop where
  t2 : a.tmps.getD 2 undef = .string ⟨#[]⟩
  t3 : a.tmps.getD 3 undef = .bool false
  d : a.defers = []
  g : Grew w W
set_option maxHeartbeats 8000000 in
theorem pl_p1 (n : Nat) (w W : World) (b off cap k : Nat) (T : List UInt8) (kind : Int) (Q : Exit → Act → World → Prop) (a0 : Act)
    (h0 : Pre17 w (.slice (some ⟨b, off, none⟩) n cap) k T a0 W) (hk : k < n) (hm : n ≤ 9223372036854775807) (hb : Pre b W)
    (c0 : W.cell? ⟨b, off + k * 15, none⟩ = some (.int .i64 kind))
    (hbad : ¬ (1 ≤ kind ∧ kind ≤ 5) → ∀ a' w', Ret17 w a' w' → Q .ret a' w')
    (hnext : 1 ≤ kind ∧ kind ≤ 5 → ∀ a', Pre17 w (.slice (some ⟨b, off, none⟩) n cap) k T a' W → Code.wp Tryz.prog (tail17 9) Q a' W) :
    Code.wp Tryz.prog (tail17 7) Q a0 W := by
  obtain ⟨hfr, h00, h04, h05, hg⟩ := h0
  obtain ⟨u, hu⟩ : ∃ u : Nat → Value, u = fun i => a0.tmps.getD i undef := ⟨_, rfl⟩
  rw [← hu] at hfr
  have u0 : u 0 = _ := (congrFun hu 0).trans h00
  have u4 : u 4 = _ := (congrFun hu 4).trans h04
  have u5 : u 5 = _ := (congrFun hu 5).trans h05
  clear hu h00 h04 h05
  subst hfr
  conv => arg 2; whnf
  unfold framePl
  rw [u0, u4, u5]
  clear u0 u4 u5
  have HG := Lib.hid hg
  have HBAD := Lib.hid hbad
  have HNX := Lib.hid hnext
  clear hg hbad hnext
  by_cases k1 : kind < 1
  · go_wp2
    exact HBAD.out (by omega) _ _ ⟨rfl, rfl, rfl, HG.out⟩
  by_cases k5 : 5 < kind
  · go_wp2
    exact HBAD.out (by omega) _ _ ⟨rfl, rfl, rfl, HG.out⟩
  go_upto_if 40 with fail
  iterate 4 go_step
  refine HNX.out (by omega) _ ?_
  exact ⟨rfl, rfl, rfl, rfl, HG.out⟩
def OkP (z : Gr.Stp) : Prop := 0 ≤ z.nd.id ∧ z.nd.id ≤ 7 ∧ 0 ≤ z.nd.kind ∧ z.nd.kind ≤ 2 ∧ z.nd.frm.length ≤ 3 ∧ 0 ≤ z.nd.par ∧ z.nd.par ≤ 3 ∧ Co.fitsI z.nd.prog = true
set_option maxHeartbeats 16000000 in
theorem pl_p2 (n : Nat) (w W : World) (b off cap k : Nat) (T : List UInt8) (c : StC) (y z : Gr.Stp) (Q : Exit → Act → World → Prop) (a0 : Act)
    (h0 : Pre17 w (.slice (some ⟨b, off, none⟩) n cap) k T a0 W) (hk : k < n) (hm : n ≤ 9223372036854775807) (hn : StepIs W c y) (hz : z = Gr.cleanS y) (hkd : 1 ≤ c.kind ∧ c.kind ≤ 5) (hb : Pre b W)
    (c0 : W.cell? ⟨b, off + k * 15, none⟩ = some (.int .i64 c.kind)) (c1 : W.cell? ⟨b, off + k * 15 + 1, none⟩ = some (.int .i64 c.c.id)) (c2 : W.cell? ⟨b, off + k * 15 + 2, none⟩ = some (.int .i64 c.c.kind)) (c3 : W.cell? ⟨b, off + k * 15 + 3, none⟩ = some (.slice c.c.af c.c.nf c.c.cf)) (c4 : W.cell? ⟨b, off + k * 15 + 4, none⟩ = some (.slice c.c.ap c.c.np c.c.cp)) (c5 : W.cell? ⟨b, off + k * 15 + 5, none⟩ = some (.int .i64 c.c.par)) (c6 : W.cell? ⟨b, off + k * 15 + 6, none⟩ = some (.int .i64 c.c.r0)) (c7 : W.cell? ⟨b, off + k * 15 + 7, none⟩ = some (.int .i64 c.c.r1)) (c8 : W.cell? ⟨b, off + k * 15 + 8, none⟩ = some (.int .i64 c.c.r2)) (c9 : W.cell? ⟨b, off + k * 15 + 9, none⟩ = some (.int .i64 c.c.r3)) (c10 : W.cell? ⟨b, off + k * 15 + 10, none⟩ = some (.int .i64 c.c.r4)) (c11 : W.cell? ⟨b, off + k * 15 + 11, none⟩ = some (.int .i64 c.c.r5)) (c12 : W.cell? ⟨b, off + k * 15 + 12, none⟩ = some (.int .i64 c.c.r6)) (c13 : W.cell? ⟨b, off + k * 15 + 13, none⟩ = some (.int .i64 c.c.r7)) (c14 : W.cell? ⟨b, off + k * 15 + 14, none⟩ = some (.bool c.reset))
    (hbad : ¬ OkP z → ∀ a' w', Ret17 w a' w' → Q .ret a' w')
    (hnext : OkP z → ∀ a' W' tx ty d, Grew W W' → StepIs W' d z → At17 w (.slice (some ⟨b, off, none⟩) n cap) k T tx ty d a' W' → Code.wp Tryz.prog (tail17 13) Q a' W') :
    Code.wp Tryz.prog (tail17 9) Q a0 W := by
  obtain ⟨hfr, h00, h04, h05, hg⟩ := h0
  obtain ⟨u, hu⟩ : ∃ u : Nat → Value, u = fun i => a0.tmps.getD i undef := ⟨_, rfl⟩
  rw [← hu] at hfr
  have u0 : u 0 = _ := (congrFun hu 0).trans h00
  have u4 : u 4 = _ := (congrFun hu 4).trans h04
  have u5 : u 5 = _ := (congrFun hu 5).trans h05
  clear hu h00 h04 h05
  subst hfr
  conv => arg 2; whnf
  unfold framePl
  rw [u0, u4, u5]
  clear u0 u4 u5
  have HG := Lib.hid hg
  have HBAD := Lib.hid hbad
  have HNX := Lib.hid hnext
  obtain ⟨d, hd⟩ : ∃ d, d = cleanC c := ⟨_, rfl⟩
  have hcl := fun W' => clean13_any c W' hkd
  have hsd := hn.clean
  rw [← hd] at hcl hsd
  rw [← hz] at hsd
  clear hg hbad hnext hd hz hkd
  obtain ⟨kind, reset, cid, ckd, caf, ccf, cap2, ccp, cpar, q0, q1, q2, q3, q4, q5, q6, q7, rfl⟩ := hn.lit
  simp only at c0 c1 c2 c3 c4 c5 c6 c7 c8 c9 c10 c11 c12 c13 c14 hcl
  obtain ⟨dk, dr, id, kd, af, cf, ap, cp, par, r0, r1, r2, r3, r4, r5, r6, r7, rfl⟩ := hsd.lit
  simp only at hcl
  have HCL := Lib.hid hcl
  have HSD := Lib.hid hsd
  have eid := hsd.nd.id
  have ekd := hsd.nd.kind
  have epar := hsd.nd.par
  simp only at eid ekd epar
  have EID := Lib.hid eid
  have EKD := Lib.hid ekd
  have EPAR := Lib.hid epar
  have HFIT := Lib.hid fun W' (g : Grew W W') => refFits_any _ z.nd.prog W' (hsd.nd.p.grew g)
  simp only at HFIT
  generalize efl : z.nd.frm.length = fl at *
  have EFL := Lib.hid efl
  have hpm : z.nd.prog.length ≤ 9223372036854775807 := by
    obtain ⟨_, _, _, h, _⟩ := hsd.nd.p.open2
    omega
  generalize z.nd.prog.length = pl at *
  clear hcl hsd hn eid ekd epar efl
  go_upto_region 11 with (go_at_call 32; refine (HCL.out _).mono ?_; rintro e w1 ⟨rfl, R1, n1, rfl⟩)
  by_cases i0 : id < 0
  · go_wp2
    exact HBAD.out (fun h => by have := h.1; rw [EID.out] at this; omega) _ _ ⟨rfl, rfl, rfl, HG.out.trans (by repeat (first | with_reducible exact Grew.refl _ | apply Grew.more | apply Grew.alloc | apply Grew.drew | apply Grew.drewN))⟩
  by_cases i1 : 7 < id
  · go_wp2
    exact HBAD.out (fun h => by have := h.2.1; rw [EID.out] at this; omega) _ _ ⟨rfl, rfl, rfl, HG.out.trans (by repeat (first | with_reducible exact Grew.refl _ | apply Grew.more | apply Grew.alloc | apply Grew.drew | apply Grew.drewN))⟩
  by_cases i2 : kd < 0
  · go_wp2
    exact HBAD.out (fun h => by have := h.2.2.1; rw [EKD.out] at this; omega) _ _ ⟨rfl, rfl, rfl, HG.out.trans (by repeat (first | with_reducible exact Grew.refl _ | apply Grew.more | apply Grew.alloc | apply Grew.drew | apply Grew.drewN))⟩
  by_cases i3 : 2 < kd
  · go_wp2
    exact HBAD.out (fun h => by have := h.2.2.2.1; rw [EKD.out] at this; omega) _ _ ⟨rfl, rfl, rfl, HG.out.trans (by repeat (first | with_reducible exact Grew.refl _ | apply Grew.more | apply Grew.alloc | apply Grew.drew | apply Grew.drewN))⟩
  by_cases i4 : (3 : Int) < (fl : Int)
  · go_wp2
    exact HBAD.out (fun h => by have := h.2.2.2.2.1; rw [EFL.out] at this; omega) _ _ ⟨rfl, rfl, rfl, HG.out.trans (by repeat (first | with_reducible exact Grew.refl _ | apply Grew.more | apply Grew.alloc | apply Grew.drew | apply Grew.drewN))⟩
  by_cases i5 : par < 0
  · go_wp2
    exact HBAD.out (fun h => by have := h.2.2.2.2.2.1; rw [EPAR.out] at this; omega) _ _ ⟨rfl, rfl, rfl, HG.out.trans (by repeat (first | with_reducible exact Grew.refl _ | apply Grew.more | apply Grew.alloc | apply Grew.drew | apply Grew.drewN))⟩
  by_cases i6 : 3 < par
  · go_wp2
    exact HBAD.out (fun h => by have := h.2.2.2.2.2.2.1; rw [EPAR.out] at this; omega) _ _ ⟨rfl, rfl, rfl, HG.out.trans (by repeat (first | with_reducible exact Grew.refl _ | apply Grew.more | apply Grew.alloc | apply Grew.drew | apply Grew.drewN))⟩
  cases hff : Co.fitsI z.nd.prog
  · have HFF := Lib.hid hff
    clear hff
    go_wp2_with (go_at_call 33; refine (HFIT.out _ (by repeat (first | with_reducible exact Grew.refl _ | apply Grew.more | apply Grew.alloc | apply Grew.drew | apply Grew.drewN))).mono ?_; rintro e w1 ⟨rfl, R2, n2, rfl⟩; rw [HFF.out])
    exact HBAD.out (fun h => by have := h.2.2.2.2.2.2.2; rw [HFF.out] at this; cases this) _ _ ⟨rfl, rfl, rfl, HG.out.trans (by repeat (first | with_reducible exact Grew.refl _ | apply Grew.more | apply Grew.alloc | apply Grew.drew | apply Grew.drewN))⟩
  · have HFF := Lib.hid hff
    have hok : OkP z := ⟨by rw [EID.out]; omega, by rw [EID.out]; omega, by rw [EKD.out]; omega, by rw [EKD.out]; omega, by rw [EFL.out]; omega, by rw [EPAR.out]; omega, by rw [EPAR.out]; omega, hff⟩
    have HOK := Lib.hid hok
    clear hff hok
    go_upto_if 87 with (go_at_call 33; refine (HFIT.out _ (by repeat (first | with_reducible exact Grew.refl _ | apply Grew.more | apply Grew.alloc | apply Grew.drew | apply Grew.drewN))).mono ?_; rintro e w1 ⟨rfl, R2, n2, rfl⟩; rw [HFF.out])
    iterate 4 go_step
    refine HNX.out HOK.out _ _ (W.heap.size + R1.size) (W.heap.size + R1.size + 1) _ ?_ (HSD.out.grew ?_) ?_
    · repeat (first | with_reducible exact Grew.refl _ | apply Grew.more | apply Grew.alloc | apply Grew.drew | apply Grew.drewN)
    · repeat (first | with_reducible exact Grew.refl _ | apply Grew.more | apply Grew.alloc | apply Grew.drew | apply Grew.drewN)
    · exact ⟨rfl, rfl, rfl, rfl, rfl, rfl, HG.out.trans (by repeat (first | with_reducible exact Grew.refl _ | apply Grew.more | apply Grew.alloc | apply Grew.drew | apply Grew.drewN)), grew_heap ((Grew.refl _).more _ _) (heap_alloc' (heap_new_at _ _ _ (by simp [World.more_size])) _), grew_heap ((Grew.refl _).more _ _) (heap_new_at _ _ _ (by simp [World.more_size, World.size_alloc]))⟩
end Go.Proofs.YtlgbipfpnfphjaaGreatDoor

/-! forebayref13.Plan, cut: From and routes. -/
namespace Go.Proofs.YtlgbipfpnfphjaaGreatDoor
set_option linter.unusedSimpArgs false
set_option linter.unusedVariables false
open Go.RowKit Ga
set_option maxRecDepth 100000

def OkPF (z : Gr.Stp) : Prop := ∀ x ∈ z.nd.frm, 0 ≤ x ∧ x ≤ 7
def OkPR (z : Gr.Stp) : Prop := ∀ x ∈ z.nd.route, 0 ≤ x ∧ x ≤ 2
set_option maxHeartbeats 8000000 in
theorem pl_p3 (n : Nat) (w W : World) (v : Value) (k tx ty : Nat) (T : List UInt8) (d : StC) (z : Gr.Stp) (Q : Exit → Act → World → Prop) (a0 : Act)
    (h0 : At17 w v k T tx ty d a0 W) (hn : StepIs W d z) (hfl : z.nd.frm.length ≤ 3)
    (hbad : ¬ OkPF z → ∀ a' w', Ret17 w a' w' → Q .ret a' w')
    (hnext : OkPF z → ∀ a' W', Grew W W' → At17 w v k T tx ty d a' W' → Code.wp Tryz.prog (tail17 18) Q a' W') :
    Code.wp Tryz.prog (tail17 13) Q a0 W := by
  obtain ⟨hfr, h00, h04, h05, h06, h07, hg, hbx, hby⟩ := h0
  obtain ⟨u, hu⟩ : ∃ u : Nat → Value, u = fun i => a0.tmps.getD i undef := ⟨_, rfl⟩
  rw [← hu] at hfr
  have u0 : u 0 = _ := (congrFun hu 0).trans h00
  have u4 : u 4 = _ := (congrFun hu 4).trans h04
  have u5 : u 5 = _ := (congrFun hu 5).trans h05
  have u6 : u 6 = _ := (congrFun hu 6).trans h06
  have u7 : u 7 = _ := (congrFun hu 7).trans h07
  clear hu h00 h04 h05 h06 h07
  subst hfr
  conv => arg 2; whnf
  unfold framePl
  rw [u0, u4, u5, u6, u7]
  clear u0 u4 u5 u6 u7
  obtain ⟨dk, dr, id, kd, af, cf, ap, cp, par, r0, r1, r2, r3, r4, r5, r6, r7, rfl⟩ := hn.lit
  have HF := Lib.hid hn.nd.f
  have HG := Lib.hid hg
  have HBX := Lib.hid hbx
  have HBY := Lib.hid hby
  have HBAD := Lib.hid hbad
  have HNX := Lib.hid hnext
  have c2 := cell_of (o := 2) hby
  have px := Pre.mk (heap_lt hby)
  simp [encNd] at c2
  simp only at HF
  obtain ⟨fl, efl⟩ : ∃ fl, fl = z.nd.frm := ⟨_, rfl⟩
  have EFL := Lib.hid efl
  rw [← efl] at c2 hfl HF
  clear hg hbx hby hbad hnext hn efl
  go_wp2
  go_loopg [8] fl.length (fun gg s8 wr => ∃ g : Nat, g ≤ fl.length ∧ fl.length - g ≤ gg ∧ s8 = .int .i64 g ∧ Hid (Grew W wr) ∧ Hid (∀ j (hj : j < fl.length), j < g → 0 ≤ fl[j] ∧ fl[j] ≤ 7))
  case atStart => exact ⟨0, by omega, by omega, rfl, Lib.hid (by repeat (first | with_reducible exact Grew.refl _ | apply Grew.more | apply Grew.alloc | apply Grew.drew | apply Grew.drewN)), Lib.hid fun j _ h => by omega⟩
  case round =>
    obtain ⟨g, hg8, hgg, rfl, HGR, HNO⟩ := hrel
    have hby2 := grew_heap HGR.out HBY.out
    have d2 := cell_of (o := 2) hby2
    have px2 := Pre.mk (heap_lt hby2)
    simp [encNd] at d2
    rw [← EFL.out] at d2
    have HBX2 := Lib.hid (grew_heap HGR.out HBX.out)
    have HBY2 := Lib.hid hby2
    clear hby2 c2
    by_cases hlt : g < fl.length
    · have hrows : IntsAt wr (.slice af fl.length cf) fl := HF.out.grew HGR.out
      obtain ⟨af', cf', e, -, hx⟩ := ints_open hrows
      cases e
      obtain ⟨bf, offf, rfl, hpf, cx⟩ := hx g hlt
      have hmem : fl[g] ∈ z.nd.frm := by rw [← EFL.out]; exact List.getElem_mem hlt
      have HMEM := Lib.hid hmem
      clear hx hrows hmem
      generalize hxx : fl[g] = x at *
      have HXX := Lib.hid hxx
      clear hxx
      by_cases x0 : x < 0
      · go_wp2
        exact HBAD.out (fun h => by have := (h _ HMEM.out).1; omega) _ _ ⟨rfl, rfl, rfl, HG.out.trans (HGR.out.trans (by repeat (first | with_reducible exact Grew.refl _ | apply Grew.more | apply Grew.alloc | apply Grew.drew | apply Grew.drewN)))⟩
      by_cases x7 : 7 < x
      · go_wp2
        exact HBAD.out (fun h => by have := (h _ HMEM.out).2; omega) _ _ ⟨rfl, rfl, rfl, HG.out.trans (HGR.out.trans (by repeat (first | with_reducible exact Grew.refl _ | apply Grew.more | apply Grew.alloc | apply Grew.drew | apply Grew.drewN)))⟩
      go_wp2
      go_roundg (fl.length - (g + 1))
      case measure => omega
      case rel => exact ⟨g + 1, by omega, by omega, by go_num, Lib.hid (HGR.out.trans (by repeat (first | with_reducible exact Grew.refl _ | apply Grew.more | apply Grew.alloc | apply Grew.drew | apply Grew.drewN))), Lib.hid fun j hj h => by
        rcases Nat.lt_or_ge j g with h1 | h1
        · exact HNO.out j hj h1
        · obtain rfl : j = g := by omega
          rw [HXX.out]
          exact ⟨by omega, by omega⟩⟩
    · obtain rfl : g = fl.length := by omega
      have hok : OkPF z := fun x hx => by
        rw [← EFL.out] at hx
        obtain ⟨j, hj, rfl⟩ := List.mem_iff_getElem.1 hx
        exact HNO.out j hj hj
      have HOK := Lib.hid hok
      clear hok
      go_upto_if 92 with fail
      iterate 4 go_step
      refine HNX.out HOK.out _ _ HGR.out ?_
      exact ⟨rfl, rfl, rfl, rfl, rfl, rfl, HG.out.trans HGR.out, HBX2.out, HBY2.out⟩
set_option maxHeartbeats 8000000 in
theorem pl_p4 (n : Nat) (w W : World) (v : Value) (k tx ty : Nat) (T : List UInt8) (d : StC) (z : Gr.Stp) (Q : Exit → Act → World → Prop) (a0 : Act)
    (h0 : At17 w v k T tx ty d a0 W) (hn : StepIs W d z)
    (hbad : ¬ OkPR z → ∀ a' w', Ret17 w a' w' → Q .ret a' w')
    (hnext : OkPR z → ∀ a' W', Grew W W' → At17 w v k T tx ty d a' W' → Code.wp Tryz.prog (tail17 23) Q a' W') :
    Code.wp Tryz.prog (tail17 18) Q a0 W := by
  obtain ⟨hfr, h00, h04, h05, h06, h07, hg, hbx, hby⟩ := h0
  obtain ⟨u, hu⟩ : ∃ u : Nat → Value, u = fun i => a0.tmps.getD i undef := ⟨_, rfl⟩
  rw [← hu] at hfr
  have u0 : u 0 = _ := (congrFun hu 0).trans h00
  have u4 : u 4 = _ := (congrFun hu 4).trans h04
  have u5 : u 5 = _ := (congrFun hu 5).trans h05
  have u6 : u 6 = _ := (congrFun hu 6).trans h06
  have u7 : u 7 = _ := (congrFun hu 7).trans h07
  clear hu h00 h04 h05 h06 h07
  subst hfr
  conv => arg 2; whnf
  unfold framePl
  rw [u0, u4, u5, u6, u7]
  clear u0 u4 u5 u6 u7
  have HRT := Lib.hid hn.nd.route
  have HG := Lib.hid hg
  have HBX := Lib.hid hbx
  have HBY := Lib.hid hby
  have HBAD := Lib.hid hbad
  have HNX := Lib.hid hnext
  clear hg hbx hby hbad hnext hn
  go_wp2
  go_loopg [9] 8 (fun gg s9 wr => ∃ g : Nat, g ≤ 8 ∧ 8 - g ≤ gg ∧ s9 = .int .i64 g ∧ Hid (Grew W wr) ∧ Hid (∀ j (hj : j < z.nd.route.length), j < g → 0 ≤ z.nd.route[j] ∧ z.nd.route[j] ≤ 2))
  case atStart => exact ⟨0, by omega, by omega, rfl, Lib.hid (by repeat (first | with_reducible exact Grew.refl _ | apply Grew.more | apply Grew.alloc | apply Grew.drew | apply Grew.drewN)), Lib.hid fun j _ h => by omega⟩
  case round =>
    obtain ⟨g, hg8, hgg, rfl, HGR, HNO⟩ := hrel
    have hby2 := grew_heap HGR.out HBY.out
    have px2 := Pre.mk (heap_lt hby2)
    have HBX2 := Lib.hid (grew_heap HGR.out HBX.out)
    have HBY2 := Lib.hid hby2
    by_cases hlt : g < 8
    · have dg := cell_of (o := 5 + g) hby2
      rw [enc_route d.c g hlt] at dg
      have hrl : g < z.nd.route.length := by rw [HRT.out]; exact hlt
      have hre : z.nd.route[g] = ([d.c.r0, d.c.r1, d.c.r2, d.c.r3, d.c.r4, d.c.r5, d.c.r6, d.c.r7] : List Int)[g] := by
        have := HRT.out
        simp only [this]
      have hmem : z.nd.route[g] ∈ z.nd.route := List.getElem_mem hrl
      have HMEM := Lib.hid hmem
      have HRE := Lib.hid hre
      clear hre hby2 hmem
      generalize ([d.c.r0, d.c.r1, d.c.r2, d.c.r3, d.c.r4, d.c.r5, d.c.r6, d.c.r7] : List Int)[g] = x at *
      by_cases x0 : x < 0
      · go_wp2
        refine HBAD.out (fun h => ?_) _ _ ⟨rfl, rfl, rfl, HG.out.trans (HGR.out.trans (by repeat (first | with_reducible exact Grew.refl _ | apply Grew.more | apply Grew.alloc | apply Grew.drew | apply Grew.drewN)))⟩
        have := (h _ HMEM.out).1
        rw [HRE.out] at this
        omega
      by_cases xp : 2 < x
      · go_wp2
        refine HBAD.out (fun h => ?_) _ _ ⟨rfl, rfl, rfl, HG.out.trans (HGR.out.trans (by repeat (first | with_reducible exact Grew.refl _ | apply Grew.more | apply Grew.alloc | apply Grew.drew | apply Grew.drewN)))⟩
        have := (h _ HMEM.out).2
        rw [HRE.out] at this
        omega
      go_wp2
      go_roundg (8 - (g + 1))
      case measure => omega
      case rel => exact ⟨g + 1, by omega, by omega, by go_num, Lib.hid (HGR.out.trans (by repeat (first | with_reducible exact Grew.refl _ | apply Grew.more | apply Grew.alloc | apply Grew.drew | apply Grew.drewN))), Lib.hid fun j hj h => by
        rcases Nat.lt_or_ge j g with h1 | h1
        · exact HNO.out j hj h1
        · obtain rfl : j = g := by omega
          rw [HRE.out]
          exact ⟨by omega, by omega⟩⟩
    · obtain rfl : g = 8 := by omega
      have hok : OkPR z := fun x hx => by
        obtain ⟨j, hj, rfl⟩ := List.mem_iff_getElem.1 hx
        exact HNO.out j hj (by rw [HRT.out] at hj; exact hj)
      have HOK := Lib.hid hok
      clear hok hby2
      go_upto_if 110 with fail
      iterate 4 go_step
      refine HNX.out HOK.out _ _ HGR.out ?_
      exact ⟨rfl, rfl, rfl, rfl, rfl, rfl, HG.out.trans HGR.out, HBX2.out, HBY2.out⟩
end Go.Proofs.YtlgbipfpnfphjaaGreatDoor
