import Derived.Test.YtangapokicnfgaaGreatMr33
import Derived.Test.YtangapokicnfgaaGreatMr19
import Derived.Test.YtangapokicnfgaaGreatMr24
import Derived.Test.YtangapokicnfgaaGreatMr28
import Derived.Test.YtangapokicnfgaaGreatMr26
/-! pack.putPlan. -/
namespace Go.Proofs.YtangapokicnfgaaGreat
set_option linter.unusedSimpArgs false
set_option linter.unusedVariables false
open Go.RowKit Ga
set_option maxRecDepth 100000

/-- some bytes, and if P, just zs -/
def PutOr (w0 W : World) (B : Nat) (ys : List UInt8) (P : Prop) (zs : List UInt8) (n : Nat) (e : Ending) (W' : World) : Prop := e = .returned (.tuple #[]) ∧ Grew w0 W' ∧ KeptW w0.heap.size B W W' ∧ ∃ vb' xs, xs.length ≤ n ∧ (P → xs = zs) ∧ WriterAt w0.heap.size B W' vb' (ys ++ xs)
theorem putNode_or (w0 W : World) (B : Nat) (vb : Value) (ys : List UInt8) (c : NdC) (n : Gr.Nd) (hw : WriterAt w0.heap.size B W vb ys) (hg : Grew w0 W) (hn : NodeIs W c n) (hsf : Apart w0.heap.size B W c.vf) (hsp : Apart w0.heap.size B W c.vp) (hok : n.frm.length ≤ 100) (hlen : ys.length ≤ 8000) :
    Calls Tryz.prog 78 #[.pointer (some ⟨B, 0, none⟩), .agg #[.int .i64 c.id, .int .i64 c.kind, .slice c.af c.nf c.cf, .slice c.ap c.np c.cp, .int .i64 c.par, .int .i64 c.r0, .int .i64 c.r1, .int .i64 c.r2, .int .i64 c.r3, .int .i64 c.r4, .int .i64 c.r5, .int .i64 c.r6, .int .i64 c.r7]] W (PutOr w0 W B ys (Gr.OkB fitsP 0 n) (Gr.putNd putI n) 1000) := by
  by_cases h : Gr.OkB fitsP 0 n
  · refine (putNode_any w0 W B vb ys c n 0 (by decide) hw hg hn hsf hsp h hlen).mono ?_
    rintro e W' ⟨rfl, h1, h2, vb', h3⟩
    exact ⟨rfl, h1, h2, vb', _, by have := putNd_len h; omega, fun _ => rfl, h3⟩
  · refine (putNode_some w0 W B vb ys c n hw hg hn hsf hsp hok hlen).mono ?_
    rintro e W' ⟨rfl, h1, h2, vb', zs, h3, h4⟩
    exact ⟨rfl, h1, h2, vb', zs, h3, fun q => absurd q h, h4⟩
theorem bes_two (a b : Int) : Oc.bes [a, b] = Oc.be a ++ Oc.be b := by simp [Oc.bes]
theorem take_snocS {β : Type} (f : Gr.Stp → List β) (l : List Gr.Stp) (k : Nat) (h : k < l.length) : (l.take (k + 1)).flatMap f = (l.take k).flatMap f ++ f l[k] := by
  rw [List.take_succ_eq_append_getElem h, List.flatMap_append]
  simp
/-- what is written of the first k steps -/
def WroteS (p : List Gr.Stp) (k : Nat) (X : List UInt8) : Prop := X.length ≤ k * 1010 ∧ ((∀ s ∈ p.take k, Gr.OkB fitsP 0 (Gr.cleanS s).nd) → X = (p.take k).flatMap (Gr.putSt putI))
theorem WroteS.next {p : List Gr.Stp} {k : Nat} {X xs : List UInt8} {kd rs : Int} (h : WroteS p k X) (hk : k < p.length) (h1 : (Gr.cleanS p[k]).kind = kd) (h2 : (if (Gr.cleanS p[k]).reset then (1:Int) else 0) = rs) (h3 : xs.length ≤ 1000) (h4 : Gr.OkB fitsP 0 (Gr.cleanS p[k]).nd → xs = Gr.putNd putI (Gr.cleanS p[k]).nd) :
    WroteS p (k + 1) (X ++ (Oc.be kd ++ Oc.be rs) ++ xs) := by
  refine ⟨?_, fun hall => ?_⟩
  · have := h.1
    simp only [List.length_append, Oc.be_len]
    omega
  · have htk : p.take (k + 1) = p.take k ++ [p[k]] := List.take_succ_eq_append_getElem hk
    rw [take_snocS _ _ _ hk, h.2 fun s hs => hall s (by rw [htk]; exact List.mem_append_left _ hs), h4 (hall _ (by rw [htk]; exact List.mem_append_right _ (List.mem_singleton.2 rfl)))]
    unfold Gr.putSt
    rw [h1, h2]
    simp only [List.append_assoc]
def PlanOut (p : List Gr.Stp) (w : World) (e : Ending) (w' : World) : Prop := ∃ t : List UInt8, e = .returned (str t) ∧ t.length ≤ 10000 ∧ (Gr.OkPl fitsP p → t = Gr.putPl putI p) ∧ Grew w w'
set_option maxHeartbeats 8000000 in
theorem putPlan_any (v : Value) (p : List Gr.Stp) (w : World) (hv : StepsAt w v p) (hs : ∀ s ∈ p, s.nd.frm.length ≤ 100 ∧ s.nd.prog.length ≤ 1000) (h6 : p.length ≤ 6) : Calls Tryz.prog 43 #[v] w (PlanOut p w) := by
  have HV := Lib.hid hv
  have HS := Lib.hid hs
  obtain ⟨a, cap, rfl, hm, -⟩ := hv.openC
  have HW0 : Hid (WriterAt w.heap.size w.heap.size (w.alloc (.cells #[.slice none 0 0] 67)) (.slice none 0 0) []) := Lib.hid ⟨Nat.le_refl _, heap_new_at _ _ _ rfl, OwnAt.nil _⟩
  clear hv hs
  go_enter Tryz.func43, Tryz.ntmps43
  go_wp2_with fail
  refine (writerNum_freshK w _ w.heap.size (.slice none 0 0) [] [(p.length : Int)] [.int .i64 p.length] _ _ _ HW0.out (by repeat (first | with_reducible exact Grew.refl _ | apply Grew.more | apply Grew.alloc | apply Grew.drew | apply Grew.drewN)) rfl (by simp [go_sem]) rfl ?_ (by simp)).mono ?_
  · simp only [List.all_cons, List.all_nil, Bool.and_true]
    exact fits_of (by omega) (by omega)
  rintro e W1 ⟨rfl, hg1, hk1, vb1, hw1⟩
  rw [List.nil_append, be_one] at hw1
  have HW1 := Lib.hid hw1
  have HG1 := Lib.hid hg1
  clear hw1 hg1 hk1
  go_wp2
  go_loopg [13] p.length (fun gg s13 wr => ∃ (k : Nat) (vk : Value) (X : List UInt8), k ≤ p.length ∧ p.length - k ≤ gg ∧ s13 = .int .i64 k ∧ Hid (WroteS p k X) ∧ Hid (WriterAt w.heap.size w.heap.size wr vk (Oc.be p.length ++ X)) ∧ Hid (Grew w wr))
  case atStart => exact ⟨0, vb1, [], Nat.zero_le _, by omega, rfl, Lib.hid ⟨Nat.zero_le _, fun _ => rfl⟩, Lib.hid (by rw [List.append_nil]; exact HW1.out), HG1⟩
  case round =>
    obtain ⟨k, vk, X, hk, hgg, rfl, HX, HWK, HGK⟩ := hrel
    by_cases hlt : k < p.length
    · obtain ⟨a', cap', e, -, hx⟩ := (HV.out.grew HGK.out).openC
      cases e
      obtain ⟨b, off, c, rfl, hb, hn, c0, c1, c2, c3, c4, c5, c6, c7, c8, c9, c10, c11, c12, c13, c14⟩ := hx k hlt
      have hss := HS.out _ (List.getElem_mem hlt)
      have HNX := Lib.hid fun kd rs xs => HX.out.next (kd := kd) (rs := rs) (xs := xs) hlt
      have hXl := HX.out.1
      generalize p[k] = y at *
      have HN := Lib.hid hn
      have HC := Lib.hid fun W (g : Grew wr W) => clean49_any c y W (HN.out.grew g) ⟨by omega, by omega⟩
      have hcs := clean_small hss
      obtain ⟨kd0, rs0, cid, kind, af, cf, ap, cp, par, r0, r1, r2, r3, r4, r5, r6, r7, rfl⟩ := HN.out.lit
      simp only at c0 c1 c2 c3 c4 c5 c6 c7 c8 c9 c10 c11 c12 c13 c14
      clear hx hn
      go_wp2_with fail
      refine (HC.out _ (by repeat (first | with_reducible exact Grew.refl _ | apply Grew.more | apply Grew.alloc | apply Grew.drew | apply Grew.drewN))).mono ?_
      rintro e w1 ⟨d, rfl, hd, hod, R1, n1, rfl⟩
      have hrange := clean_range y
      generalize Gr.cleanS y = z at *
      obtain ⟨kd, rs, id, knd, af1, cf1, ap1, cp1, par1, s0, s1, s2, s3, s4, s5, s6, s7, rfl⟩ := hd.lit
      have hkd := hd.kind
      have hrs := hd.reset
      simp only at hkd hrs hod
      have HOD := Lib.hid hod
      have HDN := Lib.hid hd.nd
      have HKD := Lib.hid hkd
      have HRS := Lib.hid hrs
      have hr1 : 0 ≤ kd := by rw [← hkd]; exact hrange.1
      have hr2 : kd ≤ 5 := by rw [← hkd]; exact hrange.2
      clear hod hd hkd hrs hrange
      obtain ⟨ri, hri⟩ : ∃ ri : Int, (if rs = true then (1 : Int) else 0) = ri := ⟨_, rfl⟩
      have HRI := Lib.hid hri
      have hri2 : 0 ≤ ri ∧ ri ≤ 1 := by rw [← hri]; split <;> exact ⟨by decide, by decide⟩
      obtain ⟨hri3, hri4⟩ := hri2
      have hT : ∀ b, (wr.alloc (.cells #[.int .i64 kd0, .int .i64 cid, .int .i64 kind, .slice af y.nd.frm.length cf, .slice ap y.nd.prog.length cp, .int .i64 par, .int .i64 r0, .int .i64 r1, .int .i64 r2, .int .i64 r3, .int .i64 r4, .int .i64 r5, .int .i64 r6, .int .i64 r7, .bool rs0] 47)).heap.size ≤ b → ((wr.alloc (.cells #[.int .i64 kd, .int .i64 id, .int .i64 knd, .slice af1 z.nd.frm.length cf1, .slice ap1 z.nd.prog.length cp1, .int .i64 par1, .int .i64 s0, .int .i64 s1, .int .i64 s2, .int .i64 s3, .int .i64 s4, .int .i64 s5, .int .i64 s6, .int .i64 s7, .bool rs] 47)).more R1 n1).heap[b]? = ((wr.alloc (.cells #[.int .i64 kd0, .int .i64 cid, .int .i64 kind, .slice af y.nd.frm.length cf, .slice ap y.nd.prog.length cp, .int .i64 par, .int .i64 r0, .int .i64 r1, .int .i64 r2, .int .i64 r3, .int .i64 r4, .int .i64 r5, .int .i64 r6, .int .i64 r7, .bool rs0] 47)).more R1 n1).heap[b]? := fun b hb => heap_more_same (by simp [World.size_alloc]) _ _ _ hb
      have HOD2 : Hid (OwnsNd (wr.heap.size + 1) ((wr.alloc (.cells #[.int .i64 kd, .int .i64 id, .int .i64 knd, .slice af1 z.nd.frm.length cf1, .slice ap1 z.nd.prog.length cp1, .int .i64 par1, .int .i64 s0, .int .i64 s1, .int .i64 s2, .int .i64 s3, .int .i64 s4, .int .i64 s5, .int .i64 s6, .int .i64 s7, .bool rs] 47)).more R1 n1) ⟨id, knd, af1, z.nd.frm.length, cf1, ap1, z.nd.prog.length, cp1, par1, s0, s1, s2, s3, s4, s5, s6, s7⟩ z.nd) := Lib.hid (by
        have h := OwnsNd.to HOD.out (fun b hb _ => hT b hb)
        rw [World.size_alloc] at h
        exact h)
      have HDN2 := Lib.hid (HOD2.out.is HDN.out)
      have HBX := Lib.hid (grew_heap ((Grew.refl _).more R1 n1) (heap_new_at wr (.cells #[.int .i64 kd, .int .i64 id, .int .i64 knd, .slice af1 z.nd.frm.length cf1, .slice ap1 z.nd.prog.length cp1, .int .i64 par1, .int .i64 s0, .int .i64 s1, .int .i64 s2, .int .i64 s3, .int .i64 s4, .int .i64 s5, .int .i64 s6, .int .i64 s7, .bool rs] 47) _ rfl))
      clear hT
      have hBlt := heap_lt HWK.out.2.1
      have hneB : wr.heap.size ≠ w.heap.size := by omega
      cases rs
      · have hri0 : (0 : Int) = ri := by simpa using HRI.out
        subst hri0
        go_wp2_with fail
        refine (writerNum_freshK w ((wr.alloc (.cells #[.int .i64 kd, .int .i64 id, .int .i64 knd, .slice af1 z.nd.frm.length cf1, .slice ap1 z.nd.prog.length cp1, .int .i64 par1, .int .i64 s0, .int .i64 s1, .int .i64 s2, .int .i64 s3, .int .i64 s4, .int .i64 s5, .int .i64 s6, .int .i64 s7, .bool false] 47)).more R1 n1) w.heap.size vk _ [kd, 0] [.int .i64 kd, .int .i64 0] _ _ _ (HWK.out.grew (by repeat (first | with_reducible exact Grew.refl _ | apply Grew.more | apply Grew.alloc | apply Grew.drew | apply Grew.drewN))) (HGK.out.trans (by repeat (first | with_reducible exact Grew.refl _ | apply Grew.more | apply Grew.alloc | apply Grew.drew | apply Grew.drewN))) rfl ?_ rfl ?_ (by simp only [List.length_append, List.length_cons, List.length_nil, Oc.be_len]; omega)).mono ?_
        · simp [go_sem]
        · simp only [List.all_cons, List.all_nil, Bool.and_true, Bool.and_eq_true]
          exact ⟨fits_of (by omega) (by omega), fits_of (by omega) (by omega)⟩
        rintro e W2 ⟨rfl, hg2, hk2, vb2, hw2⟩
        rw [bes_two] at hw2
        have HW2 := Lib.hid hw2
        have HG2 := Lib.hid hg2
        have HOD3 := Lib.hid (OwnsNd.kept HOD2.out hk2 (by omega))
        have HDN3 := Lib.hid (HOD3.out.is HDN2.out)
        have hbx := hk2.cells HBX.out hneB (by decide)
        have HBX3 := Lib.hid hbx
        clear hbx hw2 hg2 hk2
        have x1 := cell_of (o := 1) HBX3.out
        have x2 := cell_of (o := 2) HBX3.out
        have x3 := cell_of (o := 3) HBX3.out
        have x4 := cell_of (o := 4) HBX3.out
        have x5 := cell_of (o := 5) HBX3.out
        have x6 := cell_of (o := 6) HBX3.out
        have x7 := cell_of (o := 7) HBX3.out
        have x8 := cell_of (o := 8) HBX3.out
        have x9 := cell_of (o := 9) HBX3.out
        have x10 := cell_of (o := 10) HBX3.out
        have x11 := cell_of (o := 11) HBX3.out
        have x12 := cell_of (o := 12) HBX3.out
        have x13 := cell_of (o := 13) HBX3.out
        simp at x1 x2 x3 x4 x5 x6 x7 x8 x9 x10 x11 x12 x13
        have px := Pre.mk (heap_lt HBX3.out)
        go_wp2_with fail
        refine (putNode_or w W2 w.heap.size vb2 _ ⟨id, knd, af1, z.nd.frm.length, cf1, ap1, z.nd.prog.length, cp1, par1, s0, s1, s2, s3, s4, s5, s6, s7⟩ z.nd HW2.out HG2.out HDN3.out (HOD3.out.apartF (by omega)) (HOD3.out.apartP (by omega)) hcs.1 (by simp only [List.length_append, Oc.be_len]; omega)).mono ?_
        rintro e W3 ⟨rfl, hg3, hk3, vb3, xs, hx1, hx2, hw3⟩
        have HW3 := Lib.hid hw3
        have HG3 := Lib.hid hg3
        have HX2 := Lib.hid hx2
        clear hw3 hg3 hk3 hx2
        go_wp2
        go_roundg (p.length - (k + 1))
        case measure => omega
        case rel => exact ⟨k + 1, vb3, _, by omega, by omega, by go_num, Lib.hid (HNX.out kd 0 xs HKD.out (by rw [HRS.out]; exact HRI.out) hx1 HX2.out), Lib.hid (by have := HW3.out; simpa only [List.append_assoc] using this), HG3⟩
      · have hri0 : (1 : Int) = ri := by simpa using HRI.out
        subst hri0
        go_wp2_with fail
        refine (writerNum_freshK w ((wr.alloc (.cells #[.int .i64 kd, .int .i64 id, .int .i64 knd, .slice af1 z.nd.frm.length cf1, .slice ap1 z.nd.prog.length cp1, .int .i64 par1, .int .i64 s0, .int .i64 s1, .int .i64 s2, .int .i64 s3, .int .i64 s4, .int .i64 s5, .int .i64 s6, .int .i64 s7, .bool true] 47)).more R1 n1) w.heap.size vk _ [kd, 1] [.int .i64 kd, .int .i64 1] _ _ _ (HWK.out.grew (by repeat (first | with_reducible exact Grew.refl _ | apply Grew.more | apply Grew.alloc | apply Grew.drew | apply Grew.drewN))) (HGK.out.trans (by repeat (first | with_reducible exact Grew.refl _ | apply Grew.more | apply Grew.alloc | apply Grew.drew | apply Grew.drewN))) rfl ?_ rfl ?_ (by simp only [List.length_append, List.length_cons, List.length_nil, Oc.be_len]; omega)).mono ?_
        · simp [go_sem]
        · simp only [List.all_cons, List.all_nil, Bool.and_true, Bool.and_eq_true]
          exact ⟨fits_of (by omega) (by omega), fits_of (by omega) (by omega)⟩
        rintro e W2 ⟨rfl, hg2, hk2, vb2, hw2⟩
        rw [bes_two] at hw2
        have HW2 := Lib.hid hw2
        have HG2 := Lib.hid hg2
        have HOD3 := Lib.hid (OwnsNd.kept HOD2.out hk2 (by omega))
        have HDN3 := Lib.hid (HOD3.out.is HDN2.out)
        have hbx := hk2.cells HBX.out hneB (by decide)
        have HBX3 := Lib.hid hbx
        clear hbx hw2 hg2 hk2
        have x1 := cell_of (o := 1) HBX3.out
        have x2 := cell_of (o := 2) HBX3.out
        have x3 := cell_of (o := 3) HBX3.out
        have x4 := cell_of (o := 4) HBX3.out
        have x5 := cell_of (o := 5) HBX3.out
        have x6 := cell_of (o := 6) HBX3.out
        have x7 := cell_of (o := 7) HBX3.out
        have x8 := cell_of (o := 8) HBX3.out
        have x9 := cell_of (o := 9) HBX3.out
        have x10 := cell_of (o := 10) HBX3.out
        have x11 := cell_of (o := 11) HBX3.out
        have x12 := cell_of (o := 12) HBX3.out
        have x13 := cell_of (o := 13) HBX3.out
        simp at x1 x2 x3 x4 x5 x6 x7 x8 x9 x10 x11 x12 x13
        have px := Pre.mk (heap_lt HBX3.out)
        go_wp2_with fail
        refine (putNode_or w W2 w.heap.size vb2 _ ⟨id, knd, af1, z.nd.frm.length, cf1, ap1, z.nd.prog.length, cp1, par1, s0, s1, s2, s3, s4, s5, s6, s7⟩ z.nd HW2.out HG2.out HDN3.out (HOD3.out.apartF (by omega)) (HOD3.out.apartP (by omega)) hcs.1 (by simp only [List.length_append, Oc.be_len]; omega)).mono ?_
        rintro e W3 ⟨rfl, hg3, hk3, vb3, xs, hx1, hx2, hw3⟩
        have HW3 := Lib.hid hw3
        have HG3 := Lib.hid hg3
        have HX2 := Lib.hid hx2
        clear hw3 hg3 hk3 hx2
        go_wp2
        go_roundg (p.length - (k + 1))
        case measure => omega
        case rel => exact ⟨k + 1, vb3, _, by omega, by omega, by go_num, Lib.hid (HNX.out kd 1 xs HKD.out (by rw [HRS.out]; exact HRI.out) hx1 HX2.out), Lib.hid (by have := HW3.out; simpa only [List.append_assoc] using this), HG3⟩
    · obtain rfl : k = p.length := by omega
      have hX := HX.out
      go_wp2_with (go_at_call 32; refine (octOut_any _ _ _ _ _ HWK.out (by have := HX.out.1; simp only [List.length_append, Oc.be_len]; omega)).mono ?_; rintro e w6 ⟨rfl, R6, n6, rfl⟩)
      go_ret
      refine ⟨Oc.be p.length ++ X, rfl, by have := hX.1; simp only [List.length_append, Oc.be_len]; omega, fun h => ?_, HGK.out.trans (by repeat (first | with_reducible exact Grew.refl _ | apply Grew.more | apply Grew.alloc | apply Grew.drew | apply Grew.drewN))⟩
      unfold Gr.putPl
      rw [hX.2 fun s hs => (h.2.2 s (by rw [List.take_length] at hs; exact hs)).2, List.take_length]
end Go.Proofs.YtangapokicnfgaaGreat

/-! forebayref08.Same. -/
namespace Go.Proofs.YtangapokicnfgaaGreat
set_option linter.unusedSimpArgs false
set_option linter.unusedVariables false
open Go.RowKit Ga
set_option maxRecDepth 100000

open Classical in
theorem eqNd_eq {n m : Gr.Nd} (h : eqNd n m = true) : n = m := by
  unfold eqNd at h
  exact of_decide_eq_true h
open Classical in
/-- the same graph, as the document has it -/
noncomputable def sameG (l m : List Gr.Nd) : Bool := decide (l.length = m.length ∧ ∀ n ∈ l, Gr.nodeOf m n.id = some n)
open Classical in
theorem sameG_true {l m : List Gr.Nd} (h1 : l.length = m.length) (h2 : ∀ i (hi : i < l.length), Gr.nodeOf m l[i].id = some l[i]) : sameG l m = true := by
  unfold sameG
  exact decide_eq_true ⟨h1, fun n hn => by
    obtain ⟨i, hi, rfl⟩ := List.mem_iff_getElem.1 hn
    exact h2 i hi⟩
open Classical in
theorem sameG_len {l m : List Gr.Nd} (h1 : l.length ≠ m.length) : sameG l m = false := by
  unfold sameG
  exact decide_eq_false fun h => h1 h.1
open Classical in
theorem sameG_no {l m : List Gr.Nd} {i : Nat} (hi : i < l.length) (h2 : Gr.nodeOf m l[i].id ≠ some l[i]) : sameG l m = false := by
  unfold sameG
  exact decide_eq_false fun h => h2 (h.2 _ (List.getElem_mem hi))
set_option maxHeartbeats 16000000 in
theorem refSame08_any (v u : Value) (l m : List Gr.Nd) (w : World) (hv : NodesAt w v l) (hu : NodesAt w u m) : Calls Tryz.prog 14 #[v, u] w (Gives (.bool (sameG l m)) w) := by
  have HV := Lib.hid hv
  have HU := Lib.hid hu
  obtain ⟨a, cap, rfl, hm, -⟩ := hv.openC
  obtain ⟨a2, cap2, rfl, hm2, -⟩ := hu.openC
  clear hv hu
  by_cases hlen : l.length = m.length
  · have hne : ((l.length : Int) != (m.length : Int)) = false := by simp; omega
    have HLEN := Lib.hid hlen
    clear hlen
    go_enter Tryz.func14, Tryz.ntmps14
    go_wp2
    go_loopg [5] l.length (fun gg s5 wr => ∃ g : Nat, g ≤ l.length ∧ l.length - g ≤ gg ∧ s5 = .int .i64 g ∧ Hid (Grew w wr) ∧ Hid (∀ i (hi : i < l.length), i < g → Gr.nodeOf m l[i].id = some l[i]))
    case atStart => exact ⟨0, by omega, by omega, rfl, Lib.hid (by repeat (first | with_reducible exact Grew.refl _ | apply Grew.more | apply Grew.alloc | apply Grew.drew | apply Grew.drewN)), Lib.hid fun i _ h => by omega⟩
    case round =>
      obtain ⟨g, hg8, hgg, rfl, HGR, HNO⟩ := hrel
      by_cases hlt : g < l.length
      · obtain ⟨av, cv, e, -, hx⟩ := (HV.out.grew HGR.out).openC
        cases e
        obtain ⟨b, off, c, rfl, hb, hn, c0, c1, c2, c3, c4, c5, c6, c7, c8, c9, c10, c11, c12⟩ := hx g hlt
        have eid := hn.id
        have HF := Lib.hid fun W (gr : Grew wr W) => (by have := refFind08_any _ m l[g].id W ((HU.out.grew HGR.out).grew gr); rw [eid] at this; exact this)
        have HEID := Lib.hid eid
        have hsn : ∀ q, Gr.nodeOf m l[g].id = q → q ≠ some l[g] → sameG l m = false := fun q h1 h2 => sameG_no hlt (by rw [h1]; exact h2)
        have HSN := Lib.hid hsn
        clear hx hsn
        generalize hy : l[g] = y at *
        have HY := Lib.hid hy
        clear hy
        cases hf : Gr.find m c.id with
        | none =>
          have hi := findI_none hf
          have HI := Lib.hid hi
          have hno : sameG l m = false := HSN.out none (by unfold Gr.nodeOf; rw [HEID.out, hf]; rfl) (by simp)
          have HNOS := Lib.hid hno
          clear hi hf hno eid
          obtain ⟨cid, kind, af, cf, ap, cp, par, r0, r1, r2, r3, r4, r5, r6, r7, rfl⟩ := hn.lit
          simp only at c0 c1 c2 c3 c4 c5 c6 c7 c8 c9 c10 c11 c12
          clear hn
          go_upto_region 7 with (go_at_call 33; refine (HF.out _ (by repeat (first | with_reducible exact Grew.refl _ | apply Grew.more | apply Grew.alloc | apply Grew.drew | apply Grew.drewN))).mono ?_; rintro e w1 ⟨rfl, hw1⟩; obtain rfl := hw1.symm; rw [HI.out])
          go_quiet (fail)
          go_wp2
          go_ret
          exact ⟨by rw [HNOS.out]; rfl, HGR.out.trans (by repeat (first | with_reducible exact Grew.refl _ | apply Grew.more | apply Grew.alloc | apply Grew.drew | apply Grew.drewN))⟩
        | some j =>
          obtain ⟨hi, hjl⟩ := findI_some hf
          have HI := Lib.hid hi
          obtain ⟨av2, cv2, e, -, hz⟩ := (HU.out.grew HGR.out).openC
          cases e
          obtain ⟨b2, off2, d, rfl, hb2, hn2, d0, d1, d2, d3, d4, d5, d6, d7, d8, d9, d10, d11, d12⟩ := hz j hjl
          have hnode : Gr.nodeOf m y.id = some m[j] := by unfold Gr.nodeOf; rw [HEID.out, hf, Option.bind_some, List.getElem?_eq_getElem hjl]
          have hj0 : decide ((j : Int) < 0) = false := decide_eq_false (by omega)
          have hj1 : (j : Int) < (m.length : Int) := by omega
          have HNODE := Lib.hid hnode
          clear hz hf hi hnode eid
          generalize m[j] = z at *
          have HN := Lib.hid fun W (gr : Grew wr W) => refNode08_any c d y z W (hn.grew gr) (hn2.grew gr)
          obtain ⟨cid, kind, af, cf, ap, cp, par, r0, r1, r2, r3, r4, r5, r6, r7, rfl⟩ := hn.lit
          obtain ⟨cid2, kind2, af2, cf2, ap2, cp2, par2, s0, s1, s2, s3, s4, s5, s6, s7, rfl⟩ := hn2.lit
          simp only at c0 c1 c2 c3 c4 c5 c6 c7 c8 c9 c10 c11 c12 d0 d1 d2 d3 d4 d5 d6 d7 d8 d9 d10 d11 d12
          clear hn hn2
          generalize heq : eqNd y z = q at *
          have HEQ := Lib.hid heq
          clear heq
          go_upto_region 7 with (go_at_call 33; refine (HF.out _ (by repeat (first | with_reducible exact Grew.refl _ | apply Grew.more | apply Grew.alloc | apply Grew.drew | apply Grew.drewN))).mono ?_; rintro e w1 ⟨rfl, hw1⟩; obtain rfl := hw1.symm; rw [HI.out])
          refine wp_region_seq 14 Tryz.mixed (by kernel_rfl) (by kernel_rfl) ?_
          iterate 14
            apply Seq.val
            focus
              rintro w1 u ⟨R1, n1, rfl⟩ hF
              simp [moreFacts, Fact.more, Oper.deps, Region.binds, List.filter_cons, World.more_drew] at hF
              simp [putFacts, Oper.deps, Region.binds, List.filter_cons, Region.dstOf, Fact.at, Act.put, World.more_drew]
              go_wp2_with (go_at_call 20; refine (HN.out _ (by repeat (first | with_reducible exact Grew.refl _ | apply Grew.more | apply Grew.alloc | apply Grew.drew | apply Grew.drewN))).mono ?_; rintro e w2 ⟨rfl, R5, n5, rfl⟩)
              exact ⟨by repeat (first | with_reducible exact Grew.refl _ | apply Grew.more | apply Grew.alloc | apply Grew.drew | apply Grew.drewN), rfl, _, _, rfl, rfl, rfl⟩
          rintro u w1 ⟨R1, n1, rfl⟩ hF
          clear hF
          simp [putFacts, Region.dstOf, Fact.at, Act.put, List.range_succ, World.more_drew]
          cases q with
          | true =>
            go_wp2
            go_roundg (l.length - (g + 1))
            case measure => omega
            case rel => exact ⟨g + 1, by omega, by omega, by go_num, Lib.hid (HGR.out.trans (by repeat (first | with_reducible exact Grew.refl _ | apply Grew.more | apply Grew.alloc | apply Grew.drew | apply Grew.drewN))), Lib.hid fun i hi h => by
              by_cases e : i = g
              · subst e
                have e2 : l[i] = y := HY.out
                rw [e2, HNODE.out, eqNd_eq HEQ.out]
              · exact HNO.out i hi (by omega)⟩
          | false =>
            have hno : sameG l m = false := HSN.out (some z) HNODE.out (fun h => by rw [Option.some.injEq] at h; have := HEQ.out; rw [eqNd_true h.symm] at this; cases this)
            have HNOS := Lib.hid hno
            clear hno
            go_wp2
            go_ret
            exact ⟨by rw [HNOS.out]; rfl, HGR.out.trans (by repeat (first | with_reducible exact Grew.refl _ | apply Grew.more | apply Grew.alloc | apply Grew.drew | apply Grew.drewN))⟩
      · obtain rfl : g = l.length := by omega
        have hok := sameG_true HLEN.out fun i hi => HNO.out i hi hi
        have HOK := Lib.hid hok
        clear hok
        go_wp2
        go_ret
        exact ⟨by rw [HOK.out]; rfl, HGR.out⟩
  · have hne : ((l.length : Int) != (m.length : Int)) = true := by rw [bne_iff_ne]; omega
    rw [sameG_len hlen]
    clear hlen
    go_enter Tryz.func14, Tryz.ntmps14
    go_wp2
    go_ret
    refine ⟨rfl, ?_⟩
    repeat (first | with_reducible exact Grew.refl _ | apply Grew.more | apply Grew.alloc | apply Grew.drew | apply Grew.drewN)
end Go.Proofs.YtangapokicnfgaaGreat

/-! graph.Pass at two parts. -/
namespace Go.Proofs.YtangapokicnfgaaGreat
set_option linter.unusedSimpArgs false
set_option linter.unusedVariables false
open Go.RowKit Ga
set_option maxRecDepth 100000

def passR (g : Nat) : List Int := (List.range 8).map fun i => if i < g then ((i % 2 : Nat) : Int) else 0
def passL : List Gr.Nd := [⟨0, 0, [], [], 2, passR 8⟩, ⟨1, 2, [0], [], 2, passR 8⟩]
def PassGives (w : World) (e : Ending) (w' : World) : Prop := ∃ v, e = .returned v ∧ NodesAt w' v passL ∧ Grew w w'
set_option maxHeartbeats 8000000 in
theorem pass_any (w : World) : Calls Tryz.prog 29 #[.int .i64 2] w (PassGives w) := by
  go_enter Tryz.func29, Tryz.ntmps29
  go_wp2
  have hm1 : max (2 : Int) 1 = 2 := rfl
  have hm2 : min (2 : Int) 3 = 2 := rfl
  simp only [hm1, hm2]
  go_loopg [11] 8 (fun gg s11 wr => ∃ g : Nat, g ≤ 8 ∧ 8 - g ≤ gg ∧ s11 = .int .i64 g ∧ wr.heap[w.heap.size]? = some (.cells (nodeArr 0 0 (.slice none 0 0) (.slice none 0 0) 2 (passR g)) 45) ∧ Hid (Grew w wr))
  case atStart =>
    refine ⟨0, by omega, by omega, rfl, ?_, Lib.hid ?_⟩
    · have hna : nodeArr 0 0 (.slice none 0 0) (.slice none 0 0) 2 (passR 0) = #[.int .i64 0, .int .i64 0, .slice none 0 0, .slice none 0 0, .int .i64 2, .int .i64 0, .int .i64 0, .int .i64 0, .int .i64 0, .int .i64 0, .int .i64 0, .int .i64 0, .int .i64 0] := by
        simp [nodeArr, passR, List.range_succ]
      rw [hna]
      exact heap_new_at w _ _ rfl
    · repeat (first | exact (Grew.refl _).alloc _ | refine Grew.set ?_ (Nat.le_refl _) _)
  case round =>
    obtain ⟨g, hg8, hgg, rfl, hbx, HGR⟩ := hrel
    have hp := Pre.mk (heap_lt hbx)
    have HBX := Lib.hid hbx
    by_cases hlt : g < 8
    · have hset : (passR g).set g ((g : Int) % 2) = passR (g + 1) := by
        have : g = 0 ∨ g = 1 ∨ g = 2 ∨ g = 3 ∨ g = 4 ∨ g = 5 ∨ g = 6 ∨ g = 7 := by omega
        rcases this with rfl | rfl | rfl | rfl | rfl | rfl | rfl | rfl <;> rfl
      have hc5 := cell_of (o := 5 + g) hbx
      rw [nodeArr_get _ _ _ _ _ _ g (by simp [passR]; omega)] at hc5
      have hf5 := frozen_of (o := 5 + g) hbx
      have HSET := Lib.hid hset
      have hne : (2 : Int) ≠ 0 := by decide
      have htm : Int.tmod (g : Int) 2 = (g : Int) % 2 := rfl
      clear hset hbx
      go_wp2
      go_roundg (8 - (g + 1))
      case measure => omega
      case rel =>
        refine ⟨g + 1, by omega, by omega, by go_num, ?_, Lib.hid (HGR.out.set (Nat.le_refl _) _)⟩
        rw [← HSET.out, ← nodeArr_set]
        exact set_self HBX.out
    · obtain rfl : g = 8 := by omega
      have a0 := cell_of (o := 0) hbx
      have a1 := cell_of (o := 1) hbx
      have a2 := cell_of (o := 2) hbx
      have a3 := cell_of (o := 3) hbx
      have a4 := cell_of (o := 4) hbx
      have a5 := cell_of (o := 5) hbx
      have a6 := cell_of (o := 6) hbx
      have a7 := cell_of (o := 7) hbx
      have a8 := cell_of (o := 8) hbx
      have a9 := cell_of (o := 9) hbx
      have a10 := cell_of (o := 10) hbx
      have a11 := cell_of (o := 11) hbx
      have a12 := cell_of (o := 12) hbx
      simp [nodeArr, passR, List.range_succ] at a0 a1 a2 a3 a4 a5 a6 a7 a8 a9 a10 a11 a12
      clear hbx
      go_wp2
      go_ret
      refine ⟨_, rfl, ⟨[⟨0, 0, none, 0, 0, none, 0, 0, 2, 0, 1, 0, 1, 0, 1, 0, 1⟩, ⟨1, 2, some ⟨wr.heap.size + 1, 0, none⟩, 1, 1, none, 0, 0, 2, 0, 1, 0, 1, 0, 1, 0, 1⟩], ?_, rfl, ?_⟩, HGR.out.trans (by repeat (first | with_reducible exact Grew.refl _ | apply Grew.more | apply Grew.alloc | apply Grew.drew | apply Grew.drewN))⟩
      · exact RowsAt.fresh rfl (by simp [maxLen]) encNd_len (by simp [World.size_alloc]) rfl
      · have hi : IntsAt (((wr.alloc (.cells #[.int .i64 1, .int .i64 2, .slice (some ⟨wr.heap.size + 1, 0, none⟩) 1 1, .slice none 0 0, .int .i64 2, .int .i64 0, .int .i64 1, .int .i64 0, .int .i64 1, .int .i64 0, .int .i64 1, .int .i64 0, .int .i64 1] 45))).alloc (.cells #[.int .i64 0] 3)) (.slice (some ⟨wr.heap.size + 1, 0, none⟩) 1 1) [0] := RowsAt.fresh rfl (by decide) (fun _ => rfl) (by simp [World.size_alloc]) rfl
        intro i c n h1 h2
        match i with
        | 0 =>
          cases h1
          cases h2
          exact ⟨rfl, rfl, RowsAt.nil, RowsAt.nil, rfl, rfl, Nat.zero_le _⟩
        | 1 =>
          cases h1
          cases h2
          exact ⟨rfl, rfl, hi.grew ((Grew.refl _).alloc _), RowsAt.nil, rfl, rfl, Nat.le_refl _⟩
        | i + 2 => cases h1
end Go.Proofs.YtangapokicnfgaaGreat
