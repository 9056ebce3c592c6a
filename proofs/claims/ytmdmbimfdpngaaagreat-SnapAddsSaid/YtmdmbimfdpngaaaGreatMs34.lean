import Derived.Test.YtmdmbimfdpngaaaGreatMs33
import Derived.Test.YtmdmbimfdpngaaaGreatMs25
import Derived.Test.YtmdmbimfdpngaaaGreatMs27
import Derived.Test.YtmdmbimfdpngaaaGreatMs30
import Derived.Test.YtmdmbimfdpngaaaGreatMs29
import Derived.Test.YtmdmbimfdpngaaaGreatMs26
import Derived.Test.YtmdmbimfdpngaaaGreatMs15
/-! pack.putPlan. -/
namespace Go.Proofs.YtmdmbimfdpngaaaGreat
set_option linter.unusedSimpArgs false
set_option linter.unusedVariables false
open Go.RowKit Ga
set_option maxRecDepth 100000

/-- some bytes, and if P, just zs -/
def PutOr (w0 W : World) (B : Nat) (ys : List UInt8) (P : Prop) (zs : List UInt8) (n : Nat) (e : Ending) (W' : World) : Prop := e = .returned (.tuple #[]) ∧ Grew w0 W' ∧ KeptW w0.heap.size B W W' ∧ ∃ vb' xs, xs.length ≤ n ∧ (P → xs = zs) ∧ WriterAt w0.heap.size B W' vb' (ys ++ xs)
theorem putNode_or (w0 W : World) (B : Nat) (vb : Value) (ys : List UInt8) (c : NdC) (n : Gr.Nd) (hw : WriterAt w0.heap.size B W vb ys) (hg : Grew w0 W) (hn : NodeIs W c n) (hsf : Apart w0.heap.size B W c.vf) (hsp : Apart w0.heap.size B W c.vp) (hok : n.frm.length ≤ 100) (hlen : ys.length ≤ 8000) :
    Calls Tryz.prog 147 #[.pointer (some ⟨B, 0, none⟩), .agg #[.int .i64 c.id, .int .i64 c.kind, .slice c.af c.nf c.cf, .slice c.ap c.np c.cp, .int .i64 c.par, .int .i64 c.r0, .int .i64 c.r1, .int .i64 c.r2, .int .i64 c.r3, .int .i64 c.r4, .int .i64 c.r5, .int .i64 c.r6, .int .i64 c.r7]] W (PutOr w0 W B ys (Gr.OkB fitsP 0 n) (Gr.putNd putI n) 1000) := by
  by_cases h : Gr.OkB fitsP 0 n
  · refine (putNode_any w0 W B vb ys c n 0 (by decide) hw hg hn hsf hsp h hlen).mono ?_
    rintro e W' ⟨rfl, h1, h2, vb', h3⟩
    exact ⟨rfl, h1, h2, vb', _, by have := putNd_len h; omega, fun _ => rfl, h3⟩
  · refine (putNode_some w0 W B vb ys c n hw hg hn hsf hsp hok hlen).mono ?_
    rintro e W' ⟨rfl, h1, h2, vb', zs, h3, h4⟩
    exact ⟨rfl, h1, h2, vb', zs, h3, fun q => absurd q h, h4⟩
theorem bes_two (a b : Int) : Oc.bes [a, b] = Oc.be a ++ Oc.be b := by simp [Oc.bes]
theorem take_snocS {β : Type} (f : Gr.Stp → List β) (l : List Gr.Stp) (k : Nat) (h : k < l.length) : (l.take (k + 1)).flatMap f = (l.take k).flatMap f ++ f l[k] := by
  rw [List.take_succ_eq_append_getElem h, List.flatMap_append]
  simp
/-- what is written of the first k steps -/
def WroteS (p : List Gr.Stp) (k : Nat) (X : List UInt8) : Prop := X.length ≤ k * 1010 ∧ ((∀ s ∈ p.take k, Gr.OkB fitsP 0 (Gr.cleanS s).nd) → X = (p.take k).flatMap (Gr.putSt putI))
theorem WroteS.next {p : List Gr.Stp} {k : Nat} {X xs : List UInt8} {kd rs : Int} (h : WroteS p k X) (hk : k < p.length) (h1 : (Gr.cleanS p[k]).kind = kd) (h2 : (if (Gr.cleanS p[k]).reset then (1:Int) else 0) = rs) (h3 : xs.length ≤ 1000) (h4 : Gr.OkB fitsP 0 (Gr.cleanS p[k]).nd → xs = Gr.putNd putI (Gr.cleanS p[k]).nd) :
    WroteS p (k + 1) (X ++ (Oc.be kd ++ Oc.be rs) ++ xs) := by
  refine ⟨?_, fun hall => ?_⟩
  · have := h.1
    simp only [List.length_append, Oc.be_len]
    omega
  · have htk : p.take (k + 1) = p.take k ++ [p[k]] := List.take_succ_eq_append_getElem hk
    rw [take_snocS _ _ _ hk, h.2 fun s hs => hall s (by rw [htk]; exact List.mem_append_left _ hs), h4 (hall _ (by rw [htk]; exact List.mem_append_right _ (List.mem_singleton.2 rfl)))]
    unfold Gr.putSt
    rw [h1, h2]
    simp only [List.append_assoc]
def PlanOut (p : List Gr.Stp) (w : World) (e : Ending) (w' : World) : Prop := ∃ t : List UInt8, e = .returned (str t) ∧ t.length ≤ 10000 ∧ (Gr.OkPl fitsP p → t = Gr.putPl putI p) ∧ Grew w w'
set_option maxHeartbeats 8000000 in
theorem putPlan_any (v : Value) (p : List Gr.Stp) (w : World) (hv : StepsAt w v p) (hs : ∀ s ∈ p, s.nd.frm.length ≤ 100 ∧ s.nd.prog.length ≤ 1000) (h6 : p.length ≤ 6) : Calls Tryz.prog 123 #[v] w (PlanOut p w) := by
  have HV := Lib.hid hv
  have HS := Lib.hid hs
  obtain ⟨a, cap, rfl, hm, -⟩ := hv.openC
  have HW0 : Hid (WriterAt w.heap.size w.heap.size (w.alloc (.cells #[.slice none 0 0] 217)) (.slice none 0 0) []) := Lib.hid ⟨Nat.le_refl _, heap_new_at _ _ _ rfl, OwnAt.nil _⟩
  clear hv hs
  go_enter Tryz.func123, Tryz.ntmps123
  go_wp2_with fail
  refine (writerNum_freshK w _ w.heap.size (.slice none 0 0) [] [(p.length : Int)] [.int .i64 p.length] _ _ _ HW0.out (by repeat (first | with_reducible exact Grew.refl _ | apply Grew.more | apply Grew.alloc | apply Grew.drew | apply Grew.drewN)) rfl (by simp [go_sem]) rfl ?_ (by simp)).mono ?_
  · simp only [List.all_cons, List.all_nil, Bool.and_true]
    exact fits_of (by omega) (by omega)
  rintro e W1 ⟨rfl, hg1, hk1, vb1, hw1⟩
  rw [List.nil_append, be_one] at hw1
  have HW1 := Lib.hid hw1
  have HG1 := Lib.hid hg1
  clear hw1 hg1 hk1
  go_wp2
  go_loopg [13] p.length (fun gg s13 wr => ∃ (k : Nat) (vk : Value) (X : List UInt8), k ≤ p.length ∧ p.length - k ≤ gg ∧ s13 = .int .i64 k ∧ Hid (WroteS p k X) ∧ Hid (WriterAt w.heap.size w.heap.size wr vk (Oc.be p.length ++ X)) ∧ Hid (Grew w wr))
  case atStart => exact ⟨0, vb1, [], Nat.zero_le _, by omega, rfl, Lib.hid ⟨Nat.zero_le _, fun _ => rfl⟩, Lib.hid (by rw [List.append_nil]; exact HW1.out), HG1⟩
  case round =>
    obtain ⟨k, vk, X, hk, hgg, rfl, HX, HWK, HGK⟩ := hrel
    by_cases hlt : k < p.length
    · obtain ⟨a', cap', e, -, hx⟩ := (HV.out.grew HGK.out).openC
      cases e
      obtain ⟨b, off, c, rfl, hb, hn, c0, c1, c2, c3, c4, c5, c6, c7, c8, c9, c10, c11, c12, c13, c14⟩ := hx k hlt
      have hss := HS.out _ (List.getElem_mem hlt)
      have HNX := Lib.hid fun kd rs xs => HX.out.next (kd := kd) (rs := rs) (xs := xs) hlt
      have hXl := HX.out.1
      generalize p[k] = y at *
      have HN := Lib.hid hn
      have HC := Lib.hid fun W (g : Grew wr W) => clean49_any c y W (HN.out.grew g) ⟨by omega, by omega⟩
      have hcs := clean_small hss
      obtain ⟨kd0, rs0, cid, kind, af, cf, ap, cp, par, r0, r1, r2, r3, r4, r5, r6, r7, rfl⟩ := HN.out.lit
      simp only at c0 c1 c2 c3 c4 c5 c6 c7 c8 c9 c10 c11 c12 c13 c14
      clear hx hn
      go_wp2_with fail
      refine (HC.out _ (by repeat (first | with_reducible exact Grew.refl _ | apply Grew.more | apply Grew.alloc | apply Grew.drew | apply Grew.drewN))).mono ?_
      rintro e w1 ⟨d, rfl, hd, hod, R1, n1, rfl⟩
      have hrange := clean_range y
      generalize Gr.cleanS y = z at *
      obtain ⟨kd, rs, id, knd, af1, cf1, ap1, cp1, par1, s0, s1, s2, s3, s4, s5, s6, s7, rfl⟩ := hd.lit
      have hkd := hd.kind
      have hrs := hd.reset
      simp only at hkd hrs hod
      have HOD := Lib.hid hod
      have HDN := Lib.hid hd.nd
      have HKD := Lib.hid hkd
      have HRS := Lib.hid hrs
      have hr1 : 0 ≤ kd := by rw [← hkd]; exact hrange.1
      have hr2 : kd ≤ 5 := by rw [← hkd]; exact hrange.2
      clear hod hd hkd hrs hrange
      obtain ⟨ri, hri⟩ : ∃ ri : Int, (if rs = true then (1 : Int) else 0) = ri := ⟨_, rfl⟩
      have HRI := Lib.hid hri
      have hri2 : 0 ≤ ri ∧ ri ≤ 1 := by rw [← hri]; split <;> exact ⟨by decide, by decide⟩
      obtain ⟨hri3, hri4⟩ := hri2
      have hT : ∀ b, (wr.alloc (.cells #[.int .i64 kd0, .int .i64 cid, .int .i64 kind, .slice af y.nd.frm.length cf, .slice ap y.nd.prog.length cp, .int .i64 par, .int .i64 r0, .int .i64 r1, .int .i64 r2, .int .i64 r3, .int .i64 r4, .int .i64 r5, .int .i64 r6, .int .i64 r7, .bool rs0] 78)).heap.size ≤ b → ((wr.alloc (.cells #[.int .i64 kd, .int .i64 id, .int .i64 knd, .slice af1 z.nd.frm.length cf1, .slice ap1 z.nd.prog.length cp1, .int .i64 par1, .int .i64 s0, .int .i64 s1, .int .i64 s2, .int .i64 s3, .int .i64 s4, .int .i64 s5, .int .i64 s6, .int .i64 s7, .bool rs] 78)).more R1 n1).heap[b]? = ((wr.alloc (.cells #[.int .i64 kd0, .int .i64 cid, .int .i64 kind, .slice af y.nd.frm.length cf, .slice ap y.nd.prog.length cp, .int .i64 par, .int .i64 r0, .int .i64 r1, .int .i64 r2, .int .i64 r3, .int .i64 r4, .int .i64 r5, .int .i64 r6, .int .i64 r7, .bool rs0] 78)).more R1 n1).heap[b]? := fun b hb => heap_more_same (by simp [World.size_alloc]) _ _ _ hb
      have HOD2 : Hid (OwnsNd (wr.heap.size + 1) ((wr.alloc (.cells #[.int .i64 kd, .int .i64 id, .int .i64 knd, .slice af1 z.nd.frm.length cf1, .slice ap1 z.nd.prog.length cp1, .int .i64 par1, .int .i64 s0, .int .i64 s1, .int .i64 s2, .int .i64 s3, .int .i64 s4, .int .i64 s5, .int .i64 s6, .int .i64 s7, .bool rs] 78)).more R1 n1) ⟨id, knd, af1, z.nd.frm.length, cf1, ap1, z.nd.prog.length, cp1, par1, s0, s1, s2, s3, s4, s5, s6, s7⟩ z.nd) := Lib.hid (by
        have h := OwnsNd.to HOD.out (fun b hb _ => hT b hb)
        rw [World.size_alloc] at h
        exact h)
      have HDN2 := Lib.hid (HOD2.out.is HDN.out)
      have HBX := Lib.hid (grew_heap ((Grew.refl _).more R1 n1) (heap_new_at wr (.cells #[.int .i64 kd, .int .i64 id, .int .i64 knd, .slice af1 z.nd.frm.length cf1, .slice ap1 z.nd.prog.length cp1, .int .i64 par1, .int .i64 s0, .int .i64 s1, .int .i64 s2, .int .i64 s3, .int .i64 s4, .int .i64 s5, .int .i64 s6, .int .i64 s7, .bool rs] 78) _ rfl))
      clear hT
      have hBlt := heap_lt HWK.out.2.1
      have hneB : wr.heap.size ≠ w.heap.size := by omega
      cases rs
      · have hri0 : (0 : Int) = ri := by simpa using HRI.out
        subst hri0
        go_wp2_with fail
        refine (writerNum_freshK w ((wr.alloc (.cells #[.int .i64 kd, .int .i64 id, .int .i64 knd, .slice af1 z.nd.frm.length cf1, .slice ap1 z.nd.prog.length cp1, .int .i64 par1, .int .i64 s0, .int .i64 s1, .int .i64 s2, .int .i64 s3, .int .i64 s4, .int .i64 s5, .int .i64 s6, .int .i64 s7, .bool false] 78)).more R1 n1) w.heap.size vk _ [kd, 0] [.int .i64 kd, .int .i64 0] _ _ _ (HWK.out.grew (by repeat (first | with_reducible exact Grew.refl _ | apply Grew.more | apply Grew.alloc | apply Grew.drew | apply Grew.drewN))) (HGK.out.trans (by repeat (first | with_reducible exact Grew.refl _ | apply Grew.more | apply Grew.alloc | apply Grew.drew | apply Grew.drewN))) rfl ?_ rfl ?_ (by simp only [List.length_append, List.length_cons, List.length_nil, Oc.be_len]; omega)).mono ?_
        · simp [go_sem]
        · simp only [List.all_cons, List.all_nil, Bool.and_true, Bool.and_eq_true]
          exact ⟨fits_of (by omega) (by omega), fits_of (by omega) (by omega)⟩
        rintro e W2 ⟨rfl, hg2, hk2, vb2, hw2⟩
        rw [bes_two] at hw2
        have HW2 := Lib.hid hw2
        have HG2 := Lib.hid hg2
        have HOD3 := Lib.hid (OwnsNd.kept HOD2.out hk2 (by omega))
        have HDN3 := Lib.hid (HOD3.out.is HDN2.out)
        have hbx := hk2.cells HBX.out hneB (by decide)
        have HBX3 := Lib.hid hbx
        clear hbx hw2 hg2 hk2
        have x1 := cell_of (o := 1) HBX3.out
        have x2 := cell_of (o := 2) HBX3.out
        have x3 := cell_of (o := 3) HBX3.out
        have x4 := cell_of (o := 4) HBX3.out
        have x5 := cell_of (o := 5) HBX3.out
        have x6 := cell_of (o := 6) HBX3.out
        have x7 := cell_of (o := 7) HBX3.out
        have x8 := cell_of (o := 8) HBX3.out
        have x9 := cell_of (o := 9) HBX3.out
        have x10 := cell_of (o := 10) HBX3.out
        have x11 := cell_of (o := 11) HBX3.out
        have x12 := cell_of (o := 12) HBX3.out
        have x13 := cell_of (o := 13) HBX3.out
        simp at x1 x2 x3 x4 x5 x6 x7 x8 x9 x10 x11 x12 x13
        have px := Pre.mk (heap_lt HBX3.out)
        go_wp2_with fail
        refine (putNode_or w W2 w.heap.size vb2 _ ⟨id, knd, af1, z.nd.frm.length, cf1, ap1, z.nd.prog.length, cp1, par1, s0, s1, s2, s3, s4, s5, s6, s7⟩ z.nd HW2.out HG2.out HDN3.out (HOD3.out.apartF (by omega)) (HOD3.out.apartP (by omega)) hcs.1 (by simp only [List.length_append, Oc.be_len]; omega)).mono ?_
        rintro e W3 ⟨rfl, hg3, hk3, vb3, xs, hx1, hx2, hw3⟩
        have HW3 := Lib.hid hw3
        have HG3 := Lib.hid hg3
        have HX2 := Lib.hid hx2
        clear hw3 hg3 hk3 hx2
        go_wp2
        go_roundg (p.length - (k + 1))
        case measure => omega
        case rel => exact ⟨k + 1, vb3, _, by omega, by omega, by go_num, Lib.hid (HNX.out kd 0 xs HKD.out (by rw [HRS.out]; exact HRI.out) hx1 HX2.out), Lib.hid (by have := HW3.out; simpa only [List.append_assoc] using this), HG3⟩
      · have hri0 : (1 : Int) = ri := by simpa using HRI.out
        subst hri0
        go_wp2_with fail
        refine (writerNum_freshK w ((wr.alloc (.cells #[.int .i64 kd, .int .i64 id, .int .i64 knd, .slice af1 z.nd.frm.length cf1, .slice ap1 z.nd.prog.length cp1, .int .i64 par1, .int .i64 s0, .int .i64 s1, .int .i64 s2, .int .i64 s3, .int .i64 s4, .int .i64 s5, .int .i64 s6, .int .i64 s7, .bool true] 78)).more R1 n1) w.heap.size vk _ [kd, 1] [.int .i64 kd, .int .i64 1] _ _ _ (HWK.out.grew (by repeat (first | with_reducible exact Grew.refl _ | apply Grew.more | apply Grew.alloc | apply Grew.drew | apply Grew.drewN))) (HGK.out.trans (by repeat (first | with_reducible exact Grew.refl _ | apply Grew.more | apply Grew.alloc | apply Grew.drew | apply Grew.drewN))) rfl ?_ rfl ?_ (by simp only [List.length_append, List.length_cons, List.length_nil, Oc.be_len]; omega)).mono ?_
        · simp [go_sem]
        · simp only [List.all_cons, List.all_nil, Bool.and_true, Bool.and_eq_true]
          exact ⟨fits_of (by omega) (by omega), fits_of (by omega) (by omega)⟩
        rintro e W2 ⟨rfl, hg2, hk2, vb2, hw2⟩
        rw [bes_two] at hw2
        have HW2 := Lib.hid hw2
        have HG2 := Lib.hid hg2
        have HOD3 := Lib.hid (OwnsNd.kept HOD2.out hk2 (by omega))
        have HDN3 := Lib.hid (HOD3.out.is HDN2.out)
        have hbx := hk2.cells HBX.out hneB (by decide)
        have HBX3 := Lib.hid hbx
        clear hbx hw2 hg2 hk2
        have x1 := cell_of (o := 1) HBX3.out
        have x2 := cell_of (o := 2) HBX3.out
        have x3 := cell_of (o := 3) HBX3.out
        have x4 := cell_of (o := 4) HBX3.out
        have x5 := cell_of (o := 5) HBX3.out
        have x6 := cell_of (o := 6) HBX3.out
        have x7 := cell_of (o := 7) HBX3.out
        have x8 := cell_of (o := 8) HBX3.out
        have x9 := cell_of (o := 9) HBX3.out
        have x10 := cell_of (o := 10) HBX3.out
        have x11 := cell_of (o := 11) HBX3.out
        have x12 := cell_of (o := 12) HBX3.out
        have x13 := cell_of (o := 13) HBX3.out
        simp at x1 x2 x3 x4 x5 x6 x7 x8 x9 x10 x11 x12 x13
        have px := Pre.mk (heap_lt HBX3.out)
        go_wp2_with fail
        refine (putNode_or w W2 w.heap.size vb2 _ ⟨id, knd, af1, z.nd.frm.length, cf1, ap1, z.nd.prog.length, cp1, par1, s0, s1, s2, s3, s4, s5, s6, s7⟩ z.nd HW2.out HG2.out HDN3.out (HOD3.out.apartF (by omega)) (HOD3.out.apartP (by omega)) hcs.1 (by simp only [List.length_append, Oc.be_len]; omega)).mono ?_
        rintro e W3 ⟨rfl, hg3, hk3, vb3, xs, hx1, hx2, hw3⟩
        have HW3 := Lib.hid hw3
        have HG3 := Lib.hid hg3
        have HX2 := Lib.hid hx2
        clear hw3 hg3 hk3 hx2
        go_wp2
        go_roundg (p.length - (k + 1))
        case measure => omega
        case rel => exact ⟨k + 1, vb3, _, by omega, by omega, by go_num, Lib.hid (HNX.out kd 1 xs HKD.out (by rw [HRS.out]; exact HRI.out) hx1 HX2.out), Lib.hid (by have := HW3.out; simpa only [List.append_assoc] using this), HG3⟩
    · obtain rfl : k = p.length := by omega
      have hX := HX.out
      go_wp2_with (go_at_call 148; refine (octOut_any _ _ _ _ _ HWK.out (by have := HX.out.1; simp only [List.length_append, Oc.be_len]; omega)).mono ?_; rintro e w6 ⟨rfl, R6, n6, rfl⟩)
      go_ret
      refine ⟨Oc.be p.length ++ X, rfl, by have := hX.1; simp only [List.length_append, Oc.be_len]; omega, fun h => ?_, HGK.out.trans (by repeat (first | with_reducible exact Grew.refl _ | apply Grew.more | apply Grew.alloc | apply Grew.drew | apply Grew.drewN))⟩
      unfold Gr.putPl
      rw [hX.2 fun s hs => (h.2.2 s (by rw [List.take_length] at hs; exact hs)).2, List.take_length]
end Go.Proofs.YtmdmbimfdpngaaaGreat

/-! forebayref08.Same. -/
namespace Go.Proofs.YtmdmbimfdpngaaaGreat
set_option linter.unusedSimpArgs false
set_option linter.unusedVariables false
open Go.RowKit Ga
set_option maxRecDepth 100000

end Go.Proofs.YtmdmbimfdpngaaaGreat

/-! graph.Pass at two parts. -/
namespace Go.Proofs.YtmdmbimfdpngaaaGreat
set_option linter.unusedSimpArgs false
set_option linter.unusedVariables false
open Go.RowKit Ga
set_option maxRecDepth 100000

end Go.Proofs.YtmdmbimfdpngaaaGreat

/-! Programs that may run, by all their ways: plain laws. -/
namespace Vm
set_option linter.unusedSimpArgs false
set_option linter.unusedVariables false
open Ga

/-- A set of places, each with a depth and what was put out, that nothing leads out of. -/
structure Closed (l : List Ins) (M : Nat → Int → Int → Prop) : Prop where
  zero : M 0 0 0
  ok : ∀ k d e, M k d e → d ≤ 8 ∧ 0 ≤ e ∧ e ≤ 4 ∧ k ≤ l.length
  one : ∀ k d e d' e', M k d e → M k d' e' → k < l.length → d = d'
  enough : ∀ k d e i, M k d e → l[k]? = some i → (takes i.1 : Int) ≤ d
  next : ∀ k d e i, M k d e → l[k]? = some i → ∀ a ∈ next l k i, M a (d - takes i.1 + leaves i.1) (e + if i.1 = 14 then 1 else 0)
/-- All that is known is so on some way. -/
structure Real (n : Nat) (M : Nat → Int → Int → Prop) (s : Cst) : Prop where
  dl : s.depth.length = n
  el : s.emits.length = n
  m : ∀ j, s.depth.getD j (-1) ≠ -1 → M j (s.depth.getD j (-1)) (s.emits.getD j 0)
  z : ∀ j, s.depth.getD j (-1) = -1 → s.emits.getD j 0 = 0
theorem Real.come {l : List Ins} {M : Nat → Int → Int → Prop} (h : Closed l M) {s : Cst} (hr : Real l.length M s) {k : Nat} {d e : Int} (hm : M k d e) (hd : 0 ≤ d) : (come l.length s k d e).2 = true ∧ Real l.length M (come l.length s k d e).1 := by
  obtain ⟨h1, h2, h3, h4⟩ := h.ok k d e hm
  unfold Vm.come
  rw [if_neg (by omega)]
  by_cases hk : k = l.length
  · rw [if_pos hk]
    exact ⟨rfl, hr.dl, hr.el, hr.m, hr.z⟩
  rw [if_neg hk]
  have hkl : k < l.length := by omega
  have hone : ¬ (s.depth.getD k (-1) ≠ -1 ∧ s.depth.getD k (-1) ≠ d) := fun hh => hh.2 (h.one k _ _ _ _ (hr.m k hh.1) hm hkl)
  rw [if_neg hone]
  refine ⟨rfl, by simp [hr.dl], by simp [hr.el], fun j hj => ?_, fun j hj => ?_⟩
  · show M j ((s.depth.set k d).getD j (-1)) ((s.emits.set k (max (s.emits.getD k 0) e)).getD j 0)
    have hj' : (s.depth.set k d).getD j (-1) ≠ -1 := hj
    rw [getD_set] at hj' ⊢
    rw [getD_set]
    by_cases hjk : j = k
    · subst hjk
      rw [if_pos ⟨rfl, by rw [hr.dl]; exact hkl⟩, if_pos ⟨rfl, by rw [hr.el]; exact hkl⟩]
      by_cases hu : s.depth.getD j (-1) = -1
      · rw [hr.z j hu, show max 0 e = e by omega]; exact hm
      · have hd2 : s.depth.getD j (-1) = d := Classical.byContradiction fun x => hone ⟨hu, x⟩
        have := hr.m j hu
        rw [hd2] at this
        rcases Int.le_total (s.emits.getD j 0) e with x | x
        · rw [show max (s.emits.getD j 0) e = e by omega]; exact hm
        · rw [show max (s.emits.getD j 0) e = s.emits.getD j 0 by omega]; exact this
    · rw [if_neg (fun x => hjk x.1)] at hj' ⊢
      rw [if_neg (fun x => hjk x.1)]
      exact hr.m j hj'
  · show (s.emits.set k (max (s.emits.getD k 0) e)).getD j 0 = 0
    have hj' : (s.depth.set k d).getD j (-1) = -1 := hj
    rw [getD_set] at hj'
    rw [getD_set]
    by_cases hjk : j = k
    · subst hjk
      rw [if_pos ⟨rfl, by rw [hr.dl]; exact hkl⟩] at hj'
      omega
    · rw [if_neg (fun x => hjk x.1)] at hj' ⊢
      exact hr.z j hj'
theorem Real.comes {l : List Ins} {M : Nat → Int → Int → Prop} (h : Closed l M) {d e : Int} (hd : 0 ≤ d) : ∀ (bs : List Nat) {s : Cst}, Real l.length M s → (∀ a ∈ bs, M a d e) → (comes l.length d e bs s).2 = true ∧ Real l.length M (comes l.length d e bs s).1
  | [], s, hr, _ => ⟨rfl, hr⟩
  | a :: bs, s, hr, ha => by
    obtain ⟨h1, h2⟩ := hr.come h (ha a (List.mem_cons_self ..)) hd
    rw [Vm.comes, if_pos h1]
    exact Real.comes h hd bs h2 fun b hb => ha b (List.mem_cons_of_mem _ hb)
theorem Real.uses {n : Nat} {M : Nat → Int → Int → Prop} {s : Cst} (hr : Real n M s) (i : Ins) : Real n M (uses s i) := by
  have h1 := uses_depth s i
  have h2 := uses_emits s i
  exact ⟨by rw [h1]; exact hr.dl, by rw [h2]; exact hr.el, by rw [h1, h2]; exact hr.m, by rw [h1, h2]; exact hr.z⟩
theorem Real.step {l : List Ins} {M : Nat → Int → Int → Prop} (h : Closed l M) {s : Cst} (hr : Real l.length M s) {k : Nat} {i : Ins} (hi : l[k]? = some i) (hk : s.depth.getD k (-1) ≠ -1) : (stepC l s k i).2 = true ∧ Real l.length M (stepC l s k i).1 := by
  have hm := hr.m k hk
  have he := h.enough k _ _ i hm hi
  unfold stepC
  rw [if_neg (by omega)]
  exact (hr.uses i).comes h (by omega) (Vm.next l k i) fun a ha => h.next k _ _ i hm hi a ha
theorem goC_real {l : List Ins} {M : Nat → Int → Int → Prop} (h : Closed l M) : ∀ (r : List Ins) (k : Nat) (s : Cst), (∀ j i, r[j]? = some i → l[k + j]? = some i) → Real l.length M s → (goC l r k s).isSome = true
  | [], k, s, _, _ => rfl
  | i :: r, k, s, hl, hr => by
    have hi : l[k]? = some i := by have := hl 0 i rfl; rwa [Nat.add_zero] at this
    have hn : ∀ j i', r[j]? = some i' → l[k + 1 + j]? = some i' := fun j i' hj => by
      have := hl (j + 1) i' (by rw [List.getElem?_cons_succ]; exact hj)
      rwa [show k + (j + 1) = k + 1 + j by omega] at this
    rw [goC]
    split
    · rename_i hk
      obtain ⟨h1, h2⟩ := hr.step h hi hk
      rw [if_pos h1]
      exact goC_real h r (k + 1) _ hn h2
    · exact goC_real h r (k + 1) _ hn hr
theorem safe_of_closed {l : List Ins} (hf : Co.fitsI l = true) {M : Nat → Int → Int → Prop} (h : Closed l M) : safe l = true := by
  unfold safe checkC
  rw [if_pos hf]
  refine goC_real h l 0 (start l.length) (fun j i hj => by rwa [Nat.zero_add]) ?_
  have h0 : Real l.length M ⟨List.replicate l.length (-1), List.replicate l.length 0, 0, 0, false, false⟩ := by
    have e1 : ∀ j, (List.replicate l.length (-1 : Int)).getD j (-1) = -1 := fun j => by
      rw [List.getD_eq_getElem?_getD, List.getElem?_replicate]; split <;> rfl
    have e2 : ∀ j, (List.replicate l.length (0 : Int)).getD j 0 = 0 := fun j => by
      rw [List.getD_eq_getElem?_getD, List.getElem?_replicate]; split <;> rfl
    exact ⟨List.length_replicate, List.length_replicate, fun j hj => absurd (e1 j) hj, fun j _ => e2 j⟩
  exact (h0.come h h.zero (Int.le_refl _)).2

/-! ### and where it is safe, each way stays within what is known -/
def Snd (l : List Ins) (c : Cst) (k : Nat) (d e : Int) : Prop := 0 ≤ e ∧ d ≤ 8 ∧ e ≤ 4 ∧ k ≤ l.length ∧ (k < l.length → c.depth.getD k (-1) = d ∧ 0 ≤ d ∧ e ≤ c.emits.getD k 0)
theorem come_deep {n : Nat} {s : Cst} {k : Nat} {d e : Int} (hb : (come n s k d e).2 = true) : d ≤ 8 := by
  unfold come at hb
  split at hb
  · cases hb
  · omega
theorem comes_deep {n : Nat} {d e : Int} : ∀ (l : List Nat) (s : Cst), (comes n d e l s).2 = true → ∀ k ∈ l, d ≤ 8
  | [], s, _, k, hk => by cases hk
  | a :: l, s, hb, k, hk => by
    rw [comes] at hb
    split at hb
    · rename_i ha
      exact come_deep ha
    · cases hb
def DSound (p : List Ins) (c : Cst) (k : Nat) (i : Ins) : Prop := c.depth.getD k (-1) ≠ -1 → ∀ a ∈ next p k i, c.depth.getD k (-1) - takes i.1 + leaves i.1 ≤ 8
theorem goC_dsound {p : List Ins} {c : Cst} : ∀ (l : List Ins) (k : Nat) (s : Cst), goC p l k s = some c → k + l.length = p.length → ∀ j i, l[j]? = some i → DSound p c (k + j) i
  | [], _, s, _, _, j, i, hj => by simp at hj
  | i0 :: l, k, s, h, hl, j, i, hj => by
    rw [List.length_cons] at hl
    rw [goC] at h
    cases j with
    | succ j =>
      rw [List.getElem?_cons_succ] at hj
      have e : k + (j + 1) = k + 1 + j := by omega
      rw [e]
      split at h
      · split at h
        · exact goC_dsound l _ _ h (by omega) j i hj
        · cases h
      · exact goC_dsound l _ _ h (by omega) j i hj
    | zero =>
      rw [List.getElem?_cons_zero] at hj
      cases hj
      intro hk
      rw [Nat.add_zero] at hk ⊢
      split at h
      · rename_i hs
        split at h
        · rename_i hb
          have e1 : c.depth.getD k (-1) = s.depth.getD k (-1) := (goC_low l _ _ h (by omega) (by omega)).trans (stepC_low (by omega) (by omega))
          rw [e1]
          intro a ha
          unfold stepC at hb
          split at hb
          · cases hb
          · exact comes_deep (next p k i0) (uses s i0) hb a ha
        · cases h
      · rename_i hs
        exact absurd ((goC_low l _ _ h (by omega) (by omega)).trans (Classical.byContradiction fun x => hs x)) hk
theorem checkC_dsound {p : List Ins} {c : Cst} (h : checkC p = some c) {k : Nat} {i : Ins} (hi : p[k]? = some i) : DSound p c k i := by
  unfold checkC at h
  split at h
  · have := goC_dsound p 0 _ h (by omega) k i hi
    rwa [Nat.zero_add] at this
  · cases h
theorem snd_zero {l : List Ins} {c : Cst} (h : checkC l = some c) : Snd l c 0 0 0 :=
  ⟨Int.le_refl _, by decide, by decide, Nat.zero_le _, fun hl => ⟨checkC_zero h hl, Int.le_refl _, ((checkC_inv h).2 0).1⟩⟩
theorem snd_enough {l : List Ins} {c : Cst} (h : checkC l = some c) {k : Nat} {d e : Int} (hs : Snd l c k d e) {i : Ins} (hi : l[k]? = some i) : (takes i.1 : Int) ≤ d := by
  have hlt : k < l.length := (List.getElem?_eq_some_iff.1 hi).1
  obtain ⟨h1, h2, _⟩ := hs.2.2.2.2 hlt
  have := (checkC_sound h hi (by rw [h1]; omega)).1
  rwa [h1] at this
theorem next_le' {p : List Ins} {k : Nat} {i : Ins} (hk : k < p.length) : ∀ a ∈ next p k i, a ≤ p.length := by
  intro a ha
  unfold next at ha
  split at ha
  · cases ha
  split at ha
  · rw [List.mem_singleton] at ha; omega
  split at ha
  · rcases List.mem_cons.1 ha with e | e
    · omega
    · rw [List.mem_singleton] at e; omega
  · rw [List.mem_singleton] at ha; omega
theorem snd_next {l : List Ins} {c : Cst} (h : checkC l = some c) {k : Nat} {d e : Int} (hs : Snd l c k d e) {i : Ins} (hi : l[k]? = some i) : ∀ a ∈ next l k i, Snd l c a (d - takes i.1 + leaves i.1) (e + if i.1 = 14 then 1 else 0) := by
  intro a ha
  have hlt : k < l.length := (List.getElem?_eq_some_iff.1 hi).1
  obtain ⟨h1, h2, h3⟩ := hs.2.2.2.2 hlt
  have hk : c.depth.getD k (-1) ≠ -1 := by rw [h1]; omega
  obtain ⟨s1, s2⟩ := checkC_sound h hi hk
  obtain ⟨e1, e2⟩ := checkC_esound h hi hk a ha
  have d1 := checkC_dsound h hi hk a ha
  rw [h1] at s1 s2 d1
  have hp : (0 : Int) ≤ if i.1 = 14 then 1 else 0 := by split <;> decide
  have h0 := hs.1
  refine ⟨by omega, d1, by omega, next_le' hlt a ha, fun hal => ⟨s2 a ha hal, by omega, Int.le_trans (by omega) (e2 hal)⟩⟩
end Vm

/-! The document's machine: on right values it reckons as the program does. -/
namespace Vm
set_option linter.unusedSimpArgs false
set_option linter.unusedVariables false
open Ga

theorem right_parts {v : Val} (h : rightV v = true) : into v.1 = v.1 ∧ into v.2 = v.2 := by
  unfold rightV at h
  simp only [Bool.and_eq_true, decide_eq_true_eq] at h
  exact ⟨h.1.symm, h.2.symm⟩
end Vm

/-! forebayref05.take and leave. -/
namespace Go.Proofs.YtmdmbimfdpngaaaGreat
set_option linter.unusedSimpArgs false
set_option linter.unusedVariables false
open Go.RowKit Ga
set_option maxRecDepth 100000

set_option maxHeartbeats 8000000 in
theorem take05_any (op : Int) (h0 : 0 ≤ op) (h1 : op ≤ 17) (w : World) : Calls Tryz.prog 79 #[.int .i64 op] w fun e w' => e = .returned (.int .i64 (takesI op)) ∧ w = w' := by
  have hc : op = 0 ∨ op = 1 ∨ op = 2 ∨ op = 3 ∨ op = 4 ∨ op = 5 ∨ op = 6 ∨ op = 7 ∨ op = 8 ∨ op = 9 ∨ op = 10 ∨ op = 11 ∨ op = 12 ∨ op = 13 ∨ op = 14 ∨ op = 15 ∨ op = 16 ∨ op = 17 := by omega
  clear h0 h1
  rcases hc with rfl | rfl | rfl | rfl | rfl | rfl | rfl | rfl | rfl | rfl | rfl | rfl | rfl | rfl | rfl | rfl | rfl | rfl
  all_goals
    go_enter Tryz.func79, Tryz.ntmps79
    go_wp2
    go_ret
    exact ⟨rfl, rfl⟩

set_option maxHeartbeats 8000000 in
theorem leave05_any (op : Int) (h0 : 0 ≤ op) (h1 : op ≤ 17) (w : World) : Calls Tryz.prog 80 #[.int .i64 op] w fun e w' => e = .returned (.int .i64 (leavesI op)) ∧ w = w' := by
  have hc : op = 0 ∨ op = 1 ∨ op = 2 ∨ op = 3 ∨ op = 4 ∨ op = 5 ∨ op = 6 ∨ op = 7 ∨ op = 8 ∨ op = 9 ∨ op = 10 ∨ op = 11 ∨ op = 12 ∨ op = 13 ∨ op = 14 ∨ op = 15 ∨ op = 16 ∨ op = 17 := by omega
  clear h0 h1
  rcases hc with rfl | rfl | rfl | rfl | rfl | rfl | rfl | rfl | rfl | rfl | rfl | rfl | rfl | rfl | rfl | rfl | rfl | rfl
  all_goals
    go_enter Tryz.func80, Tryz.ntmps80
    go_wp2
    go_ret
    exact ⟨rfl, rfl⟩
end Go.Proofs.YtmdmbimfdpngaaaGreat
