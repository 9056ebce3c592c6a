import Derived.Test.YtpbohimddmploaaGreatCd22
import Derived.Test.YtpbohimddmploaaGreatCd29
import Derived.Test.YtpbohimddmploaaGreatCd27
import Derived.Test.YtpbohimddmploaaGreatCd30
import Derived.Test.YtpbohimddmploaaGreatCd31
import Derived.Test.YtpbohimddmploaaGreatCd23
import Derived.Test.YtpbohimddmploaaGreatCd26
import Derived.Test.YtpbohimddmploaaGreatCd10
set_option linter.unusedSimpArgs false
set_option linter.unusedVariables false
set_option maxRecDepth 100000
set_option maxHeartbeats 64000000
namespace Go.Proofs.YtpbohimddmploaaGreat
open Go.RowKit Ga

theorem clean49_any (c : StC) (s : Gr.Stp) (w : World) (hn : StepIs w c s) (hs : s.nd.frm.length ≤ 1000 ∧ s.nd.prog.length ≤ 1000) : Calls Tryz.prog 108 #[.agg #[.int .i64 c.kind, .int .i64 c.c.id, .int .i64 c.c.kind, .slice c.c.af c.c.nf c.c.cf, .slice c.c.ap c.c.np c.c.cp, .int .i64 c.c.par, .int .i64 c.c.r0, .int .i64 c.c.r1, .int .i64 c.c.r2, .int .i64 c.c.r3, .int .i64 c.c.r4, .int .i64 c.c.r5, .int .i64 c.c.r6, .int .i64 c.c.r7, .bool c.reset]] w (CleanGives (Gr.cleanS s) w) := by
  obtain ⟨kind, ⟨id, kd, af, nf, cf, ap, np, cp, par, r0, r1, r2, r3, r4, r5, r6, r7⟩, reset⟩ := c
  by_cases h1 : kind = 1
  · subst h1; exact clean49_1 _ _ _ _ _ _ _ _ _ _ _ _ _ _ _ _ _ _ s w hn hs
  by_cases h2 : kind = 2
  · subst h2; exact clean49_2 _ _ _ _ _ _ _ _ _ _ _ _ _ _ _ _ _ _ s w hn hs
  by_cases h3 : kind = 3
  · subst h3; exact clean49_3 _ _ _ _ _ _ _ _ _ _ _ _ _ _ _ _ _ _ s w hn hs
  by_cases h4 : kind = 4
  · subst h4; exact clean49_4 _ _ _ _ _ _ _ _ _ _ _ _ _ _ _ _ _ _ s w hn hs
  by_cases h5 : kind = 5
  · subst h5; exact clean49_5 _ _ _ _ _ _ _ _ _ _ _ _ _ _ _ _ _ _ s w hn hs
  exact clean49_0 kind h1 h2 h3 h4 h5 _ _ _ _ _ _ _ _ _ _ _ _ _ _ _ _ _ _ s w hn hs
theorem clean_range (s : Gr.Stp) : 0 ≤ (Gr.cleanS s).kind ∧ (Gr.cleanS s).kind ≤ 5 := by
  unfold Gr.cleanS
  split
  · exact ⟨by simp, by simp⟩
  split
  · exact ⟨by simp, by simp⟩
  split
  · exact ⟨by simp, by simp⟩
  split
  · exact ⟨by simp, by simp⟩
  split <;> exact ⟨by simp, by simp⟩
theorem clean_small {s : Gr.Stp} {a b : Nat} (h : s.nd.frm.length ≤ a ∧ s.nd.prog.length ≤ b) : (Gr.cleanS s).nd.frm.length ≤ a ∧ (Gr.cleanS s).nd.prog.length ≤ b := by
  unfold Gr.cleanS
  split
  · exact ⟨Nat.zero_le _, h.2⟩
  split
  · exact h
  split
  · exact ⟨Nat.zero_le _, Nat.zero_le _⟩
  split
  · exact ⟨Nat.zero_le _, Nat.zero_le _⟩
  split
  · exact ⟨h.1, Nat.zero_le _⟩
  · exact ⟨Nat.zero_le _, Nat.zero_le _⟩

def PutOr (w0 W : World) (B : Nat) (ys : List UInt8) (P : Prop) (zs : List UInt8) (n : Nat) (e : Ending) (W' : World) : Prop := e = .returned (.tuple #[]) ∧ Grew w0 W' ∧ KeptW w0.heap.size B W W' ∧ ∃ vb' xs, xs.length ≤ n ∧ (P → xs = zs) ∧ WriterAt w0.heap.size B W' vb' (ys ++ xs)
theorem putNode_or (w0 W : World) (B : Nat) (vb : Value) (ys : List UInt8) (c : NdC) (n : Gr.Nd) (hw : WriterAt w0.heap.size B W vb ys) (hg : Grew w0 W) (hn : NodeIs W c n) (hsf : Apart w0.heap.size B W c.vf) (hsp : Apart w0.heap.size B W c.vp) (hok : n.frm.length ≤ 100) (hlen : ys.length ≤ 8000) :
    Calls Tryz.prog 109 #[.pointer (some ⟨B, 0, none⟩), .agg #[.int .i64 c.id, .int .i64 c.kind, .slice c.af c.nf c.cf, .slice c.ap c.np c.cp, .int .i64 c.par, .int .i64 c.r0, .int .i64 c.r1, .int .i64 c.r2, .int .i64 c.r3, .int .i64 c.r4, .int .i64 c.r5, .int .i64 c.r6, .int .i64 c.r7]] W (PutOr w0 W B ys (Gr.OkB fitsP 0 n) (Gr.putNd putI n) 1000) := by
  by_cases h : Gr.OkB fitsP 0 n
  · refine (putNode_any w0 W B vb ys c n 0 (by decide) hw hg hn hsf hsp h hlen).mono ?_
    rintro e W' ⟨rfl, h1, h2, vb', h3⟩
    exact ⟨rfl, h1, h2, vb', _, by have := putNd_len h; omega, fun _ => rfl, h3⟩
  · refine (putNode_some w0 W B vb ys c n hw hg hn hsf hsp hok hlen).mono ?_
    rintro e W' ⟨rfl, h1, h2, vb', zs, h3, h4⟩
    exact ⟨rfl, h1, h2, vb', zs, h3, fun q => absurd q h, h4⟩
theorem bes_two (a b : Int) : Oc.bes [a, b] = Oc.be a ++ Oc.be b := by simp [Oc.bes]
theorem take_snocS {β : Type} (f : Gr.Stp → List β) (l : List Gr.Stp) (k : Nat) (h : k < l.length) : (l.take (k + 1)).flatMap f = (l.take k).flatMap f ++ f l[k] := by
  rw [List.take_succ_eq_append_getElem h, List.flatMap_append]
  simp
def WroteS (p : List Gr.Stp) (k : Nat) (X : List UInt8) : Prop := X.length ≤ k * 1010 ∧ ((∀ s ∈ p.take k, Gr.OkB fitsP 0 (Gr.cleanS s).nd) → X = (p.take k).flatMap (Gr.putSt putI))
theorem WroteS.next {p : List Gr.Stp} {k : Nat} {X xs : List UInt8} {kd rs : Int} (h : WroteS p k X) (hk : k < p.length) (h1 : (Gr.cleanS p[k]).kind = kd) (h2 : (if (Gr.cleanS p[k]).reset then (1:Int) else 0) = rs) (h3 : xs.length ≤ 1000) (h4 : Gr.OkB fitsP 0 (Gr.cleanS p[k]).nd → xs = Gr.putNd putI (Gr.cleanS p[k]).nd) :
    WroteS p (k + 1) (X ++ (Oc.be kd ++ Oc.be rs) ++ xs) := by
  refine ⟨?_, fun hall => ?_⟩
  · have := h.1
    simp only [List.length_append, Oc.be_len]
    omega
  · have htk : p.take (k + 1) = p.take k ++ [p[k]] := List.take_succ_eq_append_getElem hk
    rw [take_snocS _ _ _ hk, h.2 fun s hs => hall s (by rw [htk]; exact List.mem_append_left _ hs), h4 (hall _ (by rw [htk]; exact List.mem_append_right _ (List.mem_singleton.2 rfl)))]
    unfold Gr.putSt
    rw [h1, h2]
    simp only [List.append_assoc]
def PlanOut (p : List Gr.Stp) (w : World) (e : Ending) (w' : World) : Prop := ∃ t : List UInt8, e = .returned (str t) ∧ t.length ≤ 10000 ∧ (Gr.OkPl fitsP p → t = Gr.putPl putI p) ∧ Grew w w'
theorem putPlan_any (v : Value) (p : List Gr.Stp) (w : World) (hv : StepsAt w v p) (hs : ∀ s ∈ p, s.nd.frm.length ≤ 100 ∧ s.nd.prog.length ≤ 1000) (h6 : p.length ≤ 6) : Calls Tryz.prog 45 #[v] w (PlanOut p w) := by
  have HV := Lib.hid hv
  have HS := Lib.hid hs
  obtain ⟨a, cap, rfl, hm, -⟩ := hv.openC
  have HW0 : Hid (WriterAt w.heap.size w.heap.size (w.alloc (.cells #[.slice none 0 0] 151)) (.slice none 0 0) []) := Lib.hid ⟨Nat.le_refl _, heap_new_at _ _ _ rfl, OwnAt.nil _⟩
  clear hv hs
  go_enter Tryz.func45, Tryz.ntmps45
  go_wp2_with fail
  refine (writerNum_freshK w _ w.heap.size (.slice none 0 0) [] [(p.length : Int)] [.int .i64 p.length] _ _ _ HW0.out (by repeat (first | with_reducible exact Grew.refl _ | apply Grew.more | apply Grew.alloc | apply Grew.drew | apply Grew.drewN)) rfl (by simp [go_sem]) rfl ?_ (by simp)).mono ?_
  · simp only [List.all_cons, List.all_nil, Bool.and_true]
    exact fits_of (by omega) (by omega)
  rintro e W1 ⟨rfl, hg1, hk1, vb1, hw1⟩
  rw [List.nil_append, be_one] at hw1
  have HW1 := Lib.hid hw1
  have HG1 := Lib.hid hg1
  clear hw1 hg1 hk1
  go_wp2
  go_loopg [13] p.length (fun gg s13 wr => ∃ (k : Nat) (vk : Value) (X : List UInt8), k ≤ p.length ∧ p.length - k ≤ gg ∧ s13 = .int .i64 k ∧ Hid (WroteS p k X) ∧ Hid (WriterAt w.heap.size w.heap.size wr vk (Oc.be p.length ++ X)) ∧ Hid (Grew w wr))
  case atStart => exact ⟨0, vb1, [], Nat.zero_le _, by omega, rfl, Lib.hid ⟨Nat.zero_le _, fun _ => rfl⟩, Lib.hid (by rw [List.append_nil]; exact HW1.out), HG1⟩
  case round =>
    obtain ⟨k, vk, X, hk, hgg, rfl, HX, HWK, HGK⟩ := hrel
    by_cases hlt : k < p.length
    · obtain ⟨a', cap', e, -, hx⟩ := (HV.out.grew HGK.out).openC
      cases e
      obtain ⟨b, off, c, rfl, hb, hn, c0, c1, c2, c3, c4, c5, c6, c7, c8, c9, c10, c11, c12, c13, c14⟩ := hx k hlt
      have hss := HS.out _ (List.getElem_mem hlt)
      have HNX := Lib.hid fun kd rs xs => HX.out.next (kd := kd) (rs := rs) (xs := xs) hlt
      have hXl := HX.out.1
      generalize p[k] = y at *
      have HN := Lib.hid hn
      have HC := Lib.hid fun W (g : Grew wr W) => clean49_any c y W (HN.out.grew g) ⟨by omega, by omega⟩
      have hcs := clean_small hss
      obtain ⟨kd0, rs0, cid, kind, af, cf, ap, cp, par, r0, r1, r2, r3, r4, r5, r6, r7, rfl⟩ := HN.out.lit
      simp only at c0 c1 c2 c3 c4 c5 c6 c7 c8 c9 c10 c11 c12 c13 c14
      clear hx hn
      go_wp2_with fail
      refine (HC.out _ (by repeat (first | with_reducible exact Grew.refl _ | apply Grew.more | apply Grew.alloc | apply Grew.drew | apply Grew.drewN))).mono ?_
      rintro e w1 ⟨d, rfl, hd, hod, R1, n1, rfl⟩
      have hrange := clean_range y
      generalize Gr.cleanS y = z at *
      obtain ⟨kd, rs, id, knd, af1, cf1, ap1, cp1, par1, s0, s1, s2, s3, s4, s5, s6, s7, rfl⟩ := hd.lit
      have hkd := hd.kind
      have hrs := hd.reset
      simp only at hkd hrs hod
      have HOD := Lib.hid hod
      have HDN := Lib.hid hd.nd
      have HKD := Lib.hid hkd
      have HRS := Lib.hid hrs
      have hr1 : 0 ≤ kd := by rw [← hkd]; exact hrange.1
      have hr2 : kd ≤ 5 := by rw [← hkd]; exact hrange.2
      clear hod hd hkd hrs hrange
      obtain ⟨ri, hri⟩ : ∃ ri : Int, (if rs = true then (1 : Int) else 0) = ri := ⟨_, rfl⟩
      have HRI := Lib.hid hri
      have hri2 : 0 ≤ ri ∧ ri ≤ 1 := by rw [← hri]; split <;> exact ⟨by decide, by decide⟩
      obtain ⟨hri3, hri4⟩ := hri2
      have hT : ∀ b, (wr.alloc (.cells #[.int .i64 kd0, .int .i64 cid, .int .i64 kind, .slice af y.nd.frm.length cf, .slice ap y.nd.prog.length cp, .int .i64 par, .int .i64 r0, .int .i64 r1, .int .i64 r2, .int .i64 r3, .int .i64 r4, .int .i64 r5, .int .i64 r6, .int .i64 r7, .bool rs0] 73)).heap.size ≤ b → ((wr.alloc (.cells #[.int .i64 kd, .int .i64 id, .int .i64 knd, .slice af1 z.nd.frm.length cf1, .slice ap1 z.nd.prog.length cp1, .int .i64 par1, .int .i64 s0, .int .i64 s1, .int .i64 s2, .int .i64 s3, .int .i64 s4, .int .i64 s5, .int .i64 s6, .int .i64 s7, .bool rs] 73)).more R1 n1).heap[b]? = ((wr.alloc (.cells #[.int .i64 kd0, .int .i64 cid, .int .i64 kind, .slice af y.nd.frm.length cf, .slice ap y.nd.prog.length cp, .int .i64 par, .int .i64 r0, .int .i64 r1, .int .i64 r2, .int .i64 r3, .int .i64 r4, .int .i64 r5, .int .i64 r6, .int .i64 r7, .bool rs0] 73)).more R1 n1).heap[b]? := fun b hb => heap_more_same (by simp [World.size_alloc]) _ _ _ hb
      have HOD2 : Hid (OwnsNd (wr.heap.size + 1) ((wr.alloc (.cells #[.int .i64 kd, .int .i64 id, .int .i64 knd, .slice af1 z.nd.frm.length cf1, .slice ap1 z.nd.prog.length cp1, .int .i64 par1, .int .i64 s0, .int .i64 s1, .int .i64 s2, .int .i64 s3, .int .i64 s4, .int .i64 s5, .int .i64 s6, .int .i64 s7, .bool rs] 73)).more R1 n1) ⟨id, knd, af1, z.nd.frm.length, cf1, ap1, z.nd.prog.length, cp1, par1, s0, s1, s2, s3, s4, s5, s6, s7⟩ z.nd) := Lib.hid (by
        have h := OwnsNd.to HOD.out (fun b hb _ => hT b hb)
        rw [World.size_alloc] at h
        exact h)
      have HDN2 := Lib.hid (HOD2.out.is HDN.out)
      have HBX := Lib.hid (grew_heap ((Grew.refl _).more R1 n1) (heap_new_at wr (.cells #[.int .i64 kd, .int .i64 id, .int .i64 knd, .slice af1 z.nd.frm.length cf1, .slice ap1 z.nd.prog.length cp1, .int .i64 par1, .int .i64 s0, .int .i64 s1, .int .i64 s2, .int .i64 s3, .int .i64 s4, .int .i64 s5, .int .i64 s6, .int .i64 s7, .bool rs] 73) _ rfl))
      clear hT
      have hBlt := heap_lt HWK.out.2.1
      have hneB : wr.heap.size ≠ w.heap.size := by omega
      cases rs
      · have hri0 : (0 : Int) = ri := by simpa using HRI.out
        subst hri0
        go_wp2_with fail
        refine (writerNum_freshK w ((wr.alloc (.cells #[.int .i64 kd, .int .i64 id, .int .i64 knd, .slice af1 z.nd.frm.length cf1, .slice ap1 z.nd.prog.length cp1, .int .i64 par1, .int .i64 s0, .int .i64 s1, .int .i64 s2, .int .i64 s3, .int .i64 s4, .int .i64 s5, .int .i64 s6, .int .i64 s7, .bool false] 73)).more R1 n1) w.heap.size vk _ [kd, 0] [.int .i64 kd, .int .i64 0] _ _ _ (HWK.out.grew (by repeat (first | with_reducible exact Grew.refl _ | apply Grew.more | apply Grew.alloc | apply Grew.drew | apply Grew.drewN))) (HGK.out.trans (by repeat (first | with_reducible exact Grew.refl _ | apply Grew.more | apply Grew.alloc | apply Grew.drew | apply Grew.drewN))) rfl ?_ rfl ?_ (by simp only [List.length_append, List.length_cons, List.length_nil, Oc.be_len]; omega)).mono ?_
        · simp [go_sem]
        · simp only [List.all_cons, List.all_nil, Bool.and_true, Bool.and_eq_true]
          exact ⟨fits_of (by omega) (by omega), fits_of (by omega) (by omega)⟩
        rintro e W2 ⟨rfl, hg2, hk2, vb2, hw2⟩
        rw [bes_two] at hw2
        have HW2 := Lib.hid hw2
        have HG2 := Lib.hid hg2
        have HOD3 := Lib.hid (OwnsNd.kept HOD2.out hk2 (by omega))
        have HDN3 := Lib.hid (HOD3.out.is HDN2.out)
        have hbx := hk2.cells HBX.out hneB (by decide)
        have HBX3 := Lib.hid hbx
        clear hbx hw2 hg2 hk2
        have x1 := cell_of (o := 1) HBX3.out
        have x2 := cell_of (o := 2) HBX3.out
        have x3 := cell_of (o := 3) HBX3.out
        have x4 := cell_of (o := 4) HBX3.out
        have x5 := cell_of (o := 5) HBX3.out
        have x6 := cell_of (o := 6) HBX3.out
        have x7 := cell_of (o := 7) HBX3.out
        have x8 := cell_of (o := 8) HBX3.out
        have x9 := cell_of (o := 9) HBX3.out
        have x10 := cell_of (o := 10) HBX3.out
        have x11 := cell_of (o := 11) HBX3.out
        have x12 := cell_of (o := 12) HBX3.out
        have x13 := cell_of (o := 13) HBX3.out
        simp at x1 x2 x3 x4 x5 x6 x7 x8 x9 x10 x11 x12 x13
        have px := Pre.mk (heap_lt HBX3.out)
        go_wp2_with fail
        refine (putNode_or w W2 w.heap.size vb2 _ ⟨id, knd, af1, z.nd.frm.length, cf1, ap1, z.nd.prog.length, cp1, par1, s0, s1, s2, s3, s4, s5, s6, s7⟩ z.nd HW2.out HG2.out HDN3.out (HOD3.out.apartF (by omega)) (HOD3.out.apartP (by omega)) hcs.1 (by simp only [List.length_append, Oc.be_len]; omega)).mono ?_
        rintro e W3 ⟨rfl, hg3, hk3, vb3, xs, hx1, hx2, hw3⟩
        have HW3 := Lib.hid hw3
        have HG3 := Lib.hid hg3
        have HX2 := Lib.hid hx2
        clear hw3 hg3 hk3 hx2
        go_wp2
        go_roundg (p.length - (k + 1))
        case measure => omega
        case rel => exact ⟨k + 1, vb3, _, by omega, by omega, by go_num, Lib.hid (HNX.out kd 0 xs HKD.out (by rw [HRS.out]; exact HRI.out) hx1 HX2.out), Lib.hid (by have := HW3.out; simpa only [List.append_assoc] using this), HG3⟩
      · have hri0 : (1 : Int) = ri := by simpa using HRI.out
        subst hri0
        go_wp2_with fail
        refine (writerNum_freshK w ((wr.alloc (.cells #[.int .i64 kd, .int .i64 id, .int .i64 knd, .slice af1 z.nd.frm.length cf1, .slice ap1 z.nd.prog.length cp1, .int .i64 par1, .int .i64 s0, .int .i64 s1, .int .i64 s2, .int .i64 s3, .int .i64 s4, .int .i64 s5, .int .i64 s6, .int .i64 s7, .bool true] 73)).more R1 n1) w.heap.size vk _ [kd, 1] [.int .i64 kd, .int .i64 1] _ _ _ (HWK.out.grew (by repeat (first | with_reducible exact Grew.refl _ | apply Grew.more | apply Grew.alloc | apply Grew.drew | apply Grew.drewN))) (HGK.out.trans (by repeat (first | with_reducible exact Grew.refl _ | apply Grew.more | apply Grew.alloc | apply Grew.drew | apply Grew.drewN))) rfl ?_ rfl ?_ (by simp only [List.length_append, List.length_cons, List.length_nil, Oc.be_len]; omega)).mono ?_
        · simp [go_sem]
        · simp only [List.all_cons, List.all_nil, Bool.and_true, Bool.and_eq_true]
          exact ⟨fits_of (by omega) (by omega), fits_of (by omega) (by omega)⟩
        rintro e W2 ⟨rfl, hg2, hk2, vb2, hw2⟩
        rw [bes_two] at hw2
        have HW2 := Lib.hid hw2
        have HG2 := Lib.hid hg2
        have HOD3 := Lib.hid (OwnsNd.kept HOD2.out hk2 (by omega))
        have HDN3 := Lib.hid (HOD3.out.is HDN2.out)
        have hbx := hk2.cells HBX.out hneB (by decide)
        have HBX3 := Lib.hid hbx
        clear hbx hw2 hg2 hk2
        have x1 := cell_of (o := 1) HBX3.out
        have x2 := cell_of (o := 2) HBX3.out
        have x3 := cell_of (o := 3) HBX3.out
        have x4 := cell_of (o := 4) HBX3.out
        have x5 := cell_of (o := 5) HBX3.out
        have x6 := cell_of (o := 6) HBX3.out
        have x7 := cell_of (o := 7) HBX3.out
        have x8 := cell_of (o := 8) HBX3.out
        have x9 := cell_of (o := 9) HBX3.out
        have x10 := cell_of (o := 10) HBX3.out
        have x11 := cell_of (o := 11) HBX3.out
        have x12 := cell_of (o := 12) HBX3.out
        have x13 := cell_of (o := 13) HBX3.out
        simp at x1 x2 x3 x4 x5 x6 x7 x8 x9 x10 x11 x12 x13
        have px := Pre.mk (heap_lt HBX3.out)
        go_wp2_with fail
        refine (putNode_or w W2 w.heap.size vb2 _ ⟨id, knd, af1, z.nd.frm.length, cf1, ap1, z.nd.prog.length, cp1, par1, s0, s1, s2, s3, s4, s5, s6, s7⟩ z.nd HW2.out HG2.out HDN3.out (HOD3.out.apartF (by omega)) (HOD3.out.apartP (by omega)) hcs.1 (by simp only [List.length_append, Oc.be_len]; omega)).mono ?_
        rintro e W3 ⟨rfl, hg3, hk3, vb3, xs, hx1, hx2, hw3⟩
        have HW3 := Lib.hid hw3
        have HG3 := Lib.hid hg3
        have HX2 := Lib.hid hx2
        clear hw3 hg3 hk3 hx2
        go_wp2
        go_roundg (p.length - (k + 1))
        case measure => omega
        case rel => exact ⟨k + 1, vb3, _, by omega, by omega, by go_num, Lib.hid (HNX.out kd 1 xs HKD.out (by rw [HRS.out]; exact HRI.out) hx1 HX2.out), Lib.hid (by have := HW3.out; simpa only [List.append_assoc] using this), HG3⟩
    · obtain rfl : k = p.length := by omega
      have hX := HX.out
      go_wp2_with (go_at_call 97; refine (octOut_any _ _ _ _ _ HWK.out (by have := HX.out.1; simp only [List.length_append, Oc.be_len]; omega)).mono ?_; rintro e w6 ⟨rfl, R6, n6, rfl⟩)
      go_ret
      refine ⟨Oc.be p.length ++ X, rfl, by have := hX.1; simp only [List.length_append, Oc.be_len]; omega, fun h => ?_, HGK.out.trans (by repeat (first | with_reducible exact Grew.refl _ | apply Grew.more | apply Grew.alloc | apply Grew.drew | apply Grew.drewN))⟩
      unfold Gr.putPl
      rw [hX.2 fun s hs => (h.2.2 s (by rw [List.take_length] at hs; exact hs)).2, List.take_length]

theorem enters113 : ∀ args w, (callFunc 113 args).run Tryz.prog w = .ok (.enter 113 args) w := enters_of Tryz.func113 (by kernel_rfl) rfl
theorem step1_pred (id : Int) (X : Nat) (w : World) (hX : Pre X w) (hc : w.cell? ⟨X, 1, none⟩ = some (.int .i64 id)) : PredN 113 #[.pointer (some ⟨X, 0, none⟩)] (fun n => n.id == id) w := by
  intro W c n g hn
  obtain ⟨R, N, rfl⟩ := g
  have hid := hn.id
  have HI := Lib.hid hid
  clear hn hid
  obtain ⟨cid, kind, af, nf, cf, ap, np, cp, par, r0, r1, r2, r3, r4, r5, r6, r7⟩ := c
  have hb : (n.id == id) = (cid == id) := by rw [HI.out]
  show Calls Tryz.prog 113 #[.agg #[.int .i64 cid, .int .i64 kind, .slice af nf cf, .slice ap np cp, .int .i64 par, .int .i64 r0, .int .i64 r1, .int .i64 r2, .int .i64 r3, .int .i64 r4, .int .i64 r5, .int .i64 r6, .int .i64 r7], .pointer (some ⟨X, 0, none⟩)] _ (Gives (.bool (n.id == id)) _)
  rw [hb]
  clear HI hb
  go_enter Tryz.func113, Tryz.ntmps113
  go_wp2
  go_ret
  refine ⟨rfl, ?_⟩
  repeat (first | with_reducible exact Grew.refl _ | apply Grew.more | apply Grew.alloc | apply Grew.drew | apply Grew.drewN)
theorem Work.setIx {w0 W : World} {B : Nat} {v : Value} {lc : List NdC} {l : List Gr.Nd} {st : StC} {s : Gr.Stp} {ix : Int} (h : Work w0 W B v lc l st s ix) (j : Int) : Work w0 (W.setCell ⟨B, 16, none⟩ (.int .i64 j)) B v lc l st s j := by
  have ho : Oth W (W.setCell ⟨B, 16, none⟩ (.int .i64 j)) := Oth.set h.blk (.inr rfl)
  have o2 := h.sto.toN ho
  refine ⟨?_, ?_, h.inn.oth ho, { h.stp with nd := o2.is h.stp.nd }, o2, h.g.set h.lb _, h.lb⟩
  · rw [set_self h.blk]
    congr 2
  · exact OwnAt.same h.own fun q hq => set_other fun e => OwnAt.other h.own h.blk (by decide) (e ▸ hq)
theorem Work.made {w0 W : World} {B : Nat} {v : Value} {lc : List NdC} {l : List Gr.Nd} {st : StC} {s : Gr.Stp} {C : Array Value} (hB : B = W.heap.size) (hg : Grew w0 W) (ho : NodesOwn w0.heap.size W v lc) (hn : NodesIn w0.heap.size W lc l) (hs : StepIs W st s) (h2 : OwnsNd w0.heap.size W st.c s.nd) (hC : C = (wkC v st 0).toArray) : Work w0 (W.alloc (.cells C 179)) B v lc l st s 0 := by
  subst hC
  have g : Grew W (W.alloc (.cells (wkC v st 0).toArray 179)) := (Grew.refl _).alloc _
  exact ⟨heap_new_at _ _ _ hB, ho.grew g, hn.grew g, hs.grew g, h2.grew g, hg.trans g, by rw [hB]; exact hg.below.size⟩
theorem NodesIn.low {base base' : Nat} {w : World} {lc : List NdC} {l : List Gr.Nd} (h : NodesIn base w lc l) (hb : base' ≤ base) : NodesIn base' w lc l :=
  Rel.mono (fun c n ⟨h1, h2⟩ => ⟨h1, OwnAt.low h2.1 hb, OwnAt.low h2.2 hb⟩) h
def smallS (s : Gr.Stp) : Prop := s.nd.frm.length ≤ 1000 ∧ s.nd.prog.length ≤ 1000
theorem small_set {l : List Gr.Nd} {i : Nat} {n : Gr.Nd} (h : Small l) (hn : n.frm.length ≤ 1000 ∧ n.prog.length ≤ 1000) : Small (l.set i n) := fun m hm => by
  rcases List.mem_or_eq_of_mem_set hm with q | rfl
  · exact h m q
  · exact hn
theorem work_small {l : List Gr.Nd} {s : Gr.Stp} (h : Small l) (hs : smallS s) : Small (workE l s).2 ∧ (workE l s).2.length ≤ l.length + 1 := by
  have hnil : Small ([] : List Gr.Nd) := fun m hm => by cases hm
  have hcl : (Gr.cleanS s).nd.frm.length ≤ 1000 ∧ (Gr.cleanS s).nd.prog.length ≤ 1000 := by
    unfold Gr.cleanS
    repeat' split
    all_goals first | exact hs | exact ⟨by simp, hs.2⟩ | exact ⟨hs.1, by simp⟩ | simp
  unfold workE
  split
  · unfold addE
    repeat' split
    · exact ⟨hnil, by simp⟩
    · exact ⟨hnil, by simp⟩
    · refine ⟨fun m hm => ?_, by simp⟩
      rcases List.mem_append.1 hm with q | q
      · exact h m q
      · rw [List.mem_singleton.1 q]; exact hcl
  · split
    · exact ⟨hnil, by simp⟩
    · split
      · exact ⟨hnil, by simp⟩
      · rename_i n hn
        have hm := h n (List.mem_of_getElem? hn)
        unfold chgE swapE
        repeat' split
        all_goals first
          | exact ⟨hnil, by simp⟩
          | exact ⟨small_set h ⟨hm.1, hcl.2⟩, by simp⟩
          | exact ⟨small_set h ⟨hcl.1, hm.2⟩, by simp⟩
          | exact ⟨small_set h hm, by simp⟩
          | refine ⟨fun m hq => ?_, by simp; omega⟩
            rcases List.mem_append.1 hq with q | q
            · exact h m (List.mem_of_mem_take q)
            · exact h m (List.mem_of_mem_drop q)
theorem clean_kindP {s : Gr.Stp} (h : 1 ≤ s.kind ∧ s.kind ≤ 5) : (Gr.cleanS s).kind = s.kind := by
  unfold Gr.cleanS
  rcases (show s.kind = 1 ∨ s.kind = 2 ∨ s.kind = 3 ∨ s.kind = 4 ∨ s.kind = 5 by omega) with e | e | e | e | e <;> simp [e]
theorem chg_none (w0 W : World) (B : Nat) (v : Value) (lc : List NdC) (l : List Gr.Nd) (st : StC) (s : Gr.Stp) (h : Work w0 W B v lc l st s (-1)) : Calls Tryz.prog 115 #[.pointer (some ⟨B, 0, none⟩)] W (WkPost w0 B st s (-1) (12, []) W) := by
  have H := Lib.hid h
  have x16 := cell_of (o := 16) h.blk
  have pB := Pre.mk (heap_lt h.blk)
  simp [wkC, encSt] at x16
  clear h
  go_enter Tryz.func115, Tryz.ntmps115
  go_wp2
  go_ret
  exact ⟨rfl, fun q => absurd q (by decide), H.out.g.trans (by repeat (first | with_reducible exact Grew.refl _ | apply Grew.more | apply Grew.alloc | apply Grew.drew | apply Grew.drewN))⟩
theorem change_any (w0 W : World) (B : Nat) (v : Value) (lc : List NdC) (l : List Gr.Nd) (st : StC) (s z : Gr.Stp) (hz : z = Gr.cleanS s) (h : Work w0 W B v lc l st z (findI l s.nd.id)) (hl : l.length ≤ 100) (h2 : s.kind ≠ 2) (hk : 1 ≤ s.kind ∧ s.kind ≤ 5) :
    Calls Tryz.prog 115 #[.pointer (some ⟨B, 0, none⟩)] W (WkPost w0 B st z (findI l s.nd.id) (workE l s) W) := by
  subst hz
  unfold workE
  rw [if_neg h2]
  cases hf : Gr.find l s.nd.id with
  | none =>
    have hfi : findI l s.nd.id = -1 := by unfold findI; rw [hf]
    rw [hfi] at h ⊢
    exact chg_none w0 W B v lc l st _ h
  | some i =>
    obtain ⟨hi, hid⟩ := find_at hf
    have hfi : findI l s.nd.id = i := by unfold findI; rw [hf]
    rw [hfi] at h ⊢
    simp only [List.getElem?_eq_getElem hi]
    have hck := clean_kindP hk
    have hlen := Rel.len h.inn
    rcases OwnAt.form h.own with ⟨-, e⟩ | ⟨b, cap, rfl, -⟩
    · rw [e] at hlen
      simp at hlen
      omega
    rcases (show s.kind = 1 ∨ s.kind = 3 ∨ s.kind = 4 ∨ s.kind = 5 by omega) with q | q | q | q
    · exact chg1 w0 W B b _ cap i lc l st _ h hi hl (by rw [hck, q])
    · exact chg3 w0 W B b _ cap i lc l st _ h hi hl (by rw [hck, q])
    · exact chg4 w0 W B b _ cap i lc l st _ h hi hl (by rw [hck, q])
    · exact chg5 w0 W B b _ cap i lc l st _ h hi hl (by rw [hck, q])
def StepPost (r : Int × List Gr.Nd) (w : World) (e : Ending) (w' : World) : Prop := Grew w w' ∧ ((r.1 ≠ 0 ∧ e = .returned (.tuple #[.slice none 0 0, .int .i64 r.1])) ∨ (r.1 = 0 ∧ ∃ v lc l', e = .returned (.tuple #[v, .int .i64 0]) ∧ NodesOwn w.heap.size w' v lc ∧ NodesIn w.heap.size w' lc l' ∧ l'.Perm r.2 ∧ l'.Pairwise fun a b => a.id ≤ b.id))
theorem step_bad (v : Value) (l : List Gr.Nd) (c : StC) (s : Gr.Stp) (w : World) (hv : NodesAt w v l) (hs : Small l) (hst : StepIs w c s) (hb : checkR l ≠ 0 ∨ s.kind < 1 ∨ 5 < s.kind) : Calls Tryz.prog 51 #[v, .agg #[.int .i64 c.kind, .int .i64 c.c.id, .int .i64 c.c.kind, .slice c.c.af c.c.nf c.c.cf, .slice c.c.ap c.c.np c.c.cp, .int .i64 c.c.par, .int .i64 c.c.r0, .int .i64 c.c.r1, .int .i64 c.c.r2, .int .i64 c.c.r3, .int .i64 c.c.r4, .int .i64 c.c.r5, .int .i64 c.c.r6, .int .i64 c.c.r7, .bool c.reset]] w (StepPost (Gr.stepE checkR l s) w) := by
  have HCK := Lib.hid fun W2 (g : Grew w W2) => check_graph v l W2 (hv.grew g) hs
  have hk := hst.kind
  obtain ⟨a, cap, rfl, hm, -⟩ := hv.openC
  clear hv hs
  obtain ⟨kd, ⟨id, kind, af, nf, cf, ap, np, cp, par, r0, r1, r2, r3, r4, r5, r6, r7⟩, rs⟩ := c
  simp only at hk
  by_cases h0 : checkR l ≠ 0
  · have he : Gr.stepE checkR l s = (10, []) := if_pos h0
    rw [he]
    obtain ⟨r, hr⟩ : ∃ r, checkR l = r := ⟨_, rfl⟩
    rw [hr] at HCK h0
    have hne : (r != 0) = true := by rw [bne_iff_ne]; exact h0
    clear hr h0 hb he hst hk
    go_enter Tryz.func51, Tryz.ntmps51
    go_wp2_with (go_at_call 8; refine (HCK.out _ (by repeat (first | with_reducible exact Grew.refl _ | apply Grew.more | apply Grew.alloc | apply Grew.drew | apply Grew.drewN))).mono ?_; rintro e w1 ⟨rfl, R3, n3, rfl⟩)
    refine bodyPost_ret (v := .tuple #[.slice none 0 0, .int .i64 10]) (by simp [results, Tryz.results51, go_sem]) rfl ⟨by repeat (first | with_reducible exact Grew.refl _ | apply Grew.more | apply Grew.alloc | apply Grew.drew | apply Grew.drewN), .inl ⟨by decide, rfl⟩⟩
  · have h1 : s.kind < 1 ∨ 5 < s.kind := hb.resolve_left h0
    have he : Gr.stepE checkR l s = (11, []) := by unfold Gr.stepE; rw [if_neg h0, if_pos h1]
    rw [he]
    have h00 : checkR l = 0 := by simpa using h0
    rw [h00] at HCK
    rw [hk] at h1
    clear h00 h0 hb he hst hk
    rcases h1 with h1 | h1
    · go_enter Tryz.func51, Tryz.ntmps51
      go_wp2_with (go_at_call 8; refine (HCK.out _ (by repeat (first | with_reducible exact Grew.refl _ | apply Grew.more | apply Grew.alloc | apply Grew.drew | apply Grew.drewN))).mono ?_; rintro e w1 ⟨rfl, R3, n3, rfl⟩)
      refine bodyPost_ret (v := .tuple #[.slice none 0 0, .int .i64 11]) (by simp [results, Tryz.results51, go_sem]) rfl ⟨by repeat (first | with_reducible exact Grew.refl _ | apply Grew.more | apply Grew.alloc | apply Grew.drew | apply Grew.drewN), .inl ⟨by decide, rfl⟩⟩
    · have h1' : ¬ (kd < 1) := by omega
      go_enter Tryz.func51, Tryz.ntmps51
      go_wp2_with (go_at_call 8; refine (HCK.out _ (by repeat (first | with_reducible exact Grew.refl _ | apply Grew.more | apply Grew.alloc | apply Grew.drew | apply Grew.drewN))).mono ?_; rintro e w1 ⟨rfl, R3, n3, rfl⟩)
      refine bodyPost_ret (v := .tuple #[.slice none 0 0, .int .i64 11]) (by simp [results, Tryz.results51, go_sem]) rfl ⟨by repeat (first | with_reducible exact Grew.refl _ | apply Grew.more | apply Grew.alloc | apply Grew.drew | apply Grew.drewN), .inl ⟨by decide, rfl⟩⟩
end Go.Proofs.YtpbohimddmploaaGreat
