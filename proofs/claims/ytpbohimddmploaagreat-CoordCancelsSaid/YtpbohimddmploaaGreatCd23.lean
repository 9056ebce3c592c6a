import Derived.Test.YtpbohimddmploaaGreatCd11
import Derived.Test.YtpbohimddmploaaGreatCd21
import Derived.Test.YtpbohimddmploaaGreatCd6
import Derived.Test.YtpbohimddmploaaGreatCd10
set_option linter.unusedSimpArgs false
set_option linter.unusedVariables false
set_option maxRecDepth 100000
set_option maxHeartbeats 64000000
namespace Go.Proofs.YtpbohimddmploaaGreat
open Go.RowKit Ga

def fitsP (p : List Vm.Ins) : Prop := Co.fitsI p = true
theorem be_one (x : Int) : Oc.bes [x] = Oc.be x := by simp [Oc.bes]
theorem be_three (x y z : Int) : Oc.bes [x, y, z] = Oc.be x ++ (Oc.be y ++ Oc.be z) := by simp [Oc.bes]
theorem KeptW.cells {base B q : Nat} {W W' : World} {c : Array Value} {t : TypeId} (k : KeptW base B W W') (h : W.heap[q]? = some (.cells c t)) (hn : q ≠ B) (ht : t ≠ 5) : W'.heap[q]? = some (.cells c t) := by
  rw [k.2 q (heap_lt h) hn (.inr ⟨_, _, _, h, ht⟩)]; exact h
def Apart (base B : Nat) (W : World) (v : Value) : Prop := ∀ b off, (∃ n c, v = .slice (some ⟨b, off, none⟩) n c) → Safe base b W ∧ b ≠ B
theorem Apart.kept {α : Type} {k : Nat} {enc : α → List Value} {base B : Nat} {W W' : World} {v : Value} {l : List α} (h : Apart base B W v) (hk : KeptW base B W W') (hr : RowsAt k enc W v l) (hlt : ∀ b off, (∃ n c, v = .slice (some ⟨b, off, none⟩) n c) → l ≠ [] → b < W.heap.size) : RowsAt k enc W' v l := by
  cases l with
  | nil =>
    obtain ⟨a, cap, rfl, hm, -⟩ := hr
    exact ⟨a, cap, rfl, hm, fun h => absurd rfl h⟩
  | cons x l => exact RowsAt.sameBlock hr fun b off hv => hk.2 b (hlt b off hv (by simp)) (h b off hv).2 (h b off hv).1
theorem Apart.to {base B : Nat} {W W' : World} {v : Value} (h : Apart base B W v) (hk : KeptW base B W W') : Apart base B W' v := fun b off hv => by
  obtain ⟨h1, h2⟩ := h b off hv
  refine ⟨?_, h2⟩
  rcases h1 with h1 | ⟨c, t, f, hc, ht⟩
  · exact .inl h1
  · exact .inr ⟨c, t, f, by rw [hk.2 b (heap_lt hc) h2 (.inr ⟨c, t, f, hc, ht⟩)]; exact hc, ht⟩
theorem ints_lt {W : World} {v : Value} {l : List Int} (h : IntsAt W v l) : ∀ b off, (∃ n c, v = .slice (some ⟨b, off, none⟩) n c) → l ≠ [] → b < W.heap.size := by
  rintro b off ⟨n, c, rfl⟩ hne
  exact rows_lt (k := 0) h (List.length_pos_iff.2 hne)
theorem vals_lt {W : World} {v : Value} {l : List Val} (h : ValsAt W v l) : ∀ b off, (∃ n c, v = .slice (some ⟨b, off, none⟩) n c) → l ≠ [] → b < W.heap.size := by
  rintro b off ⟨n, c, rfl⟩ hne
  exact rows_lt (k := 1) h (List.length_pos_iff.2 hne)
theorem bes_len3 (x y z : Int) : (Oc.bes [x, y, z]).length = 12 := by rw [Oc.bes_len]; rfl
theorem putI_len (p : List Val) (h : Co.fitsI p = true) : (putI p).length ≤ 200 := by
  obtain ⟨h24, _⟩ := Co.fits_parts h
  unfold putI
  rw [List.length_append, Oc.be_len, Oc.bes_len, nums_len]
  omega
theorem fits_of {x : Int} (h0 : -2147483648 ≤ x) (h1 : x ≤ 2147483647) : Oc.fitsN x = true := by unfold Oc.fitsN; simp; omega
def PutPost (w0 W : World) (B : Nat) (zs : List UInt8) (e : Ending) (W' : World) : Prop := e = .returned (.tuple #[]) ∧ Grew w0 W' ∧ KeptW w0.heap.size B W W' ∧ ∃ vb', WriterAt w0.heap.size B W' vb' zs
theorem route_box {W : World} {q : Nat} {t : TypeId} {id kind par r0 r1 r2 r3 r4 r5 r6 r7 : Int} {vf vp : Value} (h : W.heap[q]? = some (.cells #[.int .i64 id, .int .i64 kind, vf, vp, .int .i64 par, .int .i64 r0, .int .i64 r1, .int .i64 r2, .int .i64 r3, .int .i64 r4, .int .i64 r5, .int .i64 r6, .int .i64 r7] t)) : IntsAt W (.slice (some ⟨q, 5, none⟩) 8 8) [r0, r1, r2, r3, r4, r5, r6, r7] := by
  refine ⟨_, 8, rfl, (by unfold maxLen; simp), fun _ => ⟨_, _, rfl, fun i x hi j u hu => ?_⟩⟩
  rw [cell_of h]
  match j, hu with
  | 0, hu =>
    simp at hu
    subst hu
    match i, hi with
    | 0, hi => simp at hi; subst hi; rfl
    | 1, hi => simp at hi; subst hi; rfl
    | 2, hi => simp at hi; subst hi; rfl
    | 3, hi => simp at hi; subst hi; rfl
    | 4, hi => simp at hi; subst hi; rfl
    | 5, hi => simp at hi; subst hi; rfl
    | 6, hi => simp at hi; subst hi; rfl
    | 7, hi => simp at hi; subst hi; rfl
    | i + 8, hi => simp at hi
  | j + 1, hu => simp at hu
theorem putNd_eq (ys : List UInt8) (n : Gr.Nd) : ((((ys ++ Oc.bes [n.id, n.kind, n.frm.length]) ++ Oc.bes n.frm) ++ putI n.prog) ++ Oc.bes [n.par]) ++ Oc.bes n.route = ys ++ Gr.putNd putI n := by
  rw [be_three, be_one]
  unfold Gr.putNd
  simp only [List.append_assoc]
theorem putNode_any (w0 W : World) (B : Nat) (vb : Value) (ys : List UInt8) (c : NdC) (n : Gr.Nd) (lp : Int) (hlp : -2147483648 ≤ lp) (hw : WriterAt w0.heap.size B W vb ys) (hg : Grew w0 W) (hn : NodeIs W c n) (hsf : Apart w0.heap.size B W c.vf) (hsp : Apart w0.heap.size B W c.vp) (hok : Gr.OkB fitsP lp n) (hlen : ys.length ≤ 8000) :
    Calls Tryz.prog 109 #[.pointer (some ⟨B, 0, none⟩), .agg #[.int .i64 c.id, .int .i64 c.kind, .slice c.af c.nf c.cf, .slice c.ap c.np c.cp, .int .i64 c.par, .int .i64 c.r0, .int .i64 c.r1, .int .i64 c.r2, .int .i64 c.r3, .int .i64 c.r4, .int .i64 c.r5, .int .i64 c.r6, .int .i64 c.r7]] W (PutPost w0 W B (ys ++ Gr.putNd putI n)) := by
  obtain ⟨id, kind, af, cf, ap, cp, par, r0, r1, r2, r3, r4, r5, r6, r7, rfl⟩ := hn.lit
  have hr8 := hn.route
  simp only at hr8
  have HW := Lib.hid hw
  have HG := Lib.hid hg
  have HN := Lib.hid hn
  have HSF := Lib.hid hsf
  have HSP := Lib.hid hsp
  have HOK := Lib.hid hok
  have HR8 := Lib.hid hr8
  have hBlt := (Array.getElem?_eq_some_iff.1 hw.2.1).1
  have hneB : W.heap.size ≠ B := by omega
  clear hw hg hn hsf hsp hok hr8
  have hbx0 : (W.alloc (.cells #[.int .i64 id, .int .i64 kind, .slice af n.frm.length cf, .slice ap n.prog.length cp, .int .i64 par, .int .i64 r0, .int .i64 r1, .int .i64 r2, .int .i64 r3, .int .i64 r4, .int .i64 r5, .int .i64 r6, .int .i64 r7] 56)).heap[W.heap.size]? = some (.cells #[.int .i64 id, .int .i64 kind, .slice af n.frm.length cf, .slice ap n.prog.length cp, .int .i64 par, .int .i64 r0, .int .i64 r1, .int .i64 r2, .int .i64 r3, .int .i64 r4, .int .i64 r5, .int .i64 r6, .int .i64 r7] 56) := heap_new_at W _ _ rfl
  have HBX0 := Lib.hid hbx0
  clear hbx0
  show Calls Tryz.prog 109 #[.pointer (some ⟨B, 0, none⟩), .agg #[.int .i64 id, .int .i64 kind, .slice af n.frm.length cf, .slice ap n.prog.length cp, .int .i64 par, .int .i64 r0, .int .i64 r1, .int .i64 r2, .int .i64 r3, .int .i64 r4, .int .i64 r5, .int .i64 r6, .int .i64 r7]] W _
  go_enter Tryz.func109, Tryz.ntmps109
  go_wp2_with fail
  refine (writerNum_freshK w0 (W.alloc (.cells #[.int .i64 id, .int .i64 kind, .slice af n.frm.length cf, .slice ap n.prog.length cp, .int .i64 par, .int .i64 r0, .int .i64 r1, .int .i64 r2, .int .i64 r3, .int .i64 r4, .int .i64 r5, .int .i64 r6, .int .i64 r7] 56)) B vb ys [id, kind, n.frm.length] [.int .i64 id, .int .i64 kind, .int .i64 n.frm.length] _ _ _ (HW.out.grew (by repeat (first | with_reducible exact Grew.refl _ | apply Grew.more | apply Grew.alloc | apply Grew.drew | apply Grew.drewN))) (HG.out.alloc _) rfl (by simp [go_sem]) rfl ?_ (by simp; omega)).mono ?_
  · have h1 := HOK.out.i
    have h2 := HOK.out.k
    have h3 := HOK.out.m
    have h4 := HN.out.id
    have h5 := HN.out.kind
    simp only at h4 h5
    simp only [List.all_cons, List.all_nil, Bool.and_true, Bool.and_eq_true]
    exact ⟨fits_of (by omega) (by omega), fits_of (by omega) (by omega), fits_of (by omega) (by omega)⟩
  rintro e W1 ⟨rfl, hg1, hk1, vb1, hw1⟩
  have HW1 := Lib.hid hw1
  have HG1 := Lib.hid hg1
  have HK1 := Lib.hid ((KeptW.ofGrew ((Grew.refl W).alloc _)).trans hk1)
  have hbx1 := hk1.cells HBX0.out hneB (by decide)
  have HBX1 := Lib.hid hbx1
  clear hw1 hg1 hk1
  have x2 := cell_of (o := 2) HBX1.out
  simp at x2
  have px2 := Pre.mk (heap_lt HBX1.out)
  have hl1 := bes_len3 id kind n.frm.length
  have hfl := HOK.out.m
  have HL1 := Lib.hid hl1
  clear hl1
  go_wp2_with fail
  refine (writerNum_keep w0 W1 B vb1 _ _ n.frm HW1.out HG1.out (HSF.out.kept HK1.out HN.out.f (ints_lt HN.out.f)) (HSF.out.to HK1.out) (List.all_eq_true.2 fun x hx => ?_) (by rw [List.length_append, HL1.out]; omega)).mono ?_
  · have := HOK.out.f x hx
    exact fits_of (by omega) (by omega)
  rintro e W2 ⟨rfl, hg2, hk2, vb2, hw2⟩
  have HW2 := Lib.hid hw2
  have HG2 := Lib.hid hg2
  have HK2 := Lib.hid (HK1.out.trans hk2)
  have hbx2 := hk2.cells HBX1.out hneB (by decide)
  have HBX2 := Lib.hid hbx2
  clear hw2 hg2 hk2 hbx2 x2 px2
  have x3 := cell_of (o := 3) HBX2.out
  simp at x3
  have px3 := Pre.mk (heap_lt HBX2.out)
  go_wp2_with fail
  refine (codePut_keep w0 W2 B vb2 _ _ n.prog HW2.out HG2.out (HSP.out.kept HK2.out HN.out.p (vals_lt HN.out.p)) (HSP.out.to HK2.out) HOK.out.p (by rw [List.length_append, List.length_append, HL1.out, Oc.bes_len]; omega)).mono ?_
  rintro e W3 ⟨rfl, hg3, hk3, vb3, hw3⟩
  have HW3 := Lib.hid hw3
  have HG3 := Lib.hid hg3
  have HK3 := Lib.hid (HK2.out.trans hk3)
  have hbx3 := hk3.cells HBX2.out hneB (by decide)
  have HBX3 := Lib.hid hbx3
  have hpl := putI_len n.prog HOK.out.p
  clear hw3 hg3 hk3 hbx3 x3 px3
  have x4 := cell_of (o := 4) HBX3.out
  simp at x4
  have px4 := Pre.mk (heap_lt HBX3.out)
  go_wp2_with fail
  refine (writerNum_freshK w0 W3 B vb3 _ [par] [.int .i64 par] _ _ _ HW3.out HG3.out rfl (by simp [go_sem]) rfl ?_ (by simp only [List.length_append, HL1.out, Oc.bes_len, List.length_cons, List.length_nil]; omega)).mono ?_
  · have h1 := HOK.out.r
    have h4 := HN.out.par
    simp only at h4
    simp only [List.all_cons, List.all_nil, Bool.and_true]
    exact fits_of (by omega) (by omega)
  rintro e W4 ⟨rfl, hg4, hk4, vb4, hw4⟩
  have HW4 := Lib.hid hw4
  have HG4 := Lib.hid hg4
  have HK4 := Lib.hid (HK3.out.trans hk4)
  have hbx4 := hk4.cells HBX3.out hneB (by decide)
  have HBX4 := Lib.hid hbx4
  clear hw4 hg4 hk4 hbx4 x4 px4
  have px5 := Pre.mk (heap_lt HBX4.out)
  go_wp2_with fail
  refine (writerNum_keep w0 W4 B vb4 _ _ [r0, r1, r2, r3, r4, r5, r6, r7] HW4.out HG4.out (route_box HBX4.out) ?_ (List.all_eq_true.2 fun x hx => ?_) (by simp only [List.length_append, HL1.out, Oc.bes_len, List.length_cons, List.length_nil]; omega)).mono ?_
  · rintro b off ⟨m, k, e⟩
    cases e
    exact ⟨.inr ⟨_, _, _, HBX4.out, by decide⟩, hneB⟩
  · rw [← HR8.out] at hx
    have := HOK.out.o x hx
    exact fits_of (by omega) (by omega)
  rintro e W5 ⟨rfl, hg5, hk5, vb5, hw5⟩
  have HW5 := Lib.hid hw5
  have HG5 := Lib.hid hg5
  have HK5 := Lib.hid (HK4.out.trans hk5)
  clear hw5 hg5 hk5
  go_wp2
  go_end0
  refine ⟨rfl, HG5.out, HK5.out, vb5, ?_⟩
  have h1 := HN.out.id
  have h2 := HN.out.kind
  have h3 := HN.out.par
  simp only at h1 h2 h3
  rw [← putNd_eq, h1, h2, h3, HR8.out]
  exact HW5.out

theorem OwnsNd.kept {base base0 B : Nat} {W W' : World} {c : NdC} {n : Gr.Nd} (o : OwnsNd base W c n) (hk : KeptW base0 B W W') (hB : B < base) : OwnsNd base W' c n := by
  refine ⟨OwnAt.same o.1 fun b h => ?_, OwnAt.same o.2 fun b h => ?_⟩
  · obtain ⟨h1, cs, h2⟩ := OwnAt.block o.1 h
    exact hk.2 b (heap_lt h2) (by omega) (.inr ⟨_, _, _, h2, by decide⟩)
  · obtain ⟨h1, cs, h2⟩ := OwnAt.block o.2 h
    exact hk.2 b (heap_lt h2) (by omega) (.inr ⟨_, _, _, h2, by decide⟩)
theorem NodesOwn.kept {base base0 B : Nat} {W W' : World} {v : Value} {lc : List NdC} (o : NodesOwn base W v lc) (hk : KeptW base0 B W W') (hB : B < base) : NodesOwn base W' v lc :=
  OwnAt.same o fun b h => by
    obtain ⟨h1, cs, h2⟩ := OwnAt.block o h
    exact hk.2 b (heap_lt h2) (by omega) (.inr ⟨_, _, _, h2, by decide⟩)
theorem NodesIn.kept {base base0 B : Nat} {W W' : World} {lc : List NdC} {l : List Gr.Nd} (h : NodesIn base W lc l) (hk : KeptW base0 B W W') (hB : B < base) : NodesIn base W' lc l :=
  Rel.mono (fun c n ⟨h1, h2⟩ => ⟨(h2.kept hk hB).is h1, h2.kept hk hB⟩) h
theorem OwnsNd.apartF {base base0 B : Nat} {W : World} {c : NdC} {n : Gr.Nd} (o : OwnsNd base W c n) (hB : B < base) : Apart base0 B W c.vf := by
  rintro b off ⟨m, k, e⟩
  have h : c.vf.ownBlock = some b := by rw [e]; rfl
  obtain ⟨h1, cs, h2⟩ := OwnAt.block o.1 h
  exact ⟨.inr ⟨_, _, _, h2, by decide⟩, by omega⟩
theorem OwnsNd.apartP {base base0 B : Nat} {W : World} {c : NdC} {n : Gr.Nd} (o : OwnsNd base W c n) (hB : B < base) : Apart base0 B W c.vp := by
  rintro b off ⟨m, k, e⟩
  have h : c.vp.ownBlock = some b := by rw [e]; rfl
  obtain ⟨h1, cs, h2⟩ := OwnAt.block o.2 h
  exact ⟨.inr ⟨_, _, _, h2, by decide⟩, by omega⟩
theorem putNd_len {n : Gr.Nd} {lp : Int} (h : Gr.OkB fitsP lp n) : (Gr.putNd putI n).length ≤ 300 := by
  have h1 := putI_len n.prog h.p
  have h2 := h.m
  have h3 := h.ol
  unfold Gr.putNd
  simp only [List.length_append, Oc.be_len, Oc.bes_len]
  omega
theorem flat_len {lp : Int} : ∀ {l : List Gr.Nd}, (∀ n ∈ l, Gr.OkB fitsP lp n) → (l.flatMap (Gr.putNd putI)).length ≤ l.length * 300
  | [], _ => by simp
  | n :: l, h => by
    have h1 := putNd_len (h n (List.mem_cons_self ..))
    have h2 := flat_len (l := l) fun m hm => h m (List.mem_cons_of_mem _ hm)
    rw [List.flatMap_cons, List.length_append, List.length_cons]
    omega
theorem take_flat {β : Type} (f : Gr.Nd → List β) (l : List Gr.Nd) (k : Nat) (h : k < l.length) : (l.take (k + 1)).flatMap f = (l.take k).flatMap f ++ f l[k] := by
  rw [List.take_succ_eq_append_getElem h, List.flatMap_append]
  simp
theorem NodesIn.openO {base : Nat} {w : World} {v : Value} {lc : List NdC} {l : List Gr.Nd} (h : NodesIn base w lc l) (ho : NodesOwn base w v lc) : ∃ a cap, v = .slice a l.length cap ∧ ∀ i (hi : i < l.length), ∃ b off c, a = some ⟨b, off, none⟩ ∧ Pre b w ∧ NodeIs w c l[i] ∧ OwnsNd base w c l[i] ∧
    w.cell? ⟨b, off + i * 13, none⟩ = some (.int .i64 c.id) ∧ w.cell? ⟨b, off + i * 13 + 1, none⟩ = some (.int .i64 c.kind) ∧ w.cell? ⟨b, off + i * 13 + 2, none⟩ = some (.slice c.af c.nf c.cf) ∧ w.cell? ⟨b, off + i * 13 + 3, none⟩ = some (.slice c.ap c.np c.cp) ∧ w.cell? ⟨b, off + i * 13 + 4, none⟩ = some (.int .i64 c.par) ∧
    w.cell? ⟨b, off + i * 13 + 5, none⟩ = some (.int .i64 c.r0) ∧ w.cell? ⟨b, off + i * 13 + 6, none⟩ = some (.int .i64 c.r1) ∧ w.cell? ⟨b, off + i * 13 + 7, none⟩ = some (.int .i64 c.r2) ∧ w.cell? ⟨b, off + i * 13 + 8, none⟩ = some (.int .i64 c.r3) ∧ w.cell? ⟨b, off + i * 13 + 9, none⟩ = some (.int .i64 c.r4) ∧ w.cell? ⟨b, off + i * 13 + 10, none⟩ = some (.int .i64 c.r5) ∧ w.cell? ⟨b, off + i * 13 + 11, none⟩ = some (.int .i64 c.r6) ∧ w.cell? ⟨b, off + i * 13 + 12, none⟩ = some (.int .i64 c.r7) := by
  have hl := Rel.len h
  obtain ⟨a, cap, rfl, hm, hx⟩ := OwnAt.rows ho encNd_len
  refine ⟨a, cap, by rw [hl], fun i hi => ?_⟩
  have hi' : i < lc.length := by omega
  obtain ⟨b, off, rfl, hc⟩ := hx (by intro e; subst e; simp at hi')
  obtain ⟨hn, hw⟩ := Rel.get h i lc[i] l[i] (List.getElem?_eq_getElem hi') (List.getElem?_eq_getElem hi)
  have hj := fun j u => hc i lc[i] (List.getElem?_eq_getElem hi') j u
  have h0 := hj 0 _ rfl
  exact ⟨b, off, lc[i], rfl, Pre.mk (World.block_lt_of_cell? w _ h0), hn, hw, h0, hj 1 _ rfl, hj 2 _ rfl, hj 3 _ rfl, hj 4 _ rfl, hj 5 _ rfl, hj 6 _ rfl, hj 7 _ rfl, hj 8 _ rfl, hj 9 _ rfl, hj 10 _ rfl, hj 11 _ rfl, hj 12 _ rfl⟩
theorem safe_fits {p : List Vm.Ins} (h : Vm.safe p = true) : fitsP p := by
  unfold Vm.safe at h
  obtain ⟨c, hc⟩ := Option.isSome_iff_exists.1 h
  exact Vm.checkC_fits hc
theorem putGraph_any (w0 W : World) (B : Nat) (vb : Value) (ys : List UInt8) (v : Value) (l : List Gr.Nd) (hw : WriterAt w0.heap.size B W vb ys) (hg : Grew w0 W) (hv : NodesAt w0 v l) (hs : Small l) (hr : Gr.RightR l) (hlen : ys.length ≤ 4000) :
    Calls Tryz.prog 95 #[.pointer (some ⟨B, 0, none⟩), v] W (PutPost w0 W B (ys ++ Gr.putG putI l)) := by
  have h8 := hr.len
  have hok : ∀ n ∈ l, Gr.OkB fitsP 1 n := hr.okB (by unfold fitsP; rfl) (fun p hp => safe_fits hp) hv.r8
  have HW := Lib.hid hw
  have HG := Lib.hid hg
  have HV := Lib.hid hv
  have HS := Lib.hid hs
  have HR := Lib.hid hr
  have HOK := Lib.hid hok
  have hBlt := (Array.getElem?_eq_some_iff.1 hw.2.1).1
  obtain ⟨a, cap, rfl, hm, -⟩ := hv.openC
  clear hw hg hv hs hr hok
  go_enter Tryz.func95, Tryz.ntmps95
  go_wp2_with fail
  refine (writerNum_freshK w0 W B vb ys [(l.length : Int)] [.int .i64 l.length] _ _ _ HW.out HG.out rfl (by simp [go_sem]) rfl ?_ (by simp; omega)).mono ?_
  · simp only [List.all_cons, List.all_nil, Bool.and_true]
    exact fits_of (by omega) (by omega)
  rintro e W1 ⟨rfl, hg1, hk1, vb1, hw1⟩
  have HW1 := Lib.hid hw1
  have HG1 := Lib.hid hg1
  have HK1 := Lib.hid hk1
  have hB1 : B < W1.heap.size := Nat.lt_of_lt_of_le hBlt hk1.1
  clear hw1 hg1 hk1
  go_wp2_with fail
  refine (norm_any _ l W1 (HV.out.grew HG1.out) HS.out (by omega)).mono ?_
  rintro e W2 ⟨vn, lc, l', rfl, ho, hi, hp, hso, hg2⟩
  have hl' : l' = Gr.normG l := Gr.norm_unique hp hso HR.out.ids HR.out.r7
  have hlc := Rel.len hi
  obtain ⟨an, cn, rfl⟩ := (OwnAt.rows ho encNd_len).len
  rw [hlc]
  rw [hlc] at ho
  have hpl := hp.length_eq
  have HO := Lib.hid ho
  have HI := Lib.hid hi
  have HOK2 := Lib.hid (fun n (hn : n ∈ l') => HOK.out n (hp.mem_iff.1 hn))
  have HG2 := Lib.hid hg2
  have HL := Lib.hid hl'
  have HLC := Lib.hid hlc
  have HPL := Lib.hid hpl
  have HW2 := Lib.hid (HW1.out.grew hg2)
  have h8' : l'.length ≤ 8 := by omega
  clear hlc ho hi hp hso hg2 hl' hpl
  go_wp2
  go_loopg [14] l'.length (fun gg s14 wr => ∃ (k : Nat) (vk : Value), k ≤ l'.length ∧ l'.length - k ≤ gg ∧ s14 = .int .i64 k ∧ Hid (WriterAt w0.heap.size B wr vk (ys ++ Oc.be l.length ++ (l'.take k).flatMap (Gr.putNd putI))) ∧ Hid (Grew w0 wr) ∧ Hid (KeptW w0.heap.size B W2 wr))
  case atStart => exact ⟨0, vb1, Nat.zero_le _, by omega, rfl, Lib.hid (by have := HW2.out; rw [be_one] at this; simpa using this), Lib.hid (HG1.out.trans HG2.out), Lib.hid (KeptW.refl _ _ _)⟩
  case round =>
    obtain ⟨k, vk, hk, hgg, rfl, HWK, HGK, HKK⟩ := hrel
    by_cases hlt : k < l'.length
    · have hi2 := HI.out.kept HKK.out hB1
      obtain ⟨a', cap', e, hx⟩ := hi2.openO (HO.out.kept HKK.out hB1)
      cases e
      obtain ⟨b, off, c, rfl, hb, hn, hown, c0, c1, c2, c3, c4, c5, c6, c7, c8, c9, c10, c11, c12⟩ := hx k hlt
      have hok := HOK2.out _ (List.getElem_mem hlt)
      have htf := take_flat (Gr.putNd putI) l' k hlt
      have hfl := flat_len (l := l'.take k) (lp := 1) fun n hn => HOK2.out n (List.mem_of_mem_take hn)
      rw [List.length_take, Nat.min_eq_left hk] at hfl
      have HFL := Lib.hid hfl
      have HTF := Lib.hid htf
      generalize l'[k] = y at *
      have HNc := Lib.hid hn
      have HPN := Lib.hid fun W (g : Grew wr W) => putNode_any w0 W B vk _ c y 1 (by decide) (HWK.out.grew g) (HGK.out.trans g) (hn.grew g) ((hown.grew g).apartF hB1) ((hown.grew g).apartP hB1) hok (by simp only [List.length_append, Oc.be_len]; omega)
      obtain ⟨cid, kind, af, cf, ap, cp, par, r0, r1, r2, r3, r4, r5, r6, r7, rfl⟩ := HNc.out.lit
      simp only at c0 c1 c2 c3 c4 c5 c6 c7 c8 c9 c10 c11 c12
      clear hx hn hown hok htf hfl hi2
      go_wp2_with (go_at_call 109; refine (HPN.out _ (by repeat (first | with_reducible exact Grew.refl _ | apply Grew.more | apply Grew.alloc | apply Grew.drew | apply Grew.drewN))).mono ?_; rintro e w5 ⟨rfl, hg5, hk5, vb5, hw5⟩; (have HW5 := Lib.hid hw5); (have HG5 := Lib.hid hg5); (have HK5 := Lib.hid ((KeptW.ofGrew (W := wr) (by repeat (first | with_reducible exact Grew.refl _ | apply Grew.more | apply Grew.alloc | apply Grew.drew | apply Grew.drewN))).trans hk5)); clear hw5 hg5 hk5)
      go_roundg (l'.length - (k + 1))
      case measure => omega
      case rel => exact ⟨k + 1, vb5, by omega, by omega, by go_num, Lib.hid (by rw [HTF.out, ← List.append_assoc]; exact HW5.out), HG5, Lib.hid (HKK.out.trans HK5.out)⟩
    · obtain rfl : k = l'.length := by omega
      go_wp2
      go_end0
      refine ⟨rfl, HGK.out, ((KeptW.ofGrew (W := W) (by repeat (first | with_reducible exact Grew.refl _ | apply Grew.more | apply Grew.alloc | apply Grew.drew | apply Grew.drewN))).trans HK1.out).trans ((KeptW.ofGrew HG2.out).trans HKK.out), vk, ?_⟩
      have := HWK.out
      rw [List.take_length, HL.out] at this
      unfold Gr.putG
      rw [← List.append_assoc]
      exact this

theorem putG_len {l : List Gr.Nd} (hr : Gr.RightR l) (h8 : ∀ n ∈ l, n.route.length = 8) : (Gr.putG putI l).length ≤ 3000 := by
  have hok : ∀ n ∈ l, Gr.OkB fitsP 1 n := hr.okB (by unfold fitsP; rfl) (fun p hp => safe_fits hp) h8
  have hp := Gr.normG_perm hr.ids hr.r7
  have h1 := flat_len (l := Gr.normG l) (lp := 1) fun n hn => hok n (hp.mem_iff.1 hn)
  have h2 := hp.length_eq
  have h3 := hr.len
  unfold Gr.putG
  rw [List.length_append, Oc.be_len]
  omega


theorem OwnAt.up {α : Type} {base base' : Nat} {e : TypeId} {k : Nat} {enc : α → List Value} {w : World} {v : Value} {l : List α} (h : OwnAt base e k enc w v l) (hb : ∀ q, v.ownBlock = some q → base' ≤ q) : OwnAt base' e k enc w v l := by
  obtain ⟨h1, h2⟩ := h
  refine ⟨h1, ?_⟩
  rcases h2 with h | ⟨g, cap, cur, rfl, h3, r⟩
  · exact .inl h
  · exact .inr ⟨g, cap, cur, rfl, hb g rfl, r⟩
theorem Keep.app {α : Type} {e : TypeId} {k : Nat} {enc : α → List Value} {B : Nat} {w0 w W W' : World} {v v' : Value} {l : List α} (hk : Keep B w W) (hA : Appended w0 e k enc W v l v' W') (hi : ∀ q, v.ownBlock = some q → w.heap.size ≤ q) : Keep B w W' :=
  ⟨Nat.le_trans hk.1 hA.2.2.1, fun q hq hn => (hA.2.2.2.1 q (Nat.lt_of_lt_of_le hq hk.1) fun h => by have := hi q h; omega).trans (hk.2 q hq hn)⟩
theorem app_hi {α : Type} {e : TypeId} {k : Nat} {enc : α → List Value} {B : Nat} {w0 w W W' : World} {v v' : Value} {l : List α} (hk : Keep B w W) (hA : Appended w0 e k enc W v l v' W') (hi : ∀ q, v.ownBlock = some q → w.heap.size ≤ q) : ∀ q, v'.ownBlock = some q → w.heap.size ≤ q := fun q hq => by
  rcases hA.2.2.2.2 q hq with h | h
  · exact hi q h
  · exact Nat.le_trans hk.1 h
def GotProg (w0 w w' : World) (B : Nat) (v : Value) (r : List Val × Int × List UInt8) : Prop := OwnAt w.heap.size 190 2 encI w' v r.1 ∧ ReaderAt w0.heap.size B w' r.2.2 ∧ Grew w0 w' ∧ Keep B w w'
theorem GotProg.none {w0 w w' : World} {B : Nat} {r : List Val × Int × List UInt8} {e : Int} {s : List UInt8} (h : r = ([], e, s)) (h1 : ReaderAt w0.heap.size B w' s) (h2 : Grew w0 w') (h3 : Keep B w w') : GotProg w0 w w' B (.slice none 0 0) r := by
  subst h; exact ⟨OwnAt.nil _, h1, h2, h3⟩
theorem GotProg.some {w0 w w' : World} {B : Nat} {v : Value} {r : List Val × Int × List UInt8} {l : List Val} {e : Int} {s : List UInt8} (h : r = (l, e, s)) (h0 : OwnAt w.heap.size 190 2 encI w' v l) (h1 : ReaderAt w0.heap.size B w' s) (h2 : Grew w0 w') (h3 : Keep B w w') : GotProg w0 w w' B v r := by
  subst h; exact ⟨h0, h1, h2, h3⟩
theorem codeGet_keep (w0 : World) (B : Nat) (s : List UInt8) (w : World) (h : ReaderAt w0.heap.size B w s) (hg : Grew w0 w) (hs : s.length ≤ 1000000) :
    Calls Tryz.prog 194 #[.pointer (some ⟨B, 0, none⟩)] w fun e w' => ∃ v, e = .returned (.tuple #[v, .int .i64 (getL s).2.1]) ∧ GotProg w0 w w' B v (getL s) := by
  have hW := octWithin_any w0 B s 0 24 w h hg hs
  have hl1 := within_len s 0 24
  have hwo := within_ok (s := s) (a := 0) (b := 24)
  generalize hr : within s 0 24 = r at *
  obtain ⟨n, e1, s1⟩ := r
  simp only at hW hl1 hwo
  have HW := Lib.hid hW
  have HR0 := Lib.hid hr
  clear hW hr
  by_cases he : e1 = 0
  · subst he
    obtain ⟨n0, n24⟩ := hwo rfl
    obtain ⟨N, rfl⟩ : ∃ N : Nat, n = N := ⟨n.toNat, by omega⟩
    clear hwo
    go_enter Tryz.func194, Tryz.ntmps194
    go_wp2_with (go_at_call 151; refine HW.out.mono ?_; rintro e w1 ⟨rfl, hr1, hg1, hk1⟩; (have HR1 := Lib.hid hr1); (have HG1 := Lib.hid hg1); (have HK1 := Lib.hid hk1); clear hr1 hg1 hk1)
    go_loopw [6, 19] (fun v6 i wr => ∃ (k : Nat) (acc : List Val) (sk : List UInt8), k ≤ N ∧ i = .int .i64 k ∧ acc.length = k ∧ readL (N - k) sk acc = readL N s1 [] ∧ sk.length ≤ 1000000 ∧ OwnAt w0.heap.size 190 2 encI wr v6 acc ∧ ReaderAt w0.heap.size B wr sk ∧ Grew w0 wr ∧ Hid (Keep B w wr) ∧ Hid (∀ q, v6.ownBlock = some q → w.heap.size ≤ q)) (fun _ i _ => N - (intOf i).toNat)
    case atStart => exact ⟨0, [], s1, Nat.zero_le _, rfl, rfl, rfl, by omega, OwnAt.nil _, HR1.out, HG1.out, HK1, Lib.hid (fun q h => by cases h)⟩
    case round =>
      obtain ⟨k, acc, sk, hk, rfl, hacc, hrd, hsk, hown, hrk, hgk, HKW, HHI⟩ := hrel
      by_cases hlt : k < N
      · have hW2 := octWithin_any w0 B sk 0 17 wr hrk hgk hsk
        have hl2 := within_len sk 0 17
        obtain ⟨m, hm⟩ : ∃ m, N - k = m + 1 := ⟨N - k - 1, by omega⟩
        rw [hm] at hrd
        generalize hr2 : within sk 0 17 = r2 at *
        obtain ⟨op, e2, s2⟩ := r2
        simp only at hW2 hl2
        have hne1 := own_ne hown hrk.2 (by decide)
        have HW2 := Lib.hid hW2
        have HRD := Lib.hid hrd
        have HO := Lib.hid hown
        have HNE := Lib.hid hne1
        have HR2 := Lib.hid hr2
        have HACC := Lib.hid hacc
        have HM := Lib.hid hm
        clear hW2 hrd hown hne1 hr2 hacc hm hrk hgk
        by_cases he2 : e2 = 0
        · subst he2
          have hl3 := within_len s2 (-2147483648) 2147483647
          obtain ⟨a, e3, s3, hr3⟩ : ∃ a e3 s3, numR s2 = (a, e3, s3) := ⟨_, _, _, rfl⟩
          have hr3' : within s2 (-2147483648) 2147483647 = (a, e3, s3) := hr3
          have HN3 : Hid (∀ w2, ReaderAt w0.heap.size B w2 s2 → Grew w0 w2 → Calls Tryz.prog 221 #[.pointer (some ⟨B, 0, none⟩)] w2 fun e w' => e = .returned (.tuple #[.int .i64 a, .int .i64 e3]) ∧ ReaderAt w0.heap.size B w' s3 ∧ Grew w0 w' ∧ Keep B w2 w') := Lib.hid (fun w2 h1 h2 => by
            have := octNum_any w0 B s2 w2 h1 h2 (by omega)
            rw [hr3'] at this
            exact this)
          rw [hr3'] at hl3
          simp only at hl3
          have HR3 := Lib.hid hr3
          clear hr3 hr3'
          by_cases he3 : e3 = 0
          · subst he3
            go_wp2_with (first
              | (go_at_call 151; refine HW2.out.mono ?_; rintro e w2 ⟨rfl, hq2, hg2, hk2⟩; (have HQ2 := Lib.hid hq2); (have HG2 := Lib.hid hg2); (have HK2 := Lib.hid hk2); clear hq2 hg2 hk2)
              | (go_at_call 221; refine (HN3.out _ HQ2.out HG2.out).mono ?_; rintro e w3 ⟨rfl, hq3, hg3, hk3⟩; (have HQ3 := Lib.hid hq3); (have HG3 := Lib.hid hg3); (have HO3 := Lib.hid ((HK2.out.trans hk3).own HO.out HNE.out)); (have HK3 := Lib.hid (HKW.out.trans (HK2.out.trans hk3))); clear hq3 hg3 hk3)
              | (at_builtin; refine wpList_ownK (w0 := w0) rfl (.tmp 37) (.tmp 41) 53 _ _ _ _ [(op, a)] rfl Tryz.underlying53 infoIns rfl (by decide) encI_len encI_one rfl (HO3.out.grew (by repeat (first | with_reducible exact Grew.refl _ | apply Grew.more | apply Grew.alloc | apply Grew.drew | apply Grew.drewN))) (HG3.out.alloc _) rfl (fun j u hu => encI_at _ (op, a) _ _ rfl rfl j u (by simpa using hu)) (by simp [HACC.out]; omega) (by decide) (by simp) ?_; intro v9 W9 hA9; (have hkeep9 := hA9.2.2.2.1); (have HQ9 : Hid (ReaderAt w0.heap.size B W9 s3) := Lib.hid ⟨HQ3.out.1, by rw [hkeep9 B (by have := (Array.getElem?_eq_some_iff.1 HQ3.out.2).1; simp [go_sem]; omega) (own_ne HO3.out HQ3.out.2 (by decide))]; exact heap_alloc_old HQ3.out.2 _⟩); (have HK9 := Lib.hid (Keep.app (HK3.out.trans (Keep.ofGrew (by repeat (first | with_reducible exact Grew.refl _ | apply Grew.more | apply Grew.alloc | apply Grew.drew | apply Grew.drewN)))) hA9 HHI.out)); (have HHI9 := Lib.hid (app_hi (HK3.out.trans (Keep.ofGrew (by repeat (first | with_reducible exact Grew.refl _ | apply Grew.more | apply Grew.alloc | apply Grew.drew | apply Grew.drewN)))) hA9 HHI.out)); (have HA9 := Lib.hid hA9); clear hkeep9 hA9)
              )
            go_roundw
            case rel =>
              refine ⟨k + 1, acc ++ [(op, a)], s3, by omega, by go_num, by rw [List.length_append, HACC.out]; rfl, ?_, by omega, HA9.out.2.1, HQ9.out, HA9.out.1, HK9, HHI9⟩
              have h1 := HRD.out
              rw [readL_ok HR2.out HR3.out] at h1
              rw [← h1]
              congr 1
              have := HM.out
              omega
            case measure => first | (simp [intOf]; done) | (simp [intOf]; omega)
          · have hne3 : (e3 != 0) = true := by rw [bne_iff_ne]; exact he3
            have hGe : getL s = ([], e3, s3) := getL_bad HR0.out (by rw [← HRD.out, readL_bad2 HR2.out HR3.out he3]) he3
            have HGE := Lib.hid hGe
            clear hGe he3
            go_wp2_with (first
              | (go_at_call 151; refine HW2.out.mono ?_; rintro e w2 ⟨rfl, hq2, hg2, hk2⟩; (have HQ2 := Lib.hid hq2); (have HG2 := Lib.hid hg2); (have HK2 := Lib.hid hk2); clear hq2 hg2 hk2)
              | (go_at_call 221; refine (HN3.out _ HQ2.out HG2.out).mono ?_; rintro e w3 ⟨rfl, hq3, hg3, hk3⟩; (have HQ3 := Lib.hid hq3); (have HG3 := Lib.hid hg3); (have HK3 := Lib.hid hk3); clear hq3 hg3 hk3)
              )
            exact bodyPost_ret (v := .tuple #[.slice none 0 0, .int .i64 e3]) (by simp [results, Tryz.results194, go_sem]) rfl ⟨_, by rw [HGE.out], GotProg.none HGE.out HQ3.out HG3.out (HKW.out.trans (HK2.out.trans HK3.out))⟩
        · have hne2 : (e2 != 0) = true := by rw [bne_iff_ne]; exact he2
          have hGe : getL s = ([], e2, s2) := getL_bad HR0.out (by rw [← HRD.out, readL_bad1 HR2.out he2]) he2
          have HGE := Lib.hid hGe
          clear hGe he2
          go_wp2_with (go_at_call 151; refine HW2.out.mono ?_; rintro e w2 ⟨rfl, hq2, hg2, hk2⟩; (have HQ2 := Lib.hid hq2); (have HG2 := Lib.hid hg2); (have HK2 := Lib.hid hk2); clear hq2 hg2 hk2)
          exact bodyPost_ret (v := .tuple #[.slice none 0 0, .int .i64 e2]) (by simp [results, Tryz.results194, go_sem]) rfl ⟨_, by rw [HGE.out], GotProg.none HGE.out HQ2.out HG2.out (HKW.out.trans HK2.out)⟩
      · obtain rfl : k = N := by omega
        have hrd2 : readL k s1 [] = (acc, 0, sk) := by rw [← hrd, Nat.sub_self]; rfl
        have hGe := getL_fit HR0.out hrd2
        have hrows : ValsAt wr u6 acc := hown.rows encI_len
        have HRO := Lib.hid hrows
        have HOW := Lib.hid hown
        have HRK := Lib.hid hrk
        have HGK := Lib.hid hgk
        clear hrd hrd2 hown hrows hrk hgk
        cases hf : Co.fitsI acc
        · rw [hf] at hGe
          have hGe2 : getL s = ([], 4, sk) := hGe.trans (if_neg (by decide))
          have HGE := Lib.hid hGe2
          have HF := Lib.hid hf
          clear hGe hGe2 hf
          go_wp2_with (go_at_call 193; refine (codeFits_any _ acc _ HRO.out).mono ?_; rintro e w2 ⟨rfl, R5, n5, rfl⟩; rw [HF.out])
          exact bodyPost_ret (v := .tuple #[.slice none 0 0, .int .i64 4]) (by simp [results, Tryz.results194, go_sem]) rfl ⟨_, by rw [HGE.out], GotProg.none HGE.out (HRK.out.grew (by repeat (first | with_reducible exact Grew.refl _ | apply Grew.more | apply Grew.alloc | apply Grew.drew | apply Grew.drewN))) (HGK.out.more _ _) (HKW.out.trans (Keep.ofGrew (by repeat (first | with_reducible exact Grew.refl _ | apply Grew.more | apply Grew.alloc | apply Grew.drew | apply Grew.drewN))))⟩
        · rw [hf] at hGe
          have hGe2 : getL s = (acc, 0, sk) := hGe.trans (if_pos rfl)
          have HGE := Lib.hid hGe2
          have HF := Lib.hid hf
          clear hGe hGe2 hf
          go_wp2_with (go_at_call 193; refine (codeFits_any _ acc _ HRO.out).mono ?_; rintro e w2 ⟨rfl, R5, n5, rfl⟩; rw [HF.out])
          exact bodyPost_ret (v := .tuple #[u6, .int .i64 0]) (by simp [results, Tryz.results194, go_sem]) rfl ⟨_, by rw [HGE.out], GotProg.some HGE.out (OwnAt.up (HOW.out.grew (by repeat (first | with_reducible exact Grew.refl _ | apply Grew.more | apply Grew.alloc | apply Grew.drew | apply Grew.drewN))) HHI.out) (HRK.out.grew (by repeat (first | with_reducible exact Grew.refl _ | apply Grew.more | apply Grew.alloc | apply Grew.drew | apply Grew.drewN))) (HGK.out.more _ _) (HKW.out.trans (Keep.ofGrew (by repeat (first | with_reducible exact Grew.refl _ | apply Grew.more | apply Grew.alloc | apply Grew.drew | apply Grew.drewN))))⟩
  · have hGe : getL s = ([], e1, s1) := by rw [getL_of HR0.out, if_pos he]
    have HGE := Lib.hid hGe
    have hne : (e1 != 0) = true := by rw [bne_iff_ne]; exact he
    clear hGe hwo he
    go_enter Tryz.func194, Tryz.ntmps194
    go_wp2_with (go_at_call 151; refine HW.out.mono ?_; rintro e w1 ⟨rfl, hr1, hg1, hk1⟩; (have HR1 := Lib.hid hr1); (have HG1 := Lib.hid hg1); (have HK1 := Lib.hid hk1); clear hr1 hg1 hk1)
    exact bodyPost_ret (v := .tuple #[.slice none 0 0, .int .i64 e1]) (by simp [results, Tryz.results194, go_sem]) rfl ⟨_, by rw [HGE.out], GotProg.none HGE.out HR1.out HG1.out HK1.out⟩

def RdAt (base A B : Nat) (W : World) (s : Gr.Rs) : Prop := base ≤ A ∧ W.heap[A]? = some (.cells #[.pointer (some ⟨B, 0, none⟩), .int .i64 s.2] 165) ∧ ReaderAt base B W s.1
def Keep2 (A B : Nat) (w w' : World) : Prop := w.heap.size ≤ w'.heap.size ∧ ∀ q, q < w.heap.size → q ≠ A → q ≠ B → w'.heap[q]? = w.heap[q]?
theorem Keep2.refl (A B : Nat) (w : World) : Keep2 A B w w := ⟨Nat.le_refl _, fun _ _ _ _ => rfl⟩
theorem Keep2.trans {A B : Nat} {a b c : World} (h : Keep2 A B a b) (k : Keep2 A B b c) : Keep2 A B a c :=
  ⟨Nat.le_trans h.1 k.1, fun q hq h1 h2 => (k.2 q (Nat.lt_of_lt_of_le hq h.1) h1 h2).trans (h.2 q hq h1 h2)⟩
theorem Keep2.ofGrew {A B : Nat} {w w' : World} (g : Grew w w') : Keep2 A B w w' := ⟨g.below.size, fun q hq _ _ => g.below.block q hq⟩
theorem Keep2.ofKeep {A B : Nat} {w w' : World} (k : Keep B w w') : Keep2 A B w w' := ⟨k.1, fun q hq _ h => k.2 q hq h⟩
theorem Keep2.set {A B : Nat} {w : World} {o : Nat} {v : Value} : Keep2 A B w (w.setCell ⟨A, o, none⟩ v) := ⟨by rw [World.size_setCell]; exact Nat.le_refl _, fun q hq h _ => set_other fun e => h e.symm⟩
theorem RdAt.ne {base A B : Nat} {W : World} {s : Gr.Rs} (h : RdAt base A B W s) : A ≠ B := fun e => by
  have h1 := h.2.1
  rw [e, h.2.2.2] at h1
  cases h1
theorem RdAt.grew {base A B : Nat} {W W' : World} {s : Gr.Rs} (h : RdAt base A B W s) (g : Grew W W') : RdAt base A B W' s := ⟨h.1, grew_heap g h.2.1, h.2.2.grew g⟩
theorem RdAt.put {base A B : Nat} {W W1 : World} {s : Gr.Rs} {z : List UInt8} {e : Int} (h : RdAt base A B W s) (hr : ReaderAt base B W1 z) (hk : Keep B W W1) : W1.heap[A]? = some (.cells #[.pointer (some ⟨B, 0, none⟩), .int .i64 s.2] 165) ∧ RdAt base A B (W1.setCell ⟨A, 1, none⟩ (.int .i64 e)) (z, e) := by
  have hA : W1.heap[A]? = some (.cells #[.pointer (some ⟨B, 0, none⟩), .int .i64 s.2] 165) := by rw [hk.2 A (heap_lt h.2.1) h.ne]; exact h.2.1
  exact ⟨hA, h.1, by rw [set_self hA]; rfl, hr.1, by rw [set_other h.ne]; exact hr.2⟩
theorem wn_len (s : List UInt8) (a b : Int) : (Gr.wn s a b).2.2.length ≤ s.length := within_len s a b
theorem numS_len (a b : Int) (s : Gr.Rs) : (Gr.numS a b s).2.1.length ≤ s.1.length := by
  unfold Gr.numS
  split
  · exact Nat.le_refl _
  · exact wn_len _ _ _
theorem numS_range {a b : Int} (s : Gr.Rs) (ha : a ≤ 0) (hb : 0 ≤ b) : a ≤ (Gr.numS a b s).1 ∧ (Gr.numS a b s).1 ≤ b := by
  unfold Gr.numS
  split
  · exact ⟨ha, hb⟩
  · unfold Gr.wn
    split
    · exact ⟨ha, hb⟩
    · split
      · exact ⟨ha, hb⟩
      · simp only; omega
def RdPost (w0 W : World) (A B : Nat) (v : Value) (s : Gr.Rs) (e : Ending) (W' : World) : Prop := e = .returned v ∧ RdAt w0.heap.size A B W' s ∧ Grew w0 W' ∧ Keep2 A B W W'
theorem rdNum_any (w0 : World) (A B : Nat) (s : Gr.Rs) (a b : Int) (W : World) (h : RdAt w0.heap.size A B W s) (hg : Grew w0 W) (hs : s.1.length ≤ 1000000) :
    Calls Tryz.prog 101 #[.pointer (some ⟨A, 0, none⟩), .int .i64 a, .int .i64 b] W (RdPost w0 W A B (.int .i64 (Gr.numS a b s).1) (Gr.numS a b s).2) := by
  have H := Lib.hid h
  have HG := Lib.hid hg
  have c0 := cell_of (o := 0) h.2.1
  have c1 := cell_of (o := 1) h.2.1
  have f1 := frozen_of (o := 1) h.2.1
  have hpA := Pre.mk (heap_lt h.2.1)
  simp at c0 c1
  obtain ⟨z, x⟩ := s
  simp only at hs c1
  by_cases he : x = 0
  · subst he
    have hn : Gr.numS a b (z, 0) = ((within z a b).1, ((within z a b).2.2, (within z a b).2.1)) := by unfold Gr.numS; rw [if_neg (by simp)]; rfl
    rw [hn]
    have hw := octWithin_any w0 B z a b W h.2.2 hg hs
    generalize within z a b = r at *
    obtain ⟨y, er, z'⟩ := r
    simp only at hw ⊢
    have HW := Lib.hid hw
    clear h hg hw hn
    go_enter Tryz.func101, Tryz.ntmps101
    go_wp2_with (go_at_call 151; refine HW.out.mono ?_; rintro e w1 ⟨rfl, hr1, hg1, hk1⟩; obtain ⟨hA1, hR1⟩ := RdAt.put (e := er) H.out hr1 hk1; (have d1 := cell_of (o := 1) hA1); (have g1 := frozen_of (o := 1) hA1); (have pA1 := Pre.mk (heap_lt hA1)); simp at d1; (have HR1 := Lib.hid hR1); (have HG1 := Lib.hid hg1); (have HK1 := Lib.hid hk1); clear hr1 hg1 hk1 hA1 hR1)
    go_ret
    exact ⟨rfl, HR1.out, HG1.out.set H.out.1 _, (Keep2.ofKeep HK1.out).trans Keep2.set⟩
  · rw [Gr.numS_err a b (s := (z, x)) he]
    have he2 : (x != 0) = true := by rw [bne_iff_ne]; exact he
    clear h hg he
    go_enter Tryz.func101, Tryz.ntmps101
    go_wp2
    go_ret
    exact ⟨rfl, H.out, HG.out, Keep2.refl _ _ _⟩
theorem listS_succ (a b : Int) : ∀ (k : Nat) (s : Gr.Rs), Gr.listS a b (k + 1) s = ((Gr.listS a b k s).1 ++ [(Gr.numS a b (Gr.listS a b k s).2).1], (Gr.numS a b (Gr.listS a b k s).2).2)
  | 0, s => rfl
  | k + 1, s => by
    have ih := listS_succ a b k (Gr.numS a b s).2
    rw [Gr.listS, ih]
    rfl
theorem listS_len (a b : Int) : ∀ (k : Nat) (s : Gr.Rs), (Gr.listS a b k s).1.length = k ∧ (Gr.listS a b k s).2.1.length ≤ s.1.length
  | 0, s => ⟨rfl, Nat.le_refl _⟩
  | k + 1, s => by
    obtain ⟨h1, h2⟩ := listS_len a b k (Gr.numS a b s).2
    have h3 := numS_len a b s
    refine ⟨?_, ?_⟩
    · rw [Gr.listS, List.length_cons, h1]
    · rw [Gr.listS]
      exact Nat.le_trans h2 h3
theorem OwnAt.keep2 {α : Type} {base base0 A B : Nat} {e : TypeId} {k : Nat} {enc : α → List Value} {w w' : World} {v : Value} {l : List α} {s : Gr.Rs} (h : OwnAt base e k enc w v l) (hk : Keep2 A B w w') (hr : RdAt base0 A B w s) (h1 : e ≠ 165 := by decide) (h2 : e ≠ 217 := by decide) : OwnAt base e k enc w' v l :=
  OwnAt.same h fun b hb => by
    obtain ⟨_, cs, hc⟩ := OwnAt.block h hb
    refine hk.2 b (heap_lt hc) (fun q => ?_) fun q => ?_
    · subst q
      have := hr.2.1
      rw [hc] at this
      cases this
      exact h1 rfl
    · subst q
      have := hr.2.2.2
      rw [hc] at this
      cases this
      exact h2 rfl
theorem RdAt.app {α : Type} {base base0 A B : Nat} {e : TypeId} {k : Nat} {enc : α → List Value} {w0 W W' : World} {v v' : Value} {l l2 : List α} {s : Gr.Rs} (h : RdAt base A B W s) (ho : OwnAt base0 e k enc W v l) (hA : Appended w0 e k enc W v l2 v' W') (h1 : 165 ≠ e := by decide) (h2 : 217 ≠ e := by decide) : RdAt base A B W' s :=
  ⟨h.1, by rw [hA.2.2.2.1 A (heap_lt h.2.1) (OwnAt.other ho h.2.1 h1)]; exact h.2.1, h.2.2.1, by rw [hA.2.2.2.1 B (heap_lt h.2.2.2) (OwnAt.other ho h.2.2.2 h2)]; exact h.2.2.2⟩
theorem Keep2.app {α : Type} {e : TypeId} {k : Nat} {enc : α → List Value} {A B : Nat} {w0 w W W' : World} {v v' : Value} {l : List α} (hk : Keep2 A B w W) (hA : Appended w0 e k enc W v l v' W') (hi : ∀ q, v.ownBlock = some q → w.heap.size ≤ q) : Keep2 A B w W' ∧ ∀ q, v'.ownBlock = some q → w.heap.size ≤ q :=
  ⟨⟨Nat.le_trans hk.1 hA.2.2.1, fun q hq h1 h2 => (hA.2.2.2.1 q (Nat.lt_of_lt_of_le hq hk.1) fun h => by have := hi q h; omega).trans (hk.2 q hq h1 h2)⟩, fun q hq => by
    rcases hA.2.2.2.2 q hq with h | h
    · exact hi q h
    · exact Nat.le_trans hk.1 h⟩
def RdList (w0 W : World) (A B : Nat) (l : List Int) (s : Gr.Rs) (e : Ending) (W' : World) : Prop := ∃ v, e = .returned v ∧ OwnAt W.heap.size 3 1 encN W' v l ∧ RdAt w0.heap.size A B W' s ∧ Grew w0 W' ∧ Keep2 A B W W'
theorem rdList_any (w0 : World) (A B : Nat) (s : Gr.Rs) (m a b : Int) (W : World) (h : RdAt w0.heap.size A B W s) (hg : Grew w0 W) (hs : s.1.length ≤ 1000000) (hm : 0 ≤ m) (hm2 : m ≤ 1000) :
    Calls Tryz.prog 102 #[.pointer (some ⟨A, 0, none⟩), .int .i64 m, .int .i64 a, .int .i64 b] W (RdList w0 W A B (Gr.listS a b (Gr.numS 0 m s).1.toNat (Gr.numS 0 m s).2).1 (Gr.listS a b (Gr.numS 0 m s).1.toNat (Gr.numS 0 m s).2).2) := by
  have hn := rdNum_any w0 A B s 0 m W h hg hs
  have hr := numS_range (a := 0) (b := m) s (by omega) hm
  have hl := numS_len 0 m s
  generalize Gr.numS 0 m s = r at *
  obtain ⟨n, s1⟩ := r
  simp only at hn hr hl ⊢
  obtain ⟨N, rfl⟩ : ∃ N : Nat, n = N := ⟨n.toNat, by omega⟩
  rw [Int.toNat_natCast]
  have HN := Lib.hid hn
  have hBlt := heap_lt h.2.2.2
  clear h hg hn
  go_enter Tryz.func102, Tryz.ntmps102
  go_wp2_with (go_at_call 101; refine HN.out.mono ?_; rintro e w1 ⟨rfl, hr1, hg1, hk1⟩; (have HR1 := Lib.hid hr1); (have HG1 := Lib.hid hg1); (have HK1 := Lib.hid hk1); clear hr1 hg1 hk1)
  go_loopg [9, 13] N (fun gg s9 s13 wr => ∃ (k : Nat) (vk : Value), k ≤ N ∧ N - k ≤ gg ∧ s13 = .int .i64 k ∧ vk = s9 ∧ Hid (OwnAt w0.heap.size 3 1 encN wr vk (Gr.listS a b k s1).1) ∧ Hid (RdAt w0.heap.size A B wr (Gr.listS a b k s1).2) ∧ Hid (Grew w0 wr) ∧ Hid (Keep2 A B W wr) ∧ Hid (∀ q, vk.ownBlock = some q → W.heap.size ≤ q))
  case atStart => exact ⟨0, _, Nat.zero_le _, by omega, rfl, rfl, Lib.hid (OwnAt.nil _), HR1, HG1, HK1, Lib.hid fun q h => by cases h⟩
  case round =>
    obtain ⟨k, vk, hk, hgg, rfl, rfl, HO, HR, HG, HK, HI⟩ := hrel
    obtain ⟨hl1, hl2⟩ := listS_len a b k s1
    by_cases hlt : k < N
    · have hsc := listS_succ a b k s1
      have hnum := rdNum_any w0 A B (Gr.listS a b k s1).2 a b wr HR.out HG.out (by omega)
      have HSC := Lib.hid hsc
      have HNUM := Lib.hid hnum
      obtain ⟨ak, ck, rfl⟩ := (HO.out.rows encN_len).len
      have HL1 := Lib.hid hl1
      clear hsc hnum hl1 hl2
      generalize Gr.numS a b (Gr.listS a b k s1).2 = y at *
      obtain ⟨y1, y2⟩ := y
      simp only at HNUM HSC
      generalize hLS : Gr.listS a b k s1 = LS at *
      have HLS := Lib.hid hLS
      clear hLS
      go_wp2_with (first
        | (go_at_call 101; refine HNUM.out.mono ?_; rintro e w2 ⟨rfl, hr2, hg2, hk2⟩; (have HR2 := Lib.hid hr2); (have HG2 := Lib.hid hg2); (have HK2 := Lib.hid hk2); (have HO2 := Lib.hid (OwnAt.keep2 HO.out hk2 HR.out)); clear hr2 hg2 hk2)
        | (at_builtin; go_loud (refine wpList_ownK (w0 := w0) rfl (.tmp 15) (.tmp 20) 47 _ _ _ _ [y1] rfl Tryz.underlying47 infoInt1 rfl (by decide) encN_len encN_one rfl (OwnAt.grew HO2.out (by repeat (first | with_reducible exact Grew.refl _ | apply Grew.more | apply Grew.alloc | apply Grew.drew | apply Grew.drewN))) (HG2.out.trans (by repeat (first | with_reducible exact Grew.refl _ | apply Grew.more | apply Grew.alloc | apply Grew.drew | apply Grew.drewN))) rfl (int_at _ _ _ _ rfl (by simp [go_sem])) (by rw [HL1.out]; simp; omega) (by decide) (by simp) ?_; intro v5 W5 hA; (have HA := Lib.hid hA); clear hA)))
      obtain ⟨q4, q5⟩ := Keep2.app (HK.out.trans (HK2.out.trans (Keep2.ofGrew (by repeat (first | with_reducible exact Grew.refl _ | apply Grew.more | apply Grew.alloc | apply Grew.drew | apply Grew.drewN))))) HA.out HI.out
      have q2 := RdAt.app (HR2.out.grew (by repeat (first | with_reducible exact Grew.refl _ | apply Grew.more | apply Grew.alloc | apply Grew.drew | apply Grew.drewN))) (OwnAt.grew HO2.out (by repeat (first | with_reducible exact Grew.refl _ | apply Grew.more | apply Grew.alloc | apply Grew.drew | apply Grew.drewN))) HA.out
      have Q2 := Lib.hid q2
      have Q4 := Lib.hid q4
      have Q5 := Lib.hid q5
      clear q2 q4 q5
      go_roundg (N - (k + 1))
      case measure => omega
      case rel => exact ⟨k + 1, _, by omega, by omega, by go_num, rfl, Lib.hid (by rw [HSC.out]; exact HA.out.2.1), Lib.hid (by rw [HSC.out]; exact Q2.out), Lib.hid HA.out.1, Q4, Q5⟩
    · obtain rfl : k = N := by omega
      obtain ⟨ak, ck, rfl⟩ := (HO.out.rows encN_len).len
      go_wp2
      go_ret
      exact ⟨_, rfl, OwnAt.up HO.out HI.out, HR.out, HG.out, HK.out⟩

theorem RdAt.setOther {base A B C : Nat} {W : World} {s : Gr.Rs} {o : Nat} {v : Value} (h : RdAt base A B W s) (hA : C ≠ A) (hB : C ≠ B) : RdAt base A B (W.setCell ⟨C, o, none⟩ v) s :=
  ⟨h.1, by rw [set_other hA]; exact h.2.1, h.2.2.1, by rw [set_other hB]; exact h.2.2.2⟩
theorem OwnAt.setOther {α : Type} {base C : Nat} {e t : TypeId} {k : Nat} {enc : α → List Value} {W : World} {v x : Value} {l : List α} {o : Nat} {c : Array Value} {f : Nat × Nat} (h : OwnAt base e k enc W v l) (hC : W.heap[C]? = some (.cells c t f)) (ht : t ≠ e) : OwnAt base e k enc (W.setCell ⟨C, o, none⟩ x) v l :=
  OwnAt.same h fun b hb => set_other fun q => by
    subst q
    exact own_ne h hC ht hb
def RdProg (w0 W : World) (A B : Nat) (l : List Vm.Ins) (s : Gr.Rs) (e : Ending) (W' : World) : Prop := ∃ v, e = .returned v ∧ OwnAt W.heap.size 190 2 encI W' v l ∧ RdAt w0.heap.size A B W' s ∧ Grew w0 W' ∧ Keep2 A B W W'
theorem rdProg_any (w0 : World) (A B : Nat) (s : Gr.Rs) (W : World) (h : RdAt w0.heap.size A B W s) (hg : Grew w0 W) (hs : s.1.length ≤ 1000000) :
    Calls Tryz.prog 157 #[.pointer (some ⟨A, 0, none⟩)] W (RdProg w0 W A B (Gr.progS getL s).1 (Gr.progS getL s).2) := by
  have H := Lib.hid h
  have HG := Lib.hid hg
  have c0 := cell_of (o := 0) h.2.1
  have c1 := cell_of (o := 1) h.2.1
  have hpA := Pre.mk (heap_lt h.2.1)
  simp at c0 c1
  obtain ⟨z, x⟩ := s
  simp only at hs c1
  by_cases he : x = 0
  · subst he
    have hn : Gr.progS getL (z, 0) = ((getL z).1, ((getL z).2.2, (getL z).2.1)) := by unfold Gr.progS; rw [if_neg (by simp)]
    rw [hn]
    have hw := codeGet_keep w0 B z W h.2.2 hg hs
    generalize getL z = r at *
    obtain ⟨y, er, z'⟩ := r
    simp only at hw ⊢
    have HW := Lib.hid hw
    clear h hg hw hn
    go_enter Tryz.func157, Tryz.ntmps157
    go_wp2_with (go_at_call 194; refine HW.out.mono ?_; rintro e w1 ⟨v1, rfl, ho1, hr1, hg1, hk1⟩; simp only at ho1 hr1; obtain ⟨a1, cc1, rfl⟩ := (ho1.rows encI_len).len; obtain ⟨hA1, hR1⟩ := RdAt.put (e := er) H.out hr1 hk1; (have d1 := cell_of (o := 1) hA1); (have g1 := frozen_of (o := 1) hA1); (have pA1 := Pre.mk (heap_lt hA1)); simp at d1; (have HO1 := Lib.hid (OwnAt.setOther (o := 1) (x := .int .i64 er) ho1 hA1 (by decide))); (have HR1 := Lib.hid hR1); (have HG1 := Lib.hid hg1); (have HK1 := Lib.hid hk1); clear ho1 hr1 hg1 hk1 hA1 hR1)
    go_ret
    exact ⟨_, rfl, HO1.out, HR1.out, HG1.out.set H.out.1 _, (Keep2.ofKeep HK1.out).trans Keep2.set⟩
  · have hn : Gr.progS getL (z, x) = ([], (z, x)) := by unfold Gr.progS; rw [if_pos he]
    rw [hn]
    have he2 : (x != 0) = true := by rw [bne_iff_ne]; exact he
    clear h hg he hn
    go_enter Tryz.func157, Tryz.ntmps157
    go_wp2
    go_ret
    exact ⟨_, rfl, OwnAt.nil _, H.out, HG.out, Keep2.refl _ _ _⟩
def endE (s : Gr.Rs) (fine : Bool) : Int := if s.2 ≠ 0 then s.2 else if decide (0 < s.1.length) || !fine then 4 else 0
theorem rdEnd_any (base A B : Nat) (s : Gr.Rs) (fine : Bool) (W : World) (h : RdAt base A B W s) :
    Calls Tryz.prog 106 #[.pointer (some ⟨A, 0, none⟩), .bool fine] W fun e w' => e = .returned (.int .i64 (endE s fine)) ∧ w' = W := by
  have c0 := cell_of (o := 0) h.2.1
  have c1 := cell_of (o := 1) h.2.1
  have hpA := Pre.mk (heap_lt h.2.1)
  simp at c0 c1
  obtain ⟨z, x⟩ := s
  simp only at c1
  have hL := octLeft_any base B z W h.2.2
  have HL := Lib.hid hL
  clear h hL
  by_cases he : x = 0
  · subst he
    by_cases hz : 0 < z.length
    · have hn : endE (z, 0) fine = 4 := by unfold endE; rw [if_neg (by simp)]; simp [hz]
      rw [hn]
      have hz' : (0 : Int) < (z.length : Int) := by omega
      clear hn
      go_enter Tryz.func106, Tryz.ntmps106
      go_wp2_with (go_at_call 153; refine HL.out.mono ?_; rintro e w1 ⟨rfl, rfl⟩)
      go_ret
      exact ⟨rfl, rfl⟩
    · have hz' : ¬ (0 : Int) < (z.length : Int) := by omega
      cases fine with
      | true =>
        have hn : endE (z, 0) true = 0 := by unfold endE; rw [if_neg (by simp)]; simp [hz]
        rw [hn]
        clear hn
        go_enter Tryz.func106, Tryz.ntmps106
        go_wp2_with (go_at_call 153; refine HL.out.mono ?_; rintro e w1 ⟨rfl, rfl⟩)
        go_ret
        exact ⟨rfl, rfl⟩
      | false =>
        have hn : endE (z, 0) false = 4 := by unfold endE; rw [if_neg (by simp)]; simp
        rw [hn]
        clear hn
        go_enter Tryz.func106, Tryz.ntmps106
        go_wp2_with (go_at_call 153; refine HL.out.mono ?_; rintro e w1 ⟨rfl, rfl⟩)
        go_ret
        exact ⟨rfl, rfl⟩
  · have he2 : (x != 0) = true := by rw [bne_iff_ne]; exact he
    have hn : endE (z, x) fine = x := by unfold endE; rw [if_pos he]
    rw [hn]
    clear hn he
    go_enter Tryz.func106, Tryz.ntmps106
    go_wp2
    go_ret
    exact ⟨rfl, rfl⟩



def OkP (z : Gr.Stp) : Prop := 0 ≤ z.nd.id ∧ z.nd.id ≤ 7 ∧ 0 ≤ z.nd.kind ∧ z.nd.kind ≤ 2 ∧ z.nd.frm.length ≤ 3 ∧ 0 ≤ z.nd.par ∧ z.nd.par ≤ 3 ∧ Co.fitsI z.nd.prog = true



end Go.Proofs.YtpbohimddmploaaGreat
