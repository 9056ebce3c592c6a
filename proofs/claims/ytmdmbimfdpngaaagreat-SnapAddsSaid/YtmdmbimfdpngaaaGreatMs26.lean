import Derived.Test.YtmdmbimfdpngaaaGreatMs25
import Derived.Test.YtmdmbimfdpngaaaGreatMs22
import Derived.Test.YtmdmbimfdpngaaaGreatMs3
import Derived.Test.YtmdmbimfdpngaaaGreatMs15
/-! pack.putNode, putGraph, Graph. -/
namespace Go.Proofs.YtmdmbimfdpngaaaGreat
set_option linter.unusedSimpArgs false
set_option linter.unusedVariables false
open Go.RowKit Ga
set_option maxRecDepth 100000

def fitsP (p : List Vm.Ins) : Prop := Co.fitsI p = true
theorem be_one (x : Int) : Oc.bes [x] = Oc.be x := by simp [Oc.bes]
theorem be_three (x y z : Int) : Oc.bes [x, y, z] = Oc.be x ++ (Oc.be y ++ Oc.be z) := by simp [Oc.bes]
theorem KeptW.cells {base B q : Nat} {W W' : World} {c : Array Value} {t : TypeId} (k : KeptW base B W W') (h : W.heap[q]? = some (.cells c t)) (hn : q ≠ B) (ht : t ≠ 5) : W'.heap[q]? = some (.cells c t) := by
  rw [k.2 q (heap_lt h) hn (.inr ⟨_, _, _, h, ht⟩)]; exact h
/-- a slice that the writer does not touch -/
def Apart (base B : Nat) (W : World) (v : Value) : Prop := ∀ b off, (∃ n c, v = .slice (some ⟨b, off, none⟩) n c) → Safe base b W ∧ b ≠ B
theorem Apart.kept {α : Type} {k : Nat} {enc : α → List Value} {base B : Nat} {W W' : World} {v : Value} {l : List α} (h : Apart base B W v) (hk : KeptW base B W W') (hr : RowsAt k enc W v l) (hlt : ∀ b off, (∃ n c, v = .slice (some ⟨b, off, none⟩) n c) → l ≠ [] → b < W.heap.size) : RowsAt k enc W' v l := by
  cases l with
  | nil =>
    obtain ⟨a, cap, rfl, hm, -⟩ := hr
    exact ⟨a, cap, rfl, hm, fun h => absurd rfl h⟩
  | cons x l => exact RowsAt.sameBlock hr fun b off hv => hk.2 b (hlt b off hv (by simp)) (h b off hv).2 (h b off hv).1
theorem Apart.to {base B : Nat} {W W' : World} {v : Value} (h : Apart base B W v) (hk : KeptW base B W W') : Apart base B W' v := fun b off hv => by
  obtain ⟨h1, h2⟩ := h b off hv
  refine ⟨?_, h2⟩
  rcases h1 with h1 | ⟨c, t, f, hc, ht⟩
  · exact .inl h1
  · exact .inr ⟨c, t, f, by rw [hk.2 b (heap_lt hc) h2 (.inr ⟨c, t, f, hc, ht⟩)]; exact hc, ht⟩
theorem ints_lt {W : World} {v : Value} {l : List Int} (h : IntsAt W v l) : ∀ b off, (∃ n c, v = .slice (some ⟨b, off, none⟩) n c) → l ≠ [] → b < W.heap.size := by
  rintro b off ⟨n, c, rfl⟩ hne
  exact rows_lt (k := 0) h (List.length_pos_iff.2 hne)
theorem vals_lt {W : World} {v : Value} {l : List Val} (h : ValsAt W v l) : ∀ b off, (∃ n c, v = .slice (some ⟨b, off, none⟩) n c) → l ≠ [] → b < W.heap.size := by
  rintro b off ⟨n, c, rfl⟩ hne
  exact rows_lt (k := 1) h (List.length_pos_iff.2 hne)
theorem bes_len3 (x y z : Int) : (Oc.bes [x, y, z]).length = 12 := by rw [Oc.bes_len]; rfl
theorem putI_len (p : List Val) (h : Co.fitsI p = true) : (putI p).length ≤ 200 := by
  obtain ⟨h24, _⟩ := Co.fits_parts h
  unfold putI
  rw [List.length_append, Oc.be_len, Oc.bes_len, nums_len]
  omega
theorem fits_of {x : Int} (h0 : -2147483648 ≤ x) (h1 : x ≤ 2147483647) : Oc.fitsN x = true := by unfold Oc.fitsN; simp; omega
def PutPost (w0 W : World) (B : Nat) (zs : List UInt8) (e : Ending) (W' : World) : Prop := e = .returned (.tuple #[]) ∧ Grew w0 W' ∧ KeptW w0.heap.size B W W' ∧ ∃ vb', WriterAt w0.heap.size B W' vb' zs
theorem route_box {W : World} {q : Nat} {t : TypeId} {id kind par r0 r1 r2 r3 r4 r5 r6 r7 : Int} {vf vp : Value} (h : W.heap[q]? = some (.cells #[.int .i64 id, .int .i64 kind, vf, vp, .int .i64 par, .int .i64 r0, .int .i64 r1, .int .i64 r2, .int .i64 r3, .int .i64 r4, .int .i64 r5, .int .i64 r6, .int .i64 r7] t)) : IntsAt W (.slice (some ⟨q, 5, none⟩) 8 8) [r0, r1, r2, r3, r4, r5, r6, r7] := by
  refine ⟨_, 8, rfl, (by unfold maxLen; simp), fun _ => ⟨_, _, rfl, fun i x hi j u hu => ?_⟩⟩
  rw [cell_of h]
  match j, hu with
  | 0, hu =>
    simp at hu
    subst hu
    match i, hi with
    | 0, hi => simp at hi; subst hi; rfl
    | 1, hi => simp at hi; subst hi; rfl
    | 2, hi => simp at hi; subst hi; rfl
    | 3, hi => simp at hi; subst hi; rfl
    | 4, hi => simp at hi; subst hi; rfl
    | 5, hi => simp at hi; subst hi; rfl
    | 6, hi => simp at hi; subst hi; rfl
    | 7, hi => simp at hi; subst hi; rfl
    | i + 8, hi => simp at hi
  | j + 1, hu => simp at hu
theorem putNd_eq (ys : List UInt8) (n : Gr.Nd) : ((((ys ++ Oc.bes [n.id, n.kind, n.frm.length]) ++ Oc.bes n.frm) ++ putI n.prog) ++ Oc.bes [n.par]) ++ Oc.bes n.route = ys ++ Gr.putNd putI n := by
  rw [be_three, be_one]
  unfold Gr.putNd
  simp only [List.append_assoc]
set_option maxHeartbeats 8000000 in
theorem putNode_any (w0 W : World) (B : Nat) (vb : Value) (ys : List UInt8) (c : NdC) (n : Gr.Nd) (lp : Int) (hlp : -2147483648 ≤ lp) (hw : WriterAt w0.heap.size B W vb ys) (hg : Grew w0 W) (hn : NodeIs W c n) (hsf : Apart w0.heap.size B W c.vf) (hsp : Apart w0.heap.size B W c.vp) (hok : Gr.OkB fitsP lp n) (hlen : ys.length ≤ 8000) :
    Calls Tryz.prog 147 #[.pointer (some ⟨B, 0, none⟩), .agg #[.int .i64 c.id, .int .i64 c.kind, .slice c.af c.nf c.cf, .slice c.ap c.np c.cp, .int .i64 c.par, .int .i64 c.r0, .int .i64 c.r1, .int .i64 c.r2, .int .i64 c.r3, .int .i64 c.r4, .int .i64 c.r5, .int .i64 c.r6, .int .i64 c.r7]] W (PutPost w0 W B (ys ++ Gr.putNd putI n)) := by
  obtain ⟨id, kind, af, cf, ap, cp, par, r0, r1, r2, r3, r4, r5, r6, r7, rfl⟩ := hn.lit
  have hr8 := hn.route
  simp only at hr8
  have HW := Lib.hid hw
  have HG := Lib.hid hg
  have HN := Lib.hid hn
  have HSF := Lib.hid hsf
  have HSP := Lib.hid hsp
  have HOK := Lib.hid hok
  have HR8 := Lib.hid hr8
  have hBlt := (Array.getElem?_eq_some_iff.1 hw.2.1).1
  have hneB : W.heap.size ≠ B := by omega
  clear hw hg hn hsf hsp hok hr8
  have hbx0 : (W.alloc (.cells #[.int .i64 id, .int .i64 kind, .slice af n.frm.length cf, .slice ap n.prog.length cp, .int .i64 par, .int .i64 r0, .int .i64 r1, .int .i64 r2, .int .i64 r3, .int .i64 r4, .int .i64 r5, .int .i64 r6, .int .i64 r7] 42)).heap[W.heap.size]? = some (.cells #[.int .i64 id, .int .i64 kind, .slice af n.frm.length cf, .slice ap n.prog.length cp, .int .i64 par, .int .i64 r0, .int .i64 r1, .int .i64 r2, .int .i64 r3, .int .i64 r4, .int .i64 r5, .int .i64 r6, .int .i64 r7] 42) := heap_new_at W _ _ rfl
  have HBX0 := Lib.hid hbx0
  clear hbx0
  show Calls Tryz.prog 147 #[.pointer (some ⟨B, 0, none⟩), .agg #[.int .i64 id, .int .i64 kind, .slice af n.frm.length cf, .slice ap n.prog.length cp, .int .i64 par, .int .i64 r0, .int .i64 r1, .int .i64 r2, .int .i64 r3, .int .i64 r4, .int .i64 r5, .int .i64 r6, .int .i64 r7]] W _
  go_enter Tryz.func147, Tryz.ntmps147
  go_wp2_with fail
  refine (writerNum_freshK w0 (W.alloc (.cells #[.int .i64 id, .int .i64 kind, .slice af n.frm.length cf, .slice ap n.prog.length cp, .int .i64 par, .int .i64 r0, .int .i64 r1, .int .i64 r2, .int .i64 r3, .int .i64 r4, .int .i64 r5, .int .i64 r6, .int .i64 r7] 42)) B vb ys [id, kind, n.frm.length] [.int .i64 id, .int .i64 kind, .int .i64 n.frm.length] _ _ _ (HW.out.grew (by repeat (first | with_reducible exact Grew.refl _ | apply Grew.more | apply Grew.alloc | apply Grew.drew | apply Grew.drewN))) (HG.out.alloc _) rfl (by simp [go_sem]) rfl ?_ (by simp; omega)).mono ?_
  · have h1 := HOK.out.i
    have h2 := HOK.out.k
    have h3 := HOK.out.m
    have h4 := HN.out.id
    have h5 := HN.out.kind
    simp only at h4 h5
    simp only [List.all_cons, List.all_nil, Bool.and_true, Bool.and_eq_true]
    exact ⟨fits_of (by omega) (by omega), fits_of (by omega) (by omega), fits_of (by omega) (by omega)⟩
  rintro e W1 ⟨rfl, hg1, hk1, vb1, hw1⟩
  have HW1 := Lib.hid hw1
  have HG1 := Lib.hid hg1
  have HK1 := Lib.hid ((KeptW.ofGrew ((Grew.refl W).alloc _)).trans hk1)
  have hbx1 := hk1.cells HBX0.out hneB (by decide)
  have HBX1 := Lib.hid hbx1
  clear hw1 hg1 hk1
  have x2 := cell_of (o := 2) HBX1.out
  simp at x2
  have px2 := Pre.mk (heap_lt HBX1.out)
  have hl1 := bes_len3 id kind n.frm.length
  have hfl := HOK.out.m
  have HL1 := Lib.hid hl1
  clear hl1
  go_wp2_with fail
  refine (writerNum_keep w0 W1 B vb1 _ _ n.frm HW1.out HG1.out (HSF.out.kept HK1.out HN.out.f (ints_lt HN.out.f)) (HSF.out.to HK1.out) (List.all_eq_true.2 fun x hx => ?_) (by rw [List.length_append, HL1.out]; omega)).mono ?_
  · have := HOK.out.f x hx
    exact fits_of (by omega) (by omega)
  rintro e W2 ⟨rfl, hg2, hk2, vb2, hw2⟩
  have HW2 := Lib.hid hw2
  have HG2 := Lib.hid hg2
  have HK2 := Lib.hid (HK1.out.trans hk2)
  have hbx2 := hk2.cells HBX1.out hneB (by decide)
  have HBX2 := Lib.hid hbx2
  clear hw2 hg2 hk2 hbx2 x2 px2
  have x3 := cell_of (o := 3) HBX2.out
  simp at x3
  have px3 := Pre.mk (heap_lt HBX2.out)
  go_wp2_with fail
  refine (codePut_keep w0 W2 B vb2 _ _ n.prog HW2.out HG2.out (HSP.out.kept HK2.out HN.out.p (vals_lt HN.out.p)) (HSP.out.to HK2.out) HOK.out.p (by rw [List.length_append, List.length_append, HL1.out, Oc.bes_len]; omega)).mono ?_
  rintro e W3 ⟨rfl, hg3, hk3, vb3, hw3⟩
  have HW3 := Lib.hid hw3
  have HG3 := Lib.hid hg3
  have HK3 := Lib.hid (HK2.out.trans hk3)
  have hbx3 := hk3.cells HBX2.out hneB (by decide)
  have HBX3 := Lib.hid hbx3
  have hpl := putI_len n.prog HOK.out.p
  clear hw3 hg3 hk3 hbx3 x3 px3
  have x4 := cell_of (o := 4) HBX3.out
  simp at x4
  have px4 := Pre.mk (heap_lt HBX3.out)
  go_wp2_with fail
  refine (writerNum_freshK w0 W3 B vb3 _ [par] [.int .i64 par] _ _ _ HW3.out HG3.out rfl (by simp [go_sem]) rfl ?_ (by simp only [List.length_append, HL1.out, Oc.bes_len, List.length_cons, List.length_nil]; omega)).mono ?_
  · have h1 := HOK.out.r
    have h4 := HN.out.par
    simp only at h4
    simp only [List.all_cons, List.all_nil, Bool.and_true]
    exact fits_of (by omega) (by omega)
  rintro e W4 ⟨rfl, hg4, hk4, vb4, hw4⟩
  have HW4 := Lib.hid hw4
  have HG4 := Lib.hid hg4
  have HK4 := Lib.hid (HK3.out.trans hk4)
  have hbx4 := hk4.cells HBX3.out hneB (by decide)
  have HBX4 := Lib.hid hbx4
  clear hw4 hg4 hk4 hbx4 x4 px4
  have px5 := Pre.mk (heap_lt HBX4.out)
  go_wp2_with fail
  refine (writerNum_keep w0 W4 B vb4 _ _ [r0, r1, r2, r3, r4, r5, r6, r7] HW4.out HG4.out (route_box HBX4.out) ?_ (List.all_eq_true.2 fun x hx => ?_) (by simp only [List.length_append, HL1.out, Oc.bes_len, List.length_cons, List.length_nil]; omega)).mono ?_
  · rintro b off ⟨m, k, e⟩
    cases e
    exact ⟨.inr ⟨_, _, _, HBX4.out, by decide⟩, hneB⟩
  · rw [← HR8.out] at hx
    have := HOK.out.o x hx
    exact fits_of (by omega) (by omega)
  rintro e W5 ⟨rfl, hg5, hk5, vb5, hw5⟩
  have HW5 := Lib.hid hw5
  have HG5 := Lib.hid hg5
  have HK5 := Lib.hid (HK4.out.trans hk5)
  clear hw5 hg5 hk5
  go_wp2
  go_end0
  refine ⟨rfl, HG5.out, HK5.out, vb5, ?_⟩
  have h1 := HN.out.id
  have h2 := HN.out.kind
  have h3 := HN.out.par
  simp only at h1 h2 h3
  rw [← putNd_eq, h1, h2, h3, HR8.out]
  exact HW5.out
end Go.Proofs.YtmdmbimfdpngaaaGreat

/-! Right values stay right while a program runs. -/
namespace Vm
set_option linter.unusedSimpArgs false
set_option linter.unusedVariables false
open Ga

theorem right_of {x y : Int} (hx : -524288 ≤ x ∧ x < 524288) (hy : -524288 ≤ y ∧ y < 524288) : rightV (x, y) = true := by
  unfold rightV; simp only [into_id hx, into_id hy, decide_true, Bool.and_self]
theorem right_into (x y : Int) : rightV (into x, into y) = true := right_of (into_range x) (into_range y)
theorem right_two (op : Int) (x y : Val) : rightV (two op x y) = true := by
  unfold two addV subV mulV
  (repeat' split) <;> first | exact right_into _ _ | exact right_of (by decide) (by decide)
def AllRight (s : St) : Prop := rightV s.c0 = true ∧ rightV s.c1 = true ∧ ∀ v ∈ s.stack, rightV v = true
theorem AllRight.push {s : St} (h : AllRight s) {v : Val} (hv : rightV v = true) : AllRight (push1 s v) := by
  refine ⟨h.1, h.2.1, fun u hu => ?_⟩
  rcases List.mem_append.1 hu with e | e
  · exact h.2.2 u e
  · rw [List.mem_singleton] at e; rw [e]; exact hv
theorem AllRight.pop {s : St} (h : AllRight s) : AllRight (pop1 s) :=
  ⟨h.1, h.2.1, fun u hu => h.2.2 u (List.dropLast_subset _ hu)⟩
theorem AllRight.top {s : St} (h : AllRight s) : rightV (top1 s) = true := by
  unfold top1
  rw [List.getLastD_eq_getLast?]
  cases e : s.stack.getLast? with
  | none => exact right_of (by decide) (by decide)
  | some v => exact h.2.2 v (List.mem_of_getLast? e)
theorem AllRight.cell {s : St} (h : AllRight s) (a : Int) : rightV (cellAt s a) = true := by
  unfold cellAt; split
  · exact h.1
  · exact h.2.1
theorem AllRight.setCell {s : St} (h : AllRight s) (a : Int) {v : Val} (hv : rightV v = true) : AllRight (setCellAt s a v) := by
  unfold setCellAt; split
  · exact ⟨hv, h.2.1, h.2.2⟩
  · exact ⟨h.1, hv, h.2.2⟩
theorem AllRight.jump {s : St} (h : AllRight s) (k : Int) : AllRight (jump1 s k) := h
theorem AllRight.emit {s : St} (h : AllRight s) (v : Val) : AllRight (emit1 s v) := h
theorem AllRight.fetch {s : St} (h : AllRight s) : AllRight (fetch s) := h
theorem ite_all {α : Type} {P : α → Prop} {c : Prop} [Decidable c] {a b : α} (ha : P a) (hb : P b) : P (if c then a else b) := by
  by_cases h : c
  · rw [if_pos h]; exact ha
  · rw [if_neg h]; exact hb
theorem AllRight.effect {s : St} (h : AllRight s) {inp : Val} (hin : rightV inp = true) {i : Ins} (hi : -524288 ≤ i.2 ∧ i.2 < 524288) : AllRight (effect inp i s) := by
  unfold Vm.effect
  refine ite_all (P := AllRight) (h.push (right_of hi (by decide))) ?_
  refine ite_all (P := AllRight) (h.push (right_of (by decide) hi)) ?_
  refine ite_all (P := AllRight) (h.push hin) ?_
  refine ite_all (P := AllRight) (h.push (h.cell _)) ?_
  refine ite_all (P := AllRight) (h.pop.setCell _ h.top) ?_
  refine ite_all (P := AllRight) (ite_all (P := AllRight) (h.pop.jump _) h.pop) ?_
  refine ite_all (P := AllRight) (h.jump _) ?_
  refine ite_all (P := AllRight) (h.pop.pop.push (right_two _ _ _)) ?_
  refine ite_all (P := AllRight) (h.pop.push (right_into _ _)) ?_
  refine ite_all (P := AllRight) (h.pop.push (right_into _ _)) ?_
  refine ite_all (P := AllRight) ((h.pop.push h.top).push h.top) ?_
  refine ite_all (P := AllRight) ((h.pop.pop.push h.top).push h.pop.top) ?_
  exact ite_all (P := AllRight) (h.pop.emit _) h.pop
theorem AllRight.exec {p : List Ins} {inp : Val} (hin : rightV inp = true) (hp : ∀ i ∈ p, -524288 ≤ i.2 ∧ i.2 < 524288) : ∀ (f : Nat) (s : St), AllRight s → AllRight (Vm.exec p inp f s)
  | 0, s, h => h
  | f + 1, s, h => by
    rw [Vm.exec]
    cases e : p[s.pc]? with
    | none => exact h
    | some i =>
      simp only
      split
      · exact h.fetch
      · exact AllRight.exec hin hp f _ (h.fetch.effect hin (hp i (List.mem_of_getElem? e)))
/-! ### each step leads on, so that as many rounds as the program is long are enough -/
theorem effect_gt {p : List Ins} {s : St} {o a : Int} (ho : 1 ≤ o ∧ o ≤ 17) (inp : Val) : s.pc < (effect inp (o, a) (fetch s)).pc := by
  rw [effect_pc ho, fetch_pc]
  repeat' split
  all_goals omega
theorem exec_enough {p : List Ins} (hp : ∀ i ∈ p, 0 ≤ i.1 ∧ i.1 ≤ 17) {inp : Val} : ∀ (f : Nat) (s : St), p.length - s.pc < f → exec p inp (f + 1) s = exec p inp f s
  | 0, s, h => absurd h (Nat.not_lt_zero _)
  | f + 1, s, h => by
    rw [exec, exec]
    cases e : p[s.pc]? with
    | none => rfl
    | some i =>
      obtain ⟨o, a⟩ := i
      simp only
      split
      · rfl
      · rename_i h0
        have hm := hp _ (List.mem_of_getElem? e)
        simp only at hm
        have hlt : s.pc < p.length := (List.getElem?_eq_some_iff.1 e).1
        have hg := effect_gt (p := p) (s := s) (o := o) (a := a) (by omega) inp
        exact exec_enough hp f _ (by omega)
theorem fits_op {p : List Ins} (h : Co.fitsI p = true) : ∀ i ∈ p, 0 ≤ i.1 ∧ i.1 ≤ 17 := by
  intro i hi
  unfold Co.fitsI at h
  rw [Bool.and_eq_true] at h
  have h2 := List.all_eq_true.1 h.2 i hi
  unfold Co.rightI at h2
  simp only [Bool.and_eq_true, decide_eq_true_eq] at h2
  omega
/-- where it ends -/
def done (p : List Ins) (inp : Val) (s : St) : St := exec p inp (p.length + 1) s
theorem done_step {p : List Ins} (hp : ∀ i ∈ p, 0 ≤ i.1 ∧ i.1 ≤ 17) {inp : Val} {s : St} {i : Ins} (h : p[s.pc]? = some i) (h0 : i.1 ≠ 0) : done p inp s = done p inp (effect inp i (fetch s)) := by
  obtain ⟨o, a⟩ := i
  have hm := hp _ (List.mem_of_getElem? h)
  simp only at hm h0
  have hlt : s.pc < p.length := (List.getElem?_eq_some_iff.1 h).1
  have hg := effect_gt (p := p) (s := s) (o := o) (a := a) (by omega) inp
  have e1 : done p inp s = exec p inp p.length (effect inp (o, a) (fetch s)) := by
    unfold done; rw [exec, h]; exact if_neg h0
  rw [e1]
  exact (exec_enough hp _ _ (by omega)).symm

/-! ### one input after the other -/
structure Res where
  out : List Val
  c0 : Val
  c1 : Val
  steps : Int
def stOf (r : Res) : St := ⟨r.out, r.c0, r.c1, r.steps, 0, []⟩
def resOf (s : St) : Res := ⟨s.out, s.c0, s.c1, s.steps⟩
def go (p : List Ins) (r : Res) (inp : Val) : Res := resOf (exec p inp (p.length + 1) (stOf r))
def each (p : List Ins) (r : Res) (l : List Val) : Res := l.foldl (go p) r
/-! ### bounds -/
theorem setCellAt_steps (s a v) : (setCellAt s a v).steps = s.steps ∧ (setCellAt s a v).out = s.out := by unfold setCellAt; split <;> exact ⟨rfl, rfl⟩
theorem emit1_out (s v) : (emit1 s v).out.length = s.out.length + 1 := by unfold emit1; simp
theorem effect_bounds (inp : Val) (i : Ins) (s : St) : (effect inp i s).steps = s.steps ∧ (effect inp i s).out.length ≤ s.out.length + 1 := by
  unfold Vm.effect
  have P0 : ∀ t : St, t.steps = s.steps → t.out = s.out → t.steps = s.steps ∧ t.out.length ≤ s.out.length + 1 := fun t h1 h2 => ⟨h1, by rw [h2]; omega⟩
  refine ite_all (P := fun t : St => t.steps = s.steps ∧ t.out.length ≤ s.out.length + 1) (P0 _ rfl rfl) ?_
  refine ite_all (P := fun t : St => t.steps = s.steps ∧ t.out.length ≤ s.out.length + 1) (P0 _ rfl rfl) ?_
  refine ite_all (P := fun t : St => t.steps = s.steps ∧ t.out.length ≤ s.out.length + 1) (P0 _ rfl rfl) ?_
  refine ite_all (P := fun t : St => t.steps = s.steps ∧ t.out.length ≤ s.out.length + 1) (P0 _ rfl rfl) ?_
  refine ite_all (P := fun t : St => t.steps = s.steps ∧ t.out.length ≤ s.out.length + 1) (P0 _ (setCellAt_steps ..).1 (setCellAt_steps ..).2) ?_
  refine ite_all (P := fun t : St => t.steps = s.steps ∧ t.out.length ≤ s.out.length + 1) (ite_all (P := fun t : St => t.steps = s.steps ∧ t.out.length ≤ s.out.length + 1) (P0 _ rfl rfl) (P0 _ rfl rfl)) ?_
  refine ite_all (P := fun t : St => t.steps = s.steps ∧ t.out.length ≤ s.out.length + 1) (P0 _ rfl rfl) ?_
  refine ite_all (P := fun t : St => t.steps = s.steps ∧ t.out.length ≤ s.out.length + 1) (P0 _ rfl rfl) ?_
  refine ite_all (P := fun t : St => t.steps = s.steps ∧ t.out.length ≤ s.out.length + 1) (P0 _ rfl rfl) ?_
  refine ite_all (P := fun t : St => t.steps = s.steps ∧ t.out.length ≤ s.out.length + 1) (P0 _ rfl rfl) ?_
  refine ite_all (P := fun t : St => t.steps = s.steps ∧ t.out.length ≤ s.out.length + 1) (P0 _ rfl rfl) ?_
  refine ite_all (P := fun t : St => t.steps = s.steps ∧ t.out.length ≤ s.out.length + 1) (P0 _ rfl rfl) ?_
  refine ite_all (P := fun t : St => t.steps = s.steps ∧ t.out.length ≤ s.out.length + 1) ⟨rfl, by rw [emit1_out]; exact Nat.le_refl _⟩ (P0 _ rfl rfl)
end Vm

/-! What holds at each round of a run. -/
namespace Vm
set_option linter.unusedSimpArgs false
set_option linter.unusedVariables false
open Ga

theorem goC_inv {p : List Ins} {c : Cst} : ∀ (l : List Ins) (k : Nat) (s : Cst), goC p l k s = some c → Inv s → Inv c
  | [], _, s, h, hi => by cases h; exact hi
  | i :: l, k, s, h, hi => by
    rw [goC] at h
    split at h
    · rename_i hk
      split at h
      · exact goC_inv l _ _ h (hi.step hk)
      · cases h
    · exact goC_inv l _ _ h hi
theorem checkC_inv {p : List Ins} {c : Cst} (h : checkC p = some c) : Inv c := by
  unfold checkC at h
  split at h
  · exact goC_inv p 0 _ h (Inv.start _)
  · cases h
theorem checkC_fits {p : List Ins} {c : Cst} (h : checkC p = some c) : Co.fitsI p = true := by
  unfold checkC at h
  split at h
  · assumption
  · cases h

/-- At each fetch. -/
structure At (l : List Ins) (c : Cst) (inp : Val) (s0 : St) (st : St) : Prop where
  dn : done l inp st = done l inp s0
  gd : Good l c st
  ot : st.out.length ≤ s0.out.length + st.pc
  s1 : s0.steps ≤ st.steps
  s2 : st.steps ≤ s0.steps + st.pc
  pc : st.pc ≤ 48
theorem At.len {l : List Ins} {c : Cst} (hc : checkC l = some c) {inp : Val} {s0 st : St} (h : At l c inp s0 st) (hp : st.pc < l.length) : st.stack.length ≤ 8 := by
  have h1 := h.gd hp
  have h2 := (checkC_inv hc).1 st.pc
  omega
theorem right_parts' {l : List Ins} {c : Cst} (hc : checkC l = some c) {k : Nat} {x a : Int} (hi : l[k]? = some (x, a)) : 0 ≤ x ∧ x ≤ 17 ∧ -524288 ≤ a ∧ a ≤ 524287 ∧ (x = 15 ∨ x = 16 → 1 ≤ a ∧ a ≤ 24) ∧ (x = 4 ∨ x = 5 → a = 0 ∨ a = 1) := by
  have hf := checkC_fits hc
  have h := (Co.fits_parts hf).2 _ (List.mem_of_getElem? hi)
  unfold Co.rightI Co.lo Co.hi at h
  simp only [Bool.and_eq_true, decide_eq_true_eq] at h
  grind
theorem At.next {l : List Ins} {c : Cst} (hc : checkC l = some c) {inp : Val} {s0 st : St} (h : At l c inp s0 st) {x a : Int} (hi : l[st.pc]? = some (x, a)) (hx : x ≠ 0) :
    takes x ≤ st.stack.length ∧ At l c inp s0 (effect inp (x, a) (fetch st)) ∧ st.pc < (effect inp (x, a) (fetch st)).pc := by
  have hf := checkC_fits hc
  obtain ⟨r0, r1, r2, r3, r4, r5⟩ := right_parts' hc hi
  have hlt : st.pc < l.length := (List.getElem?_eq_some_iff.1 hi).1
  have h24 := (Co.fits_parts hf).1
  obtain ⟨g1, g2⟩ := good_effect hc h.gd hi ⟨by omega, r1⟩ inp
  have hpc := effect_pc (s := fetch st) (a := a) ⟨show 1 ≤ x by omega, r1⟩ inp
  have hgt := effect_gt (p := l) (s := st) (a := a) ⟨show 1 ≤ x by omega, r1⟩ inp
  have hb := effect_bounds inp (x, a) (fetch st)
  have e1 : (fetch st).steps = st.steps + 1 := rfl
  have e2 : (fetch st).out = st.out := rfl
  have e3 : (fetch st).pc = st.pc + 1 := rfl
  rw [e1, e2] at hb
  rw [e3] at hpc
  have hle : (effect inp (x, a) (fetch st)).pc ≤ st.pc + 25 := by
    rw [hpc]
    by_cases h16 : x = 16
    · have := r4 (.inr h16); rw [if_pos h16]; omega
    · by_cases h15 : x = 15
      · have := r4 (.inl h15); rw [if_neg h16, if_pos h15]; split <;> omega
      · rw [if_neg h16, if_neg h15]; omega
  have := h.ot
  have := h.s1
  have := h.s2
  exact ⟨g1, ⟨(done_step (fits_op hf) hi hx).symm.trans h.dn, g2, by omega, by omega, by omega, by omega⟩, hgt⟩
end Vm

/-! One input after the other: what the law says. -/
namespace Vm
set_option linter.unusedSimpArgs false
set_option linter.unusedVariables false
open Ga
/-- what holds before input k -/
def Upto (l : List Ins) (c0 c1 : Val) (ins : List Val) (k : Nat) : Prop := 0 < k → safe l = true ∧ ([c0, c1].all rightV) = true ∧ (ins.take k).all rightV = true
/-! the document's example -/
end Vm

/-! What no run exceeds: plain laws. -/
namespace Vm
set_option linter.unusedSimpArgs false
set_option linter.unusedVariables false
open Ga

/-! ### the steps -/
/-! ### what is put out is right -/
/-! ### the cells of a program that stores nothing -/
/-! ### no more than four are put out -/
theorem come_emits_other {n : Nat} {s : Cst} {k : Nat} {d e : Int} {j : Nat} (h : j ≠ k) : (come n s k d e).1.emits.getD j 0 = s.emits.getD j 0 := by
  unfold come
  split
  · rfl
  split
  · rfl
  split
  · rfl
  · show (s.emits.set k _).getD j 0 = _
    rw [getD_set, if_neg fun x => h x.1]
theorem come_emits_le {n : Nat} {s : Cst} {k : Nat} {d e : Int} {j : Nat} : s.emits.getD j 0 ≤ (come n s k d e).1.emits.getD j 0 := by
  unfold come
  split
  · exact Int.le_refl _
  split
  · exact Int.le_refl _
  split
  · exact Int.le_refl _
  · show _ ≤ (s.emits.set k _).getD j 0
    rw [getD_set]
    split
    · rename_i h; rw [h.1]; omega
    · exact Int.le_refl _
theorem come_emits_set {n : Nat} {s : Cst} {k : Nat} {d e : Int} (hb : (come n s k d e).2 = true) (hk : k < n) (hl : s.emits.length = n) : e ≤ (come n s k d e).1.emits.getD k 0 := by
  unfold come at hb ⊢
  split at hb
  · cases hb
  split at hb
  · omega
  split at hb
  · cases hb
  · rename_i h1 h2 h3
    rw [if_neg h1, if_neg h2, if_neg h3]
    show e ≤ (s.emits.set k _).getD k 0
    rw [getD_set, if_pos ⟨rfl, by omega⟩]
    omega
theorem come_ok {n : Nat} {s : Cst} {k : Nat} {d e : Int} (hb : (come n s k d e).2 = true) : e ≤ 4 := by
  unfold come at hb
  split at hb
  · cases hb
  · omega
theorem come_elen (n : Nat) (s : Cst) (k : Nat) (d e : Int) : (come n s k d e).1.emits.length = s.emits.length := by
  unfold come
  split
  · rfl
  split
  · rfl
  split
  · rfl
  · exact List.length_set ..
theorem comes_elen (n : Nat) (d e : Int) : ∀ (l : List Nat) (s : Cst), (comes n d e l s).1.emits.length = s.emits.length
  | [], s => rfl
  | k :: l, s => by
    rw [comes]; split
    · exact (comes_elen n d e l _).trans (come_elen ..)
    · exact come_elen ..
theorem comes_emits_le {n : Nat} {d e : Int} {j : Nat} : ∀ (l : List Nat) (s : Cst), s.emits.getD j 0 ≤ (comes n d e l s).1.emits.getD j 0
  | [], s => Int.le_refl _
  | k :: l, s => by
    rw [comes]; split
    · exact Int.le_trans come_emits_le (comes_emits_le l _)
    · exact come_emits_le
theorem comes_emits_low {n : Nat} {d e : Int} {j : Nat} : ∀ (l : List Nat) (s : Cst), (∀ k ∈ l, j < k) → (comes n d e l s).1.emits.getD j 0 = s.emits.getD j 0
  | [], s, _ => rfl
  | k :: l, s, h => by
    have hk := h k (List.mem_cons_self ..)
    rw [comes]; split
    · exact (comes_emits_low l _ fun a ha => h a (List.mem_cons_of_mem _ ha)).trans (come_emits_other (by omega))
    · exact come_emits_other (by omega)
theorem comes_emits_set {n : Nat} {d e : Int} : ∀ (l : List Nat) (s : Cst), s.emits.length = n → (comes n d e l s).2 = true → ∀ k ∈ l, e ≤ 4 ∧ (k < n → e ≤ (comes n d e l s).1.emits.getD k 0)
  | [], s, _, _, k, hk => by cases hk
  | a :: l, s, hl, hb, k, hk => by
    rw [comes] at hb ⊢
    split at hb
    · rename_i ha
      rw [if_pos ha]
      rcases List.mem_cons.1 hk with e1 | e1
      · subst e1
        exact ⟨come_ok ha, fun hn => Int.le_trans (come_emits_set ha hn hl) (comes_emits_le l _)⟩
      · exact comes_emits_set l _ ((come_elen ..).trans hl) hb k e1
    · cases hb
theorem uses_emits (s : Cst) (i : Ins) : (uses s i).emits = s.emits := by
  unfold uses; split
  · split <;> rfl
  · rfl
theorem stepC_elen (p : List Ins) (s : Cst) (k : Nat) (i : Ins) : (stepC p s k i).1.emits.length = s.emits.length := by
  unfold stepC; split
  · rfl
  · rw [comes_elen, uses_emits]
theorem stepC_emits_le {p : List Ins} {s : Cst} {k : Nat} {i : Ins} {j : Nat} : s.emits.getD j 0 ≤ (stepC p s k i).1.emits.getD j 0 := by
  unfold stepC; split
  · exact Int.le_refl _
  · have := comes_emits_le (n := p.length) (d := s.depth.getD k (-1) - takes i.1 + leaves i.1) (e := s.emits.getD k 0 + if i.1 = 14 then 1 else 0) (j := j) (next p k i) (uses s i)
    rw [uses_emits] at this
    exact this
theorem stepC_emits_low {p : List Ins} {s : Cst} {k : Nat} {i : Ins} {j : Nat} (hk : k < p.length) (hj : j ≤ k) : (stepC p s k i).1.emits.getD j 0 = s.emits.getD j 0 := by
  unfold stepC; split
  · rfl
  · rw [comes_emits_low _ _ (fun a ha => by have := next_gt hk a ha; omega), uses_emits]
theorem goC_emits_le {p : List Ins} {c : Cst} {j : Nat} : ∀ (l : List Ins) (k : Nat) (s : Cst), goC p l k s = some c → s.emits.getD j 0 ≤ c.emits.getD j 0
  | [], _, s, h => by cases h; exact Int.le_refl _
  | i :: l, k, s, h => by
    rw [goC] at h
    split at h
    · split at h
      · exact Int.le_trans stepC_emits_le (goC_emits_le l _ _ h)
      · cases h
    · exact goC_emits_le l _ _ h
theorem goC_emits_low {p : List Ins} {c : Cst} {j : Nat} : ∀ (l : List Ins) (k : Nat) (s : Cst), goC p l k s = some c → k + l.length = p.length → j < k → c.emits.getD j 0 = s.emits.getD j 0
  | [], _, s, h, _, _ => by cases h; rfl
  | i :: l, k, s, h, hl, hj => by
    rw [List.length_cons] at hl
    rw [goC] at h
    split at h
    · split at h
      · exact (goC_emits_low l _ _ h (by omega) (by omega)).trans (stepC_emits_low (by omega) (by omega))
      · cases h
    · exact goC_emits_low l _ _ h (by omega) (by omega)
def ESound (p : List Ins) (c : Cst) (k : Nat) (i : Ins) : Prop :=
  c.depth.getD k (-1) ≠ -1 → ∀ a ∈ next p k i, c.emits.getD k 0 + (if i.1 = 14 then 1 else 0) ≤ 4 ∧ (a < p.length → c.emits.getD k 0 + (if i.1 = 14 then 1 else 0) ≤ c.emits.getD a 0)
theorem goC_esound {p : List Ins} {c : Cst} : ∀ (l : List Ins) (k : Nat) (s : Cst), goC p l k s = some c → k + l.length = p.length → s.emits.length = p.length → ∀ j i, l[j]? = some i → ESound p c (k + j) i
  | [], _, s, _, _, _, j, i, hj => by simp at hj
  | i0 :: l, k, s, h, hl, hd, j, i, hj => by
    rw [List.length_cons] at hl
    rw [goC] at h
    cases j with
    | succ j =>
      rw [List.getElem?_cons_succ] at hj
      have e : k + (j + 1) = k + 1 + j := by omega
      rw [e]
      split at h
      · split at h
        · exact goC_esound l _ _ h (by omega) ((stepC_elen ..).trans hd) j i hj
        · cases h
      · exact goC_esound l _ _ h (by omega) hd j i hj
    | zero =>
      rw [List.getElem?_cons_zero] at hj
      cases hj
      intro hk
      rw [Nat.add_zero] at hk ⊢
      split at h
      · rename_i hs
        split at h
        · rename_i hb
          have e1 : c.emits.getD k 0 = s.emits.getD k 0 := (goC_emits_low l _ _ h (by omega) (by omega)).trans (stepC_emits_low (by omega) (by omega))
          rw [e1]
          intro a ha
          have hb' := hb
          unfold stepC at hb'
          split at hb'
          · cases hb'
          · rename_i ht
            obtain ⟨h1, h2⟩ := comes_emits_set (next p k i0) (uses s i0) (by rw [uses_emits]; exact hd) hb' a ha
            refine ⟨h1, fun hal => Int.le_trans ?_ (goC_emits_le l _ _ h)⟩
            have e2 : (stepC p s k i0).1 = (comes p.length (s.depth.getD k (-1) - takes i0.1 + leaves i0.1) (s.emits.getD k 0 + if i0.1 = 14 then 1 else 0) (next p k i0) (uses s i0)).1 := by
              unfold stepC; rw [if_neg ht]
            rw [e2]
            exact h2 hal
        · cases h
      · rename_i hs
        exact absurd ((goC_low l _ _ h (by omega) (by omega)).trans (Classical.byContradiction fun x => hs x)) hk
theorem checkC_esound {p : List Ins} {c : Cst} (h : checkC p = some c) {k : Nat} {i : Ins} (hi : p[k]? = some i) : ESound p c k i := by
  unfold checkC at h
  split at h
  · have := goC_esound p 0 _ h (by omega) ((come_elen ..).trans List.length_replicate) k i hi
    rwa [Nat.zero_add] at this
  · cases h
end Vm
