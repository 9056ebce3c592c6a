import Derived.Test.YtangapokicnfgaaGreatMr22
import Derived.Test.YtangapokicnfgaaGreatMr23
import Derived.Test.YtangapokicnfgaaGreatMr19
import Derived.Test.YtangapokicnfgaaGreatMr20
import Derived.Test.YtangapokicnfgaaGreatMr13
/-! pack.putGraph, Graph. -/
namespace Go.Proofs.YtangapokicnfgaaGreat
set_option linter.unusedSimpArgs false
set_option linter.unusedVariables false
open Go.RowKit Ga
set_option maxRecDepth 100000

theorem OwnsNd.kept {base base0 B : Nat} {W W' : World} {c : NdC} {n : Gr.Nd} (o : OwnsNd base W c n) (hk : KeptW base0 B W W') (hB : B < base) : OwnsNd base W' c n := by
  refine ⟨OwnAt.same o.1 fun b h => ?_, OwnAt.same o.2 fun b h => ?_⟩
  · obtain ⟨h1, cs, h2⟩ := OwnAt.block o.1 h
    exact hk.2 b (heap_lt h2) (by omega) (.inr ⟨_, _, _, h2, by decide⟩)
  · obtain ⟨h1, cs, h2⟩ := OwnAt.block o.2 h
    exact hk.2 b (heap_lt h2) (by omega) (.inr ⟨_, _, _, h2, by decide⟩)
theorem NodesOwn.kept {base base0 B : Nat} {W W' : World} {v : Value} {lc : List NdC} (o : NodesOwn base W v lc) (hk : KeptW base0 B W W') (hB : B < base) : NodesOwn base W' v lc :=
  OwnAt.same o fun b h => by
    obtain ⟨h1, cs, h2⟩ := OwnAt.block o h
    exact hk.2 b (heap_lt h2) (by omega) (.inr ⟨_, _, _, h2, by decide⟩)
theorem NodesIn.kept {base base0 B : Nat} {W W' : World} {lc : List NdC} {l : List Gr.Nd} (h : NodesIn base W lc l) (hk : KeptW base0 B W W') (hB : B < base) : NodesIn base W' lc l :=
  Rel.mono (fun c n ⟨h1, h2⟩ => ⟨(h2.kept hk hB).is h1, h2.kept hk hB⟩) h
theorem OwnsNd.apartF {base base0 B : Nat} {W : World} {c : NdC} {n : Gr.Nd} (o : OwnsNd base W c n) (hB : B < base) : Apart base0 B W c.vf := by
  rintro b off ⟨m, k, e⟩
  have h : c.vf.ownBlock = some b := by rw [e]; rfl
  obtain ⟨h1, cs, h2⟩ := OwnAt.block o.1 h
  exact ⟨.inr ⟨_, _, _, h2, by decide⟩, by omega⟩
theorem OwnsNd.apartP {base base0 B : Nat} {W : World} {c : NdC} {n : Gr.Nd} (o : OwnsNd base W c n) (hB : B < base) : Apart base0 B W c.vp := by
  rintro b off ⟨m, k, e⟩
  have h : c.vp.ownBlock = some b := by rw [e]; rfl
  obtain ⟨h1, cs, h2⟩ := OwnAt.block o.2 h
  exact ⟨.inr ⟨_, _, _, h2, by decide⟩, by omega⟩
theorem putNd_len {n : Gr.Nd} {lp : Int} (h : Gr.OkB fitsP lp n) : (Gr.putNd putI n).length ≤ 300 := by
  have h1 := putI_len n.prog h.p
  have h2 := h.m
  have h3 := h.ol
  unfold Gr.putNd
  simp only [List.length_append, Oc.be_len, Oc.bes_len]
  omega
theorem flat_len {lp : Int} : ∀ {l : List Gr.Nd}, (∀ n ∈ l, Gr.OkB fitsP lp n) → (l.flatMap (Gr.putNd putI)).length ≤ l.length * 300
  | [], _ => by simp
  | n :: l, h => by
    have h1 := putNd_len (h n (List.mem_cons_self ..))
    have h2 := flat_len (l := l) fun m hm => h m (List.mem_cons_of_mem _ hm)
    rw [List.flatMap_cons, List.length_append, List.length_cons]
    omega
theorem take_flat {β : Type} (f : Gr.Nd → List β) (l : List Gr.Nd) (k : Nat) (h : k < l.length) : (l.take (k + 1)).flatMap f = (l.take k).flatMap f ++ f l[k] := by
  rw [List.take_succ_eq_append_getElem h, List.flatMap_append]
  simp
theorem NodesIn.openO {base : Nat} {w : World} {v : Value} {lc : List NdC} {l : List Gr.Nd} (h : NodesIn base w lc l) (ho : NodesOwn base w v lc) : ∃ a cap, v = .slice a l.length cap ∧ ∀ i (hi : i < l.length), ∃ b off c, a = some ⟨b, off, none⟩ ∧ Pre b w ∧ NodeIs w c l[i] ∧ OwnsNd base w c l[i] ∧
    w.cell? ⟨b, off + i * 13, none⟩ = some (.int .i64 c.id) ∧ w.cell? ⟨b, off + i * 13 + 1, none⟩ = some (.int .i64 c.kind) ∧ w.cell? ⟨b, off + i * 13 + 2, none⟩ = some (.slice c.af c.nf c.cf) ∧ w.cell? ⟨b, off + i * 13 + 3, none⟩ = some (.slice c.ap c.np c.cp) ∧ w.cell? ⟨b, off + i * 13 + 4, none⟩ = some (.int .i64 c.par) ∧
    w.cell? ⟨b, off + i * 13 + 5, none⟩ = some (.int .i64 c.r0) ∧ w.cell? ⟨b, off + i * 13 + 6, none⟩ = some (.int .i64 c.r1) ∧ w.cell? ⟨b, off + i * 13 + 7, none⟩ = some (.int .i64 c.r2) ∧ w.cell? ⟨b, off + i * 13 + 8, none⟩ = some (.int .i64 c.r3) ∧ w.cell? ⟨b, off + i * 13 + 9, none⟩ = some (.int .i64 c.r4) ∧ w.cell? ⟨b, off + i * 13 + 10, none⟩ = some (.int .i64 c.r5) ∧ w.cell? ⟨b, off + i * 13 + 11, none⟩ = some (.int .i64 c.r6) ∧ w.cell? ⟨b, off + i * 13 + 12, none⟩ = some (.int .i64 c.r7) := by
  have hl := Rel.len h
  obtain ⟨a, cap, rfl, hm, hx⟩ := OwnAt.rows ho encNd_len
  refine ⟨a, cap, by rw [hl], fun i hi => ?_⟩
  have hi' : i < lc.length := by omega
  obtain ⟨b, off, rfl, hc⟩ := hx (by intro e; subst e; simp at hi')
  obtain ⟨hn, hw⟩ := Rel.get h i lc[i] l[i] (List.getElem?_eq_getElem hi') (List.getElem?_eq_getElem hi)
  have hj := fun j u => hc i lc[i] (List.getElem?_eq_getElem hi') j u
  have h0 := hj 0 _ rfl
  exact ⟨b, off, lc[i], rfl, Pre.mk (World.block_lt_of_cell? w _ h0), hn, hw, h0, hj 1 _ rfl, hj 2 _ rfl, hj 3 _ rfl, hj 4 _ rfl, hj 5 _ rfl, hj 6 _ rfl, hj 7 _ rfl, hj 8 _ rfl, hj 9 _ rfl, hj 10 _ rfl, hj 11 _ rfl, hj 12 _ rfl⟩
theorem safe_fits {p : List Vm.Ins} (h : Vm.safe p = true) : fitsP p := by
  unfold Vm.safe at h
  obtain ⟨c, hc⟩ := Option.isSome_iff_exists.1 h
  exact Vm.checkC_fits hc
set_option maxHeartbeats 8000000 in
theorem putGraph_any (w0 W : World) (B : Nat) (vb : Value) (ys : List UInt8) (v : Value) (l : List Gr.Nd) (hw : WriterAt w0.heap.size B W vb ys) (hg : Grew w0 W) (hv : NodesAt w0 v l) (hs : Small l) (hr : Gr.RightR l) (hlen : ys.length ≤ 4000) :
    Calls Tryz.prog 31 #[.pointer (some ⟨B, 0, none⟩), v] W (PutPost w0 W B (ys ++ Gr.putG putI l)) := by
  have h8 := hr.len
  have hok : ∀ n ∈ l, Gr.OkB fitsP 1 n := hr.okB (by unfold fitsP; rfl) (fun p hp => safe_fits hp) hv.r8
  have HW := Lib.hid hw
  have HG := Lib.hid hg
  have HV := Lib.hid hv
  have HS := Lib.hid hs
  have HR := Lib.hid hr
  have HOK := Lib.hid hok
  have hBlt := (Array.getElem?_eq_some_iff.1 hw.2.1).1
  obtain ⟨a, cap, rfl, hm, -⟩ := hv.openC
  clear hw hg hv hs hr hok
  go_enter Tryz.func31, Tryz.ntmps31
  go_wp2_with fail
  refine (writerNum_freshK w0 W B vb ys [(l.length : Int)] [.int .i64 l.length] _ _ _ HW.out HG.out rfl (by simp [go_sem]) rfl ?_ (by simp; omega)).mono ?_
  · simp only [List.all_cons, List.all_nil, Bool.and_true]
    exact fits_of (by omega) (by omega)
  rintro e W1 ⟨rfl, hg1, hk1, vb1, hw1⟩
  have HW1 := Lib.hid hw1
  have HG1 := Lib.hid hg1
  have HK1 := Lib.hid hk1
  have hB1 : B < W1.heap.size := Nat.lt_of_lt_of_le hBlt hk1.1
  clear hw1 hg1 hk1
  go_wp2_with fail
  refine (norm_any _ l W1 (HV.out.grew HG1.out) HS.out (by omega)).mono ?_
  rintro e W2 ⟨vn, lc, l', rfl, ho, hi, hp, hso, hg2⟩
  have hl' : l' = Gr.normG l := Gr.norm_unique hp hso HR.out.ids HR.out.r7
  have hlc := Rel.len hi
  obtain ⟨an, cn, rfl⟩ := (OwnAt.rows ho encNd_len).len
  rw [hlc]
  rw [hlc] at ho
  have hpl := hp.length_eq
  have HO := Lib.hid ho
  have HI := Lib.hid hi
  have HOK2 := Lib.hid (fun n (hn : n ∈ l') => HOK.out n (hp.mem_iff.1 hn))
  have HG2 := Lib.hid hg2
  have HL := Lib.hid hl'
  have HLC := Lib.hid hlc
  have HPL := Lib.hid hpl
  have HW2 := Lib.hid (HW1.out.grew hg2)
  have h8' : l'.length ≤ 8 := by omega
  clear hlc ho hi hp hso hg2 hl' hpl
  go_wp2
  go_loopg [14] l'.length (fun gg s14 wr => ∃ (k : Nat) (vk : Value), k ≤ l'.length ∧ l'.length - k ≤ gg ∧ s14 = .int .i64 k ∧ Hid (WriterAt w0.heap.size B wr vk (ys ++ Oc.be l.length ++ (l'.take k).flatMap (Gr.putNd putI))) ∧ Hid (Grew w0 wr) ∧ Hid (KeptW w0.heap.size B W2 wr))
  case atStart => exact ⟨0, vb1, Nat.zero_le _, by omega, rfl, Lib.hid (by have := HW2.out; rw [be_one] at this; simpa using this), Lib.hid (HG1.out.trans HG2.out), Lib.hid (KeptW.refl _ _ _)⟩
  case round =>
    obtain ⟨k, vk, hk, hgg, rfl, HWK, HGK, HKK⟩ := hrel
    by_cases hlt : k < l'.length
    · have hi2 := HI.out.kept HKK.out hB1
      obtain ⟨a', cap', e, hx⟩ := hi2.openO (HO.out.kept HKK.out hB1)
      cases e
      obtain ⟨b, off, c, rfl, hb, hn, hown, c0, c1, c2, c3, c4, c5, c6, c7, c8, c9, c10, c11, c12⟩ := hx k hlt
      have hok := HOK2.out _ (List.getElem_mem hlt)
      have htf := take_flat (Gr.putNd putI) l' k hlt
      have hfl := flat_len (l := l'.take k) (lp := 1) fun n hn => HOK2.out n (List.mem_of_mem_take hn)
      rw [List.length_take, Nat.min_eq_left hk] at hfl
      have HFL := Lib.hid hfl
      have HTF := Lib.hid htf
      generalize l'[k] = y at *
      have HNc := Lib.hid hn
      have HPN := Lib.hid fun W (g : Grew wr W) => putNode_any w0 W B vk _ c y 1 (by decide) (HWK.out.grew g) (HGK.out.trans g) (hn.grew g) ((hown.grew g).apartF hB1) ((hown.grew g).apartP hB1) hok (by simp only [List.length_append, Oc.be_len]; omega)
      obtain ⟨cid, kind, af, cf, ap, cp, par, r0, r1, r2, r3, r4, r5, r6, r7, rfl⟩ := HNc.out.lit
      simp only at c0 c1 c2 c3 c4 c5 c6 c7 c8 c9 c10 c11 c12
      clear hx hn hown hok htf hfl hi2
      go_wp2_with (go_at_call 78; refine (HPN.out _ (by repeat (first | with_reducible exact Grew.refl _ | apply Grew.more | apply Grew.alloc | apply Grew.drew | apply Grew.drewN))).mono ?_; rintro e w5 ⟨rfl, hg5, hk5, vb5, hw5⟩; (have HW5 := Lib.hid hw5); (have HG5 := Lib.hid hg5); (have HK5 := Lib.hid ((KeptW.ofGrew (W := wr) (by repeat (first | with_reducible exact Grew.refl _ | apply Grew.more | apply Grew.alloc | apply Grew.drew | apply Grew.drewN))).trans hk5)); clear hw5 hg5 hk5)
      go_roundg (l'.length - (k + 1))
      case measure => omega
      case rel => exact ⟨k + 1, vb5, by omega, by omega, by go_num, Lib.hid (by rw [HTF.out, ← List.append_assoc]; exact HW5.out), HG5, Lib.hid (HKK.out.trans HK5.out)⟩
    · obtain rfl : k = l'.length := by omega
      go_wp2
      go_end0
      refine ⟨rfl, HGK.out, ((KeptW.ofGrew (W := W) (by repeat (first | with_reducible exact Grew.refl _ | apply Grew.more | apply Grew.alloc | apply Grew.drew | apply Grew.drewN))).trans HK1.out).trans ((KeptW.ofGrew HG2.out).trans HKK.out), vk, ?_⟩
      have := HWK.out
      rw [List.take_length, HL.out] at this
      unfold Gr.putG
      rw [← List.append_assoc]
      exact this

theorem putG_len {l : List Gr.Nd} (hr : Gr.RightR l) (h8 : ∀ n ∈ l, n.route.length = 8) : (Gr.putG putI l).length ≤ 3000 := by
  have hok : ∀ n ∈ l, Gr.OkB fitsP 1 n := hr.okB (by unfold fitsP; rfl) (fun p hp => safe_fits hp) h8
  have hp := Gr.normG_perm hr.ids hr.r7
  have h1 := flat_len (l := Gr.normG l) (lp := 1) fun n hn => hok n (hp.mem_iff.1 hn)
  have h2 := hp.length_eq
  have h3 := hr.len
  unfold Gr.putG
  rw [List.length_append, Oc.be_len]
  omega
set_option maxHeartbeats 4000000 in
theorem packGraph_ok (v : Value) (l : List Gr.Nd) (w : World) (hv : NodesAt w v l) (hs : Small l) (hr : Gr.RightR l) : Calls Tryz.prog 10 #[v] w (Gives (.tuple #[str (Gr.putG putI l), .int .i64 0]) w) := by
  have hc := check_graph v l w hv hs
  rw [checkR_ok hr.len hr] at hc
  have HC := Lib.hid hc
  have HV := Lib.hid hv
  have HS := Lib.hid hs
  have HR := Lib.hid hr
  have hlen := putG_len hr hv.r8
  obtain ⟨a, cap, rfl, hm, -⟩ := hv.openC
  clear hv hs hr hc
  go_enter Tryz.func10, Tryz.ntmps10
  go_wp2_with (first
    | (go_at_call 30; refine HC.out.mono ?_; rintro e w1 ⟨rfl, R3, n3, rfl⟩)
    | (go_at_call 31; go_loud (refine (putGraph_any w _ _ (.slice none 0 0) [] _ l ⟨?_, heap_new_at _ _ _ (by simp [go_sem]), OwnAt.nil _⟩ (by repeat (first | with_reducible exact Grew.refl _ | apply Grew.more | apply Grew.alloc | apply Grew.drew | apply Grew.drewN)) HV.out HS.out HR.out (by simp)).mono ?_); (focus simp [go_sem]; try omega); rintro e w5 ⟨rfl, hg5, hk5, vb5, hw5⟩; rw [List.nil_append] at hw5; (have HW5 := Lib.hid hw5); (have HG5 := Lib.hid hg5); clear hw5 hg5 hk5)
    | (go_at_call 32; refine (octOut_any _ _ _ _ _ HW5.out (by omega)).mono ?_; rintro e w6 ⟨rfl, R6, n6, rfl⟩))
  exact bodyPost_ret (v := .tuple #[.string ⟨(Gr.putG putI l).toArray⟩, .int .i64 0]) (by simp [results, Tryz.results10, go_sem]) rfl ⟨rfl, HG5.out.trans (by repeat (first | with_reducible exact Grew.refl _ | apply Grew.more | apply Grew.alloc | apply Grew.drew | apply Grew.drewN))⟩
end Go.Proofs.YtangapokicnfgaaGreat

/-! code.Get and forebayref04.Get. -/
namespace Go.Proofs.YtangapokicnfgaaGreat
set_option linter.unusedSimpArgs false
set_option linter.unusedVariables false
open Go.RowKit Ga
set_option maxRecDepth 100000

def numR (s : List UInt8) : Int × Int × List UInt8 := within s (-2147483648) 2147483647
/-- The rounds of Get: the program, the error, what is left. -/
def readL : Nat → List UInt8 → List Val → List Val × Int × List UInt8
  | 0, s, acc => (acc, 0, s)
  | n + 1, s, acc =>
    if (within s 0 17).2.1 ≠ 0 then ([], (within s 0 17).2.1, (within s 0 17).2.2)
    else if (numR (within s 0 17).2.2).2.1 ≠ 0 then ([], (numR (within s 0 17).2.2).2.1, (numR (within s 0 17).2.2).2.2)
    else readL n (numR (within s 0 17).2.2).2.2 (acc ++ [((within s 0 17).1, (numR (within s 0 17).2.2).1)])
def getL (s : List UInt8) : List Val × Int × List UInt8 :=
  if (within s 0 24).2.1 ≠ 0 then ([], (within s 0 24).2.1, (within s 0 24).2.2)
  else if (readL (within s 0 24).1.toNat (within s 0 24).2.2 []).2.1 ≠ 0 then readL (within s 0 24).1.toNat (within s 0 24).2.2 []
  else if Co.fitsI (readL (within s 0 24).1.toNat (within s 0 24).2.2 []).1 then readL (within s 0 24).1.toNat (within s 0 24).2.2 []
  else ([], 4, (readL (within s 0 24).1.toNat (within s 0 24).2.2 []).2.2)

theorem within_len (s : List UInt8) (a b : Int) : (within s a b).2.2.length ≤ s.length := by
  unfold within; split
  · exact Nat.le_refl _
  · split
    · exact Nat.le_refl _
    · simp
theorem within_ok {s : List UInt8} {a b : Int} (h : (within s a b).2.1 = 0) : a ≤ (within s a b).1 ∧ (within s a b).1 ≤ b := by
  unfold within at *
  by_cases h4 : s.length < 4
  · rw [if_pos h4] at h; simp at h
  · rw [if_neg h4] at h ⊢
    by_cases hr : Oc.num s < a ∨ b < Oc.num s
    · rw [if_pos hr] at h; simp at h
    · rw [if_neg hr]; simp only; omega
theorem getL_of {s : List UInt8} {n e1 : Int} {s1 : List UInt8} (h : within s 0 24 = (n, e1, s1)) :
    getL s = if e1 ≠ 0 then ([], e1, s1) else if (readL n.toNat s1 []).2.1 ≠ 0 then readL n.toNat s1 [] else if Co.fitsI (readL n.toNat s1 []).1 then readL n.toNat s1 [] else ([], 4, (readL n.toNat s1 []).2.2) := by
  unfold getL; rw [h]
theorem readL_bad1 {n : Nat} {s s2 : List UInt8} {acc : List Val} {op e2 : Int} (h : within s 0 17 = (op, e2, s2)) (he : e2 ≠ 0) : readL (n + 1) s acc = ([], e2, s2) := by
  unfold readL; rw [h, if_pos he]
theorem readL_bad2 {n : Nat} {s s2 s3 : List UInt8} {acc : List Val} {op a e3 : Int} (h : within s 0 17 = (op, 0, s2)) (h2 : numR s2 = (a, e3, s3)) (he : e3 ≠ 0) : readL (n + 1) s acc = ([], e3, s3) := by
  unfold readL; rw [h]; simp only; rw [h2, if_neg (by simp), if_pos he]
theorem readL_ok {n : Nat} {s s2 s3 : List UInt8} {acc : List Val} {op a : Int} (h : within s 0 17 = (op, 0, s2)) (h2 : numR s2 = (a, 0, s3)) : readL (n + 1) s acc = readL n s3 (acc ++ [(op, a)]) := by
  rw [readL, h]; simp only; rw [h2, if_neg (by simp), if_neg (by simp)]
/-- .. what is handed back where the rounds fail. -/
theorem getL_bad {s s1 s2 : List UInt8} {N : Nat} {e : Int} (h : within s 0 24 = ((N : Int), 0, s1)) (hr : readL N s1 [] = ([], e, s2)) (he : e ≠ 0) : getL s = ([], e, s2) := by
  rw [getL_of h, if_neg (by simp), Int.toNat_natCast, hr, if_pos he]
theorem getL_fit {s s1 s2 : List UInt8} {N : Nat} {acc : List Val} (h : within s 0 24 = ((N : Int), 0, s1)) (hr : readL N s1 [] = (acc, 0, s2)) : getL s = if Co.fitsI acc then (acc, 0, s2) else ([], 4, s2) := by
  rw [getL_of h, if_neg (by simp), Int.toNat_natCast, hr, if_neg (by simp)]

end Go.Proofs.YtangapokicnfgaaGreat

/-! code.Get, with what else it leaves; pack's reader. -/
namespace Go.Proofs.YtangapokicnfgaaGreat
set_option linter.unusedSimpArgs false
set_option linter.unusedVariables false
open Go.RowKit Ga
set_option maxRecDepth 100000

theorem OwnAt.up {α : Type} {base base' : Nat} {e : TypeId} {k : Nat} {enc : α → List Value} {w : World} {v : Value} {l : List α} (h : OwnAt base e k enc w v l) (hb : ∀ q, v.ownBlock = some q → base' ≤ q) : OwnAt base' e k enc w v l := by
  obtain ⟨h1, h2⟩ := h
  refine ⟨h1, ?_⟩
  rcases h2 with h | ⟨g, cap, cur, rfl, h3, r⟩
  · exact .inl h
  · exact .inr ⟨g, cap, cur, rfl, hb g rfl, r⟩
theorem Keep.app {α : Type} {e : TypeId} {k : Nat} {enc : α → List Value} {B : Nat} {w0 w W W' : World} {v v' : Value} {l : List α} (hk : Keep B w W) (hA : Appended w0 e k enc W v l v' W') (hi : ∀ q, v.ownBlock = some q → w.heap.size ≤ q) : Keep B w W' :=
  ⟨Nat.le_trans hk.1 hA.2.2.1, fun q hq hn => (hA.2.2.2.1 q (Nat.lt_of_lt_of_le hq hk.1) fun h => by have := hi q h; omega).trans (hk.2 q hq hn)⟩
theorem app_hi {α : Type} {e : TypeId} {k : Nat} {enc : α → List Value} {B : Nat} {w0 w W W' : World} {v v' : Value} {l : List α} (hk : Keep B w W) (hA : Appended w0 e k enc W v l v' W') (hi : ∀ q, v.ownBlock = some q → w.heap.size ≤ q) : ∀ q, v'.ownBlock = some q → w.heap.size ≤ q := fun q hq => by
  rcases hA.2.2.2.2 q hq with h | h
  · exact hi q h
  · exact Nat.le_trans hk.1 h
def GotProg (w0 w w' : World) (B : Nat) (v : Value) (r : List Val × Int × List UInt8) : Prop := OwnAt w.heap.size 123 2 encI w' v r.1 ∧ ReaderAt w0.heap.size B w' r.2.2 ∧ Grew w0 w' ∧ Keep B w w'
theorem GotProg.none {w0 w w' : World} {B : Nat} {r : List Val × Int × List UInt8} {e : Int} {s : List UInt8} (h : r = ([], e, s)) (h1 : ReaderAt w0.heap.size B w' s) (h2 : Grew w0 w') (h3 : Keep B w w') : GotProg w0 w w' B (.slice none 0 0) r := by
  subst h; exact ⟨OwnAt.nil _, h1, h2, h3⟩
theorem GotProg.some {w0 w w' : World} {B : Nat} {v : Value} {r : List Val × Int × List UInt8} {l : List Val} {e : Int} {s : List UInt8} (h : r = (l, e, s)) (h0 : OwnAt w.heap.size 123 2 encI w' v l) (h1 : ReaderAt w0.heap.size B w' s) (h2 : Grew w0 w') (h3 : Keep B w w') : GotProg w0 w w' B v r := by
  subst h; exact ⟨h0, h1, h2, h3⟩
set_option maxHeartbeats 8000000 in
theorem codeGet_keep (w0 : World) (B : Nat) (s : List UInt8) (w : World) (h : ReaderAt w0.heap.size B w s) (hg : Grew w0 w) (hs : s.length ≤ 1000000) :
    Calls Tryz.prog 118 #[.pointer (some ⟨B, 0, none⟩)] w fun e w' => ∃ v, e = .returned (.tuple #[v, .int .i64 (getL s).2.1]) ∧ GotProg w0 w w' B v (getL s) := by
  have hW := octWithin_any w0 B s 0 24 w h hg hs
  have hl1 := within_len s 0 24
  have hwo := within_ok (s := s) (a := 0) (b := 24)
  generalize hr : within s 0 24 = r at *
  obtain ⟨n, e1, s1⟩ := r
  simp only at hW hl1 hwo
  have HW := Lib.hid hW
  have HR0 := Lib.hid hr
  clear hW hr
  by_cases he : e1 = 0
  · subst he
    obtain ⟨n0, n24⟩ := hwo rfl
    obtain ⟨N, rfl⟩ : ∃ N : Nat, n = N := ⟨n.toNat, by omega⟩
    clear hwo
    go_enter Tryz.func118, Tryz.ntmps118
    go_wp2_with (go_at_call 88; refine HW.out.mono ?_; rintro e w1 ⟨rfl, hr1, hg1, hk1⟩; (have HR1 := Lib.hid hr1); (have HG1 := Lib.hid hg1); (have HK1 := Lib.hid hk1); clear hr1 hg1 hk1)
    go_loopw [6, 19] (fun v6 i wr => ∃ (k : Nat) (acc : List Val) (sk : List UInt8), k ≤ N ∧ i = .int .i64 k ∧ acc.length = k ∧ readL (N - k) sk acc = readL N s1 [] ∧ sk.length ≤ 1000000 ∧ OwnAt w0.heap.size 123 2 encI wr v6 acc ∧ ReaderAt w0.heap.size B wr sk ∧ Grew w0 wr ∧ Hid (Keep B w wr) ∧ Hid (∀ q, v6.ownBlock = some q → w.heap.size ≤ q)) (fun _ i _ => N - (intOf i).toNat)
    case atStart => exact ⟨0, [], s1, Nat.zero_le _, rfl, rfl, rfl, by omega, OwnAt.nil _, HR1.out, HG1.out, HK1, Lib.hid (fun q h => by cases h)⟩
    case round =>
      obtain ⟨k, acc, sk, hk, rfl, hacc, hrd, hsk, hown, hrk, hgk, HKW, HHI⟩ := hrel
      by_cases hlt : k < N
      · have hW2 := octWithin_any w0 B sk 0 17 wr hrk hgk hsk
        have hl2 := within_len sk 0 17
        obtain ⟨m, hm⟩ : ∃ m, N - k = m + 1 := ⟨N - k - 1, by omega⟩
        rw [hm] at hrd
        generalize hr2 : within sk 0 17 = r2 at *
        obtain ⟨op, e2, s2⟩ := r2
        simp only at hW2 hl2
        have hne1 := own_ne hown hrk.2 (by decide)
        have HW2 := Lib.hid hW2
        have HRD := Lib.hid hrd
        have HO := Lib.hid hown
        have HNE := Lib.hid hne1
        have HR2 := Lib.hid hr2
        have HACC := Lib.hid hacc
        have HM := Lib.hid hm
        clear hW2 hrd hown hne1 hr2 hacc hm hrk hgk
        by_cases he2 : e2 = 0
        · subst he2
          have hl3 := within_len s2 (-2147483648) 2147483647
          obtain ⟨a, e3, s3, hr3⟩ : ∃ a e3 s3, numR s2 = (a, e3, s3) := ⟨_, _, _, rfl⟩
          have hr3' : within s2 (-2147483648) 2147483647 = (a, e3, s3) := hr3
          have HN3 : Hid (∀ w2, ReaderAt w0.heap.size B w2 s2 → Grew w0 w2 → Calls Tryz.prog 133 #[.pointer (some ⟨B, 0, none⟩)] w2 fun e w' => e = .returned (.tuple #[.int .i64 a, .int .i64 e3]) ∧ ReaderAt w0.heap.size B w' s3 ∧ Grew w0 w' ∧ Keep B w2 w') := Lib.hid (fun w2 h1 h2 => by
            have := octNum_any w0 B s2 w2 h1 h2 (by omega)
            rw [hr3'] at this
            exact this)
          rw [hr3'] at hl3
          simp only at hl3
          have HR3 := Lib.hid hr3
          clear hr3 hr3'
          by_cases he3 : e3 = 0
          · subst he3
            go_wp2_with (first
              | (go_at_call 88; refine HW2.out.mono ?_; rintro e w2 ⟨rfl, hq2, hg2, hk2⟩; (have HQ2 := Lib.hid hq2); (have HG2 := Lib.hid hg2); (have HK2 := Lib.hid hk2); clear hq2 hg2 hk2)
              | (go_at_call 133; refine (HN3.out _ HQ2.out HG2.out).mono ?_; rintro e w3 ⟨rfl, hq3, hg3, hk3⟩; (have HQ3 := Lib.hid hq3); (have HG3 := Lib.hid hg3); (have HO3 := Lib.hid ((HK2.out.trans hk3).own HO.out HNE.out)); (have HK3 := Lib.hid (HKW.out.trans (HK2.out.trans hk3))); clear hq3 hg3 hk3)
              | (at_builtin; refine wpList_ownK (w0 := w0) rfl (.tmp 37) (.tmp 41) 42 _ _ _ _ [(op, a)] rfl Tryz.underlying42 infoIns rfl (by decide) encI_len encI_one rfl (HO3.out.grew (by repeat (first | with_reducible exact Grew.refl _ | apply Grew.more | apply Grew.alloc | apply Grew.drew | apply Grew.drewN))) (HG3.out.alloc _) rfl (fun j u hu => encI_at _ (op, a) _ _ rfl rfl j u (by simpa using hu)) (by simp [HACC.out]; omega) (by decide) (by simp) ?_; intro v9 W9 hA9; (have hkeep9 := hA9.2.2.2.1); (have HQ9 : Hid (ReaderAt w0.heap.size B W9 s3) := Lib.hid ⟨HQ3.out.1, by rw [hkeep9 B (by have := (Array.getElem?_eq_some_iff.1 HQ3.out.2).1; simp [go_sem]; omega) (own_ne HO3.out HQ3.out.2 (by decide))]; exact heap_alloc_old HQ3.out.2 _⟩); (have HK9 := Lib.hid (Keep.app (HK3.out.trans (Keep.ofGrew (by repeat (first | with_reducible exact Grew.refl _ | apply Grew.more | apply Grew.alloc | apply Grew.drew | apply Grew.drewN)))) hA9 HHI.out)); (have HHI9 := Lib.hid (app_hi (HK3.out.trans (Keep.ofGrew (by repeat (first | with_reducible exact Grew.refl _ | apply Grew.more | apply Grew.alloc | apply Grew.drew | apply Grew.drewN)))) hA9 HHI.out)); (have HA9 := Lib.hid hA9); clear hkeep9 hA9)
              )
            go_roundw
            case rel =>
              refine ⟨k + 1, acc ++ [(op, a)], s3, by omega, by go_num, by rw [List.length_append, HACC.out]; rfl, ?_, by omega, HA9.out.2.1, HQ9.out, HA9.out.1, HK9, HHI9⟩
              have h1 := HRD.out
              rw [readL_ok HR2.out HR3.out] at h1
              rw [← h1]
              congr 1
              have := HM.out
              omega
            case measure => first | (simp [intOf]; done) | (simp [intOf]; omega)
          · have hne3 : (e3 != 0) = true := by rw [bne_iff_ne]; exact he3
            have hGe : getL s = ([], e3, s3) := getL_bad HR0.out (by rw [← HRD.out, readL_bad2 HR2.out HR3.out he3]) he3
            have HGE := Lib.hid hGe
            clear hGe he3
            go_wp2_with (first
              | (go_at_call 88; refine HW2.out.mono ?_; rintro e w2 ⟨rfl, hq2, hg2, hk2⟩; (have HQ2 := Lib.hid hq2); (have HG2 := Lib.hid hg2); (have HK2 := Lib.hid hk2); clear hq2 hg2 hk2)
              | (go_at_call 133; refine (HN3.out _ HQ2.out HG2.out).mono ?_; rintro e w3 ⟨rfl, hq3, hg3, hk3⟩; (have HQ3 := Lib.hid hq3); (have HG3 := Lib.hid hg3); (have HK3 := Lib.hid hk3); clear hq3 hg3 hk3)
              )
            exact bodyPost_ret (v := .tuple #[.slice none 0 0, .int .i64 e3]) (by simp [results, Tryz.results118, go_sem]) rfl ⟨_, by rw [HGE.out], GotProg.none HGE.out HQ3.out HG3.out (HKW.out.trans (HK2.out.trans HK3.out))⟩
        · have hne2 : (e2 != 0) = true := by rw [bne_iff_ne]; exact he2
          have hGe : getL s = ([], e2, s2) := getL_bad HR0.out (by rw [← HRD.out, readL_bad1 HR2.out he2]) he2
          have HGE := Lib.hid hGe
          clear hGe he2
          go_wp2_with (go_at_call 88; refine HW2.out.mono ?_; rintro e w2 ⟨rfl, hq2, hg2, hk2⟩; (have HQ2 := Lib.hid hq2); (have HG2 := Lib.hid hg2); (have HK2 := Lib.hid hk2); clear hq2 hg2 hk2)
          exact bodyPost_ret (v := .tuple #[.slice none 0 0, .int .i64 e2]) (by simp [results, Tryz.results118, go_sem]) rfl ⟨_, by rw [HGE.out], GotProg.none HGE.out HQ2.out HG2.out (HKW.out.trans HK2.out)⟩
      · obtain rfl : k = N := by omega
        have hrd2 : readL k s1 [] = (acc, 0, sk) := by rw [← hrd, Nat.sub_self]; rfl
        have hGe := getL_fit HR0.out hrd2
        have hrows : ValsAt wr u6 acc := hown.rows encI_len
        have HRO := Lib.hid hrows
        have HOW := Lib.hid hown
        have HRK := Lib.hid hrk
        have HGK := Lib.hid hgk
        clear hrd hrd2 hown hrows hrk hgk
        cases hf : Co.fitsI acc
        · rw [hf] at hGe
          have hGe2 : getL s = ([], 4, sk) := hGe.trans (if_neg (by decide))
          have HGE := Lib.hid hGe2
          have HF := Lib.hid hf
          clear hGe hGe2 hf
          go_wp2_with (go_at_call 132; refine (codeFits_any _ acc _ HRO.out).mono ?_; rintro e w2 ⟨rfl, R5, n5, rfl⟩; rw [HF.out])
          exact bodyPost_ret (v := .tuple #[.slice none 0 0, .int .i64 4]) (by simp [results, Tryz.results118, go_sem]) rfl ⟨_, by rw [HGE.out], GotProg.none HGE.out (HRK.out.grew (by repeat (first | with_reducible exact Grew.refl _ | apply Grew.more | apply Grew.alloc | apply Grew.drew | apply Grew.drewN))) (HGK.out.more _ _) (HKW.out.trans (Keep.ofGrew (by repeat (first | with_reducible exact Grew.refl _ | apply Grew.more | apply Grew.alloc | apply Grew.drew | apply Grew.drewN))))⟩
        · rw [hf] at hGe
          have hGe2 : getL s = (acc, 0, sk) := hGe.trans (if_pos rfl)
          have HGE := Lib.hid hGe2
          have HF := Lib.hid hf
          clear hGe hGe2 hf
          go_wp2_with (go_at_call 132; refine (codeFits_any _ acc _ HRO.out).mono ?_; rintro e w2 ⟨rfl, R5, n5, rfl⟩; rw [HF.out])
          exact bodyPost_ret (v := .tuple #[u6, .int .i64 0]) (by simp [results, Tryz.results118, go_sem]) rfl ⟨_, by rw [HGE.out], GotProg.some HGE.out (OwnAt.up (HOW.out.grew (by repeat (first | with_reducible exact Grew.refl _ | apply Grew.more | apply Grew.alloc | apply Grew.drew | apply Grew.drewN))) HHI.out) (HRK.out.grew (by repeat (first | with_reducible exact Grew.refl _ | apply Grew.more | apply Grew.alloc | apply Grew.drew | apply Grew.drewN))) (HGK.out.more _ _) (HKW.out.trans (Keep.ofGrew (by repeat (first | with_reducible exact Grew.refl _ | apply Grew.more | apply Grew.alloc | apply Grew.drew | apply Grew.drewN))))⟩
  · have hGe : getL s = ([], e1, s1) := by rw [getL_of HR0.out, if_pos he]
    have HGE := Lib.hid hGe
    have hne : (e1 != 0) = true := by rw [bne_iff_ne]; exact he
    clear hGe hwo he
    go_enter Tryz.func118, Tryz.ntmps118
    go_wp2_with (go_at_call 88; refine HW.out.mono ?_; rintro e w1 ⟨rfl, hr1, hg1, hk1⟩; (have HR1 := Lib.hid hr1); (have HG1 := Lib.hid hg1); (have HK1 := Lib.hid hk1); clear hr1 hg1 hk1)
    exact bodyPost_ret (v := .tuple #[.slice none 0 0, .int .i64 e1]) (by simp [results, Tryz.results118, go_sem]) rfl ⟨_, by rw [HGE.out], GotProg.none HGE.out HR1.out HG1.out HK1.out⟩
end Go.Proofs.YtangapokicnfgaaGreat
