import Derived.Test.YtangapokicnfgaaGreatMp30
import Derived.Test.YtangapokicnfgaaGreatMp32
/-! pack.putGraph, Graph. -/
namespace Go.Proofs.YtangapokicnfgaaGreat
set_option linter.unusedSimpArgs false
set_option linter.unusedVariables false
open Go.RowKit Ga
set_option maxRecDepth 100000

theorem OwnsNd.kept {base base0 B : Nat} {W W' : World} {c : NdC} {n : Gr.Nd} (o : OwnsNd base W c n) (hk : KeptW base0 B W W') (hB : B < base) : OwnsNd base W' c n := by
  refine ⟨OwnAt.same o.1 fun b h => ?_, OwnAt.same o.2 fun b h => ?_⟩
  · obtain ⟨h1, cs, h2⟩ := OwnAt.block o.1 h
    exact hk.2 b (heap_lt h2) (by omega) (.inr ⟨_, _, _, h2, by decide⟩)
  · obtain ⟨h1, cs, h2⟩ := OwnAt.block o.2 h
    exact hk.2 b (heap_lt h2) (by omega) (.inr ⟨_, _, _, h2, by decide⟩)
theorem NodesOwn.kept {base base0 B : Nat} {W W' : World} {v : Value} {lc : List NdC} (o : NodesOwn base W v lc) (hk : KeptW base0 B W W') (hB : B < base) : NodesOwn base W' v lc :=
  OwnAt.same o fun b h => by
    obtain ⟨h1, cs, h2⟩ := OwnAt.block o h
    exact hk.2 b (heap_lt h2) (by omega) (.inr ⟨_, _, _, h2, by decide⟩)
theorem NodesIn.kept {base base0 B : Nat} {W W' : World} {lc : List NdC} {l : List Gr.Nd} (h : NodesIn base W lc l) (hk : KeptW base0 B W W') (hB : B < base) : NodesIn base W' lc l :=
  Rel.mono (fun c n ⟨h1, h2⟩ => ⟨(h2.kept hk hB).is h1, h2.kept hk hB⟩) h
theorem OwnsNd.apartF {base base0 B : Nat} {W : World} {c : NdC} {n : Gr.Nd} (o : OwnsNd base W c n) (hB : B < base) : Apart base0 B W c.vf := by
  rintro b off ⟨m, k, e⟩
  have h : c.vf.ownBlock = some b := by rw [e]; rfl
  obtain ⟨h1, cs, h2⟩ := OwnAt.block o.1 h
  exact ⟨.inr ⟨_, _, _, h2, by decide⟩, by omega⟩
theorem OwnsNd.apartP {base base0 B : Nat} {W : World} {c : NdC} {n : Gr.Nd} (o : OwnsNd base W c n) (hB : B < base) : Apart base0 B W c.vp := by
  rintro b off ⟨m, k, e⟩
  have h : c.vp.ownBlock = some b := by rw [e]; rfl
  obtain ⟨h1, cs, h2⟩ := OwnAt.block o.2 h
  exact ⟨.inr ⟨_, _, _, h2, by decide⟩, by omega⟩
theorem putNd_len {n : Gr.Nd} {lp : Int} (h : Gr.OkB fitsP lp n) : (Gr.putNd putI n).length ≤ 300 := by
  have h1 := putI_len n.prog h.p
  have h2 := h.m
  have h3 := h.ol
  unfold Gr.putNd
  simp only [List.length_append, Oc.be_len, Oc.bes_len]
  omega
theorem flat_len {lp : Int} : ∀ {l : List Gr.Nd}, (∀ n ∈ l, Gr.OkB fitsP lp n) → (l.flatMap (Gr.putNd putI)).length ≤ l.length * 300
  | [], _ => by simp
  | n :: l, h => by
    have h1 := putNd_len (h n (List.mem_cons_self ..))
    have h2 := flat_len (l := l) fun m hm => h m (List.mem_cons_of_mem _ hm)
    rw [List.flatMap_cons, List.length_append, List.length_cons]
    omega
theorem take_flat {β : Type} (f : Gr.Nd → List β) (l : List Gr.Nd) (k : Nat) (h : k < l.length) : (l.take (k + 1)).flatMap f = (l.take k).flatMap f ++ f l[k] := by
  rw [List.take_succ_eq_append_getElem h, List.flatMap_append]
  simp
theorem NodesIn.openO {base : Nat} {w : World} {v : Value} {lc : List NdC} {l : List Gr.Nd} (h : NodesIn base w lc l) (ho : NodesOwn base w v lc) : ∃ a cap, v = .slice a l.length cap ∧ ∀ i (hi : i < l.length), ∃ b off c, a = some ⟨b, off, none⟩ ∧ Pre b w ∧ NodeIs w c l[i] ∧ OwnsNd base w c l[i] ∧
    w.cell? ⟨b, off + i * 13, none⟩ = some (.int .i64 c.id) ∧ w.cell? ⟨b, off + i * 13 + 1, none⟩ = some (.int .i64 c.kind) ∧ w.cell? ⟨b, off + i * 13 + 2, none⟩ = some (.slice c.af c.nf c.cf) ∧ w.cell? ⟨b, off + i * 13 + 3, none⟩ = some (.slice c.ap c.np c.cp) ∧ w.cell? ⟨b, off + i * 13 + 4, none⟩ = some (.int .i64 c.par) ∧
    w.cell? ⟨b, off + i * 13 + 5, none⟩ = some (.int .i64 c.r0) ∧ w.cell? ⟨b, off + i * 13 + 6, none⟩ = some (.int .i64 c.r1) ∧ w.cell? ⟨b, off + i * 13 + 7, none⟩ = some (.int .i64 c.r2) ∧ w.cell? ⟨b, off + i * 13 + 8, none⟩ = some (.int .i64 c.r3) ∧ w.cell? ⟨b, off + i * 13 + 9, none⟩ = some (.int .i64 c.r4) ∧ w.cell? ⟨b, off + i * 13 + 10, none⟩ = some (.int .i64 c.r5) ∧ w.cell? ⟨b, off + i * 13 + 11, none⟩ = some (.int .i64 c.r6) ∧ w.cell? ⟨b, off + i * 13 + 12, none⟩ = some (.int .i64 c.r7) := by
  have hl := Rel.len h
  obtain ⟨a, cap, rfl, hm, hx⟩ := OwnAt.rows ho encNd_len
  refine ⟨a, cap, by rw [hl], fun i hi => ?_⟩
  have hi' : i < lc.length := by omega
  obtain ⟨b, off, rfl, hc⟩ := hx (by intro e; subst e; simp at hi')
  obtain ⟨hn, hw⟩ := Rel.get h i lc[i] l[i] (List.getElem?_eq_getElem hi') (List.getElem?_eq_getElem hi)
  have hj := fun j u => hc i lc[i] (List.getElem?_eq_getElem hi') j u
  have h0 := hj 0 _ rfl
  exact ⟨b, off, lc[i], rfl, Pre.mk (World.block_lt_of_cell? w _ h0), hn, hw, h0, hj 1 _ rfl, hj 2 _ rfl, hj 3 _ rfl, hj 4 _ rfl, hj 5 _ rfl, hj 6 _ rfl, hj 7 _ rfl, hj 8 _ rfl, hj 9 _ rfl, hj 10 _ rfl, hj 11 _ rfl, hj 12 _ rfl⟩
theorem safe_fits {p : List Vm.Ins} (h : Vm.safe p = true) : fitsP p := by
  unfold Vm.safe at h
  obtain ⟨c, hc⟩ := Option.isSome_iff_exists.1 h
  exact Vm.checkC_fits hc
set_option maxHeartbeats 8000000 in
theorem putGraph_any (w0 W : World) (B : Nat) (vb : Value) (ys : List UInt8) (v : Value) (l : List Gr.Nd) (hw : WriterAt w0.heap.size B W vb ys) (hg : Grew w0 W) (hv : NodesAt w0 v l) (hs : Small l) (hr : Gr.RightR l) (hlen : ys.length ≤ 4000) :
    Calls Tryz.prog 31 #[.pointer (some ⟨B, 0, none⟩), v] W (PutPost w0 W B (ys ++ Gr.putG putI l)) := by
  have h8 := hr.len
  have hok : ∀ n ∈ l, Gr.OkB fitsP 1 n := hr.okB (by unfold fitsP; rfl) (fun p hp => safe_fits hp) hv.r8
  have HW := Lib.hid hw
  have HG := Lib.hid hg
  have HV := Lib.hid hv
  have HS := Lib.hid hs
  have HR := Lib.hid hr
  have HOK := Lib.hid hok
  have hBlt := (Array.getElem?_eq_some_iff.1 hw.2.1).1
  obtain ⟨a, cap, rfl, hm, -⟩ := hv.openC
  clear hw hg hv hs hr hok
  go_enter Tryz.func31, Tryz.ntmps31
  go_wp2_with fail
  refine (writerNum_freshK w0 W B vb ys [(l.length : Int)] [.int .i64 l.length] _ _ _ HW.out HG.out rfl (by simp [go_sem]) rfl ?_ (by simp; omega)).mono ?_
  · simp only [List.all_cons, List.all_nil, Bool.and_true]
    exact fits_of (by omega) (by omega)
  rintro e W1 ⟨rfl, hg1, hk1, vb1, hw1⟩
  have HW1 := Lib.hid hw1
  have HG1 := Lib.hid hg1
  have HK1 := Lib.hid hk1
  have hB1 : B < W1.heap.size := Nat.lt_of_lt_of_le hBlt hk1.1
  clear hw1 hg1 hk1
  go_wp2_with fail
  refine (norm_any _ l W1 (HV.out.grew HG1.out) HS.out (by omega)).mono ?_
  rintro e W2 ⟨vn, lc, l', rfl, ho, hi, hp, hso, hg2⟩
  have hl' : l' = Gr.normG l := Gr.norm_unique hp hso HR.out.ids HR.out.r7
  have hlc := Rel.len hi
  obtain ⟨an, cn, rfl⟩ := (OwnAt.rows ho encNd_len).len
  rw [hlc]
  rw [hlc] at ho
  have hpl := hp.length_eq
  have HO := Lib.hid ho
  have HI := Lib.hid hi
  have HOK2 := Lib.hid (fun n (hn : n ∈ l') => HOK.out n (hp.mem_iff.1 hn))
  have HG2 := Lib.hid hg2
  have HL := Lib.hid hl'
  have HLC := Lib.hid hlc
  have HPL := Lib.hid hpl
  have HW2 := Lib.hid (HW1.out.grew hg2)
  have h8' : l'.length ≤ 8 := by omega
  clear hlc ho hi hp hso hg2 hl' hpl
  go_wp2
  go_loopg [14] l'.length (fun gg s14 wr => ∃ (k : Nat) (vk : Value), k ≤ l'.length ∧ l'.length - k ≤ gg ∧ s14 = .int .i64 k ∧ Hid (WriterAt w0.heap.size B wr vk (ys ++ Oc.be l.length ++ (l'.take k).flatMap (Gr.putNd putI))) ∧ Hid (Grew w0 wr) ∧ Hid (KeptW w0.heap.size B W2 wr))
  case atStart => exact ⟨0, vb1, Nat.zero_le _, by omega, rfl, Lib.hid (by have := HW2.out; rw [be_one] at this; simpa using this), Lib.hid (HG1.out.trans HG2.out), Lib.hid (KeptW.refl _ _ _)⟩
  case round =>
    obtain ⟨k, vk, hk, hgg, rfl, HWK, HGK, HKK⟩ := hrel
    by_cases hlt : k < l'.length
    · have hi2 := HI.out.kept HKK.out hB1
      obtain ⟨a', cap', e, hx⟩ := hi2.openO (HO.out.kept HKK.out hB1)
      cases e
      obtain ⟨b, off, c, rfl, hb, hn, hown, c0, c1, c2, c3, c4, c5, c6, c7, c8, c9, c10, c11, c12⟩ := hx k hlt
      have hok := HOK2.out _ (List.getElem_mem hlt)
      have htf := take_flat (Gr.putNd putI) l' k hlt
      have hfl := flat_len (l := l'.take k) (lp := 1) fun n hn => HOK2.out n (List.mem_of_mem_take hn)
      rw [List.length_take, Nat.min_eq_left hk] at hfl
      have HFL := Lib.hid hfl
      have HTF := Lib.hid htf
      generalize l'[k] = y at *
      have HNc := Lib.hid hn
      have HPN := Lib.hid fun W (g : Grew wr W) => putNode_any w0 W B vk _ c y 1 (by decide) (HWK.out.grew g) (HGK.out.trans g) (hn.grew g) ((hown.grew g).apartF hB1) ((hown.grew g).apartP hB1) hok (by simp only [List.length_append, Oc.be_len]; omega)
      obtain ⟨cid, kind, af, cf, ap, cp, par, r0, r1, r2, r3, r4, r5, r6, r7, rfl⟩ := HNc.out.lit
      simp only at c0 c1 c2 c3 c4 c5 c6 c7 c8 c9 c10 c11 c12
      clear hx hn hown hok htf hfl hi2
      go_wp2_with (go_at_call 78; refine (HPN.out _ (by repeat (first | with_reducible exact Grew.refl _ | apply Grew.more | apply Grew.alloc | apply Grew.drew | apply Grew.drewN))).mono ?_; rintro e w5 ⟨rfl, hg5, hk5, vb5, hw5⟩; (have HW5 := Lib.hid hw5); (have HG5 := Lib.hid hg5); (have HK5 := Lib.hid ((KeptW.ofGrew (W := wr) (by repeat (first | with_reducible exact Grew.refl _ | apply Grew.more | apply Grew.alloc | apply Grew.drew | apply Grew.drewN))).trans hk5)); clear hw5 hg5 hk5)
      go_roundg (l'.length - (k + 1))
      case measure => omega
      case rel => exact ⟨k + 1, vb5, by omega, by omega, by go_num, Lib.hid (by rw [HTF.out, ← List.append_assoc]; exact HW5.out), HG5, Lib.hid (HKK.out.trans HK5.out)⟩
    · obtain rfl : k = l'.length := by omega
      go_wp2
      go_end0
      refine ⟨rfl, HGK.out, ((KeptW.ofGrew (W := W) (by repeat (first | with_reducible exact Grew.refl _ | apply Grew.more | apply Grew.alloc | apply Grew.drew | apply Grew.drewN))).trans HK1.out).trans ((KeptW.ofGrew HG2.out).trans HKK.out), vk, ?_⟩
      have := HWK.out
      rw [List.take_length, HL.out] at this
      unfold Gr.putG
      rw [← List.append_assoc]
      exact this

theorem putG_len {l : List Gr.Nd} (hr : Gr.RightR l) (h8 : ∀ n ∈ l, n.route.length = 8) : (Gr.putG putI l).length ≤ 3000 := by
  have hok : ∀ n ∈ l, Gr.OkB fitsP 1 n := hr.okB (by unfold fitsP; rfl) (fun p hp => safe_fits hp) h8
  have hp := Gr.normG_perm hr.ids hr.r7
  have h1 := flat_len (l := Gr.normG l) (lp := 1) fun n hn => hok n (hp.mem_iff.1 hn)
  have h2 := hp.length_eq
  have h3 := hr.len
  unfold Gr.putG
  rw [List.length_append, Oc.be_len]
  omega
set_option maxHeartbeats 4000000 in
theorem packGraph_bad (v : Value) (l : List Gr.Nd) (w : World) (hv : NodesAt w v l) (hs : Small l) (hr : ¬ Gr.RightR l) : Calls Tryz.prog 10 #[v] w (Gives (.tuple #[.string ⟨#[]⟩, .int .i64 10]) w) := by
  have hc := check_graph v l w hv hs
  have hne : (checkR l == 0) = false := by
    rcases Nat.lt_or_ge 8 l.length with h | h
    · rw [checkR_long h]; rfl
    · rw [checkR_bad h hr]; rfl
  obtain ⟨a, cap, rfl, hm, -⟩ := hv.openC
  clear hv hs
  have hne2 : (checkR l != 0) = true := by rw [bne, hne]; rfl
  generalize checkR l = x at *
  go_enter Tryz.func10, Tryz.ntmps10
  go_wp2_with (go_at_call 30; refine hc.mono ?_; rintro e w1 ⟨rfl, R3, n3, rfl⟩)
  exact bodyPost_ret (v := .tuple #[.string ⟨#[]⟩, .int .i64 10]) (by simp [results, Tryz.results10, go_sem]) rfl ⟨rfl, by repeat (first | with_reducible exact Grew.refl _ | apply Grew.more | apply Grew.alloc | apply Grew.drew | apply Grew.drewN)⟩
set_option maxHeartbeats 4000000 in
theorem packGraph_ok (v : Value) (l : List Gr.Nd) (w : World) (hv : NodesAt w v l) (hs : Small l) (hr : Gr.RightR l) : Calls Tryz.prog 10 #[v] w (Gives (.tuple #[str (Gr.putG putI l), .int .i64 0]) w) := by
  have hc := check_graph v l w hv hs
  rw [checkR_ok hr.len hr] at hc
  have HC := Lib.hid hc
  have HV := Lib.hid hv
  have HS := Lib.hid hs
  have HR := Lib.hid hr
  have hlen := putG_len hr hv.r8
  obtain ⟨a, cap, rfl, hm, -⟩ := hv.openC
  clear hv hs hr hc
  go_enter Tryz.func10, Tryz.ntmps10
  go_wp2_with (first
    | (go_at_call 30; refine HC.out.mono ?_; rintro e w1 ⟨rfl, R3, n3, rfl⟩)
    | (go_at_call 31; go_loud (refine (putGraph_any w _ _ (.slice none 0 0) [] _ l ⟨?_, heap_new_at _ _ _ (by simp [go_sem]), OwnAt.nil _⟩ (by repeat (first | with_reducible exact Grew.refl _ | apply Grew.more | apply Grew.alloc | apply Grew.drew | apply Grew.drewN)) HV.out HS.out HR.out (by simp)).mono ?_); (focus simp [go_sem]; try omega); rintro e w5 ⟨rfl, hg5, hk5, vb5, hw5⟩; rw [List.nil_append] at hw5; (have HW5 := Lib.hid hw5); (have HG5 := Lib.hid hg5); clear hw5 hg5 hk5)
    | (go_at_call 32; refine (octOut_any _ _ _ _ _ HW5.out (by omega)).mono ?_; rintro e w6 ⟨rfl, R6, n6, rfl⟩))
  exact bodyPost_ret (v := .tuple #[.string ⟨(Gr.putG putI l).toArray⟩, .int .i64 0]) (by simp [results, Tryz.results10, go_sem]) rfl ⟨rfl, HG5.out.trans (by repeat (first | with_reducible exact Grew.refl _ | apply Grew.more | apply Grew.alloc | apply Grew.drew | apply Grew.drewN))⟩
end Go.Proofs.YtangapokicnfgaaGreat
