import Derived.Test.YtpbohimddmploaaGreatCd23
import Derived.Deep.LoopGhost
import Derived.Lib.AppendStr
import Derived.Test.YtpbohimddmploaaGreatCd26
set_option linter.unusedSimpArgs false
set_option linter.unusedVariables false
set_option maxRecDepth 100000
set_option maxHeartbeats 64000000
namespace Go.Proofs.YtpbohimddmploaaGreat
open Go.RowKit Ga

theorem writerNum_bad (base : Nat) (W : World) (B : Nat) (vb : Value) (bs : List UInt8) (v : Value) (l : List Int) (_hw : WriterAt base B W vb bs) (hv : RowsAt 1 encN W v l) (hok : l.all Oc.fitsN = false) :
    Calls Tryz.prog 94 #[.pointer (some ⟨B, 0, none⟩), v] W fun e W' => e = .returned (.int .i64 2) ∧ W' = W := by
  obtain ⟨a, cap, rfl, hm, hl⟩ := hv.open1
  have HL := Lib.hid hl
  have HOK := Lib.hid hok
  clear hv hok hl _hw
  go_enter Tryz.func94, Tryz.ntmps94
  go_wp2
  go_loopg [14] l.length (fun gg i wr => ∃ (k : Nat), k ≤ l.length ∧ l.length - k ≤ gg ∧ i = .int .i64 k ∧ wr = W ∧ Hid (∀ x ∈ l.take k, Oc.fitsN x = true))
  case atStart => exact ⟨0, Nat.zero_le _, by omega, rfl, rfl, Lib.hid fun x hx => by simp at hx⟩
  case round =>
    obtain ⟨k, hk, hgg, rfl, rfl, HNO⟩ := hrel
    by_cases hlt : k < l.length
    · obtain ⟨b, off, rfl, hb, hx⟩ := HL.out k hlt
      have HTK := Lib.hid (List.take_succ_eq_append_getElem hlt)
      generalize l[k] = x at *
      cases hf : Oc.fitsN x
      · have HF := Lib.hid hf
        clear hf
        go_wp2_with (go_at_call 148; refine (octFits_any _ _).mono ?_; rintro e w1 ⟨rfl, rfl⟩; rw [HF.out])
        go_ret
        exact ⟨rfl, rfl⟩
      · have HF := Lib.hid hf
        clear hf
        go_wp2_with (go_at_call 148; refine (octFits_any _ _).mono ?_; rintro e w1 ⟨rfl, rfl⟩; rw [HF.out])
        go_roundg (l.length - (k + 1))
        case measure => omega
        case rel => exact ⟨k + 1, by omega, by omega, by go_num, rfl, Lib.hid fun y hy => by
          rw [HTK.out, List.mem_append, List.mem_singleton] at hy
          rcases hy with hy | rfl
          · exact HNO.out y hy
          · exact HF.out⟩
    · obtain rfl : k = l.length := by omega
      have h1 := HNO.out
      rw [List.take_length] at h1
      have h2 := HOK.out
      rw [List.all_eq_true.2 h1] at h2
      cases h2
theorem codePut_bad (W : World) (B : Nat) (v : Value) (l : List Val) (hv : ValsAt W v l) (hf : Co.fitsI l = false) : Calls Tryz.prog 156 #[.pointer (some ⟨B, 0, none⟩), v] W (Gives (.int .i64 1) W) := by
  obtain ⟨a, cap, rfl, hm, -⟩ := hv.open2
  have HV := Lib.hid hv
  have HF := Lib.hid hf
  clear hv hf
  go_enter Tryz.func156, Tryz.ntmps156
  go_wp2_with (go_at_call 193; refine (codeFits_any _ l _ (HV.out.grew (by repeat (first | with_reducible exact Grew.refl _ | apply Grew.more | apply Grew.alloc | apply Grew.drew | apply Grew.drewN)))).mono ?_; rintro e w1 ⟨rfl, R3, n3, rfl⟩; rw [HF.out])
  go_ret
  refine ⟨rfl, ?_⟩
  repeat (first | with_reducible exact Grew.refl _ | apply Grew.more | apply Grew.alloc | apply Grew.drew | apply Grew.drewN)
def PutSome (w0 W : World) (B : Nat) (bs : List UInt8) (n : Nat) (e : Ending) (W' : World) : Prop := ∃ x, e = .returned (.int .i64 x) ∧ Grew w0 W' ∧ KeptW w0.heap.size B W W' ∧ ∃ vb' zs, zs.length ≤ n ∧ WriterAt w0.heap.size B W' vb' (bs ++ zs)
theorem writerNum_some (w0 W : World) (B : Nat) (vb : Value) (bs : List UInt8) (v : Value) (l : List Int) (hw : WriterAt w0.heap.size B W vb bs) (hg : Grew w0 W) (hv : RowsAt 1 encN W v l)
    (hs : ∀ b off, (∃ n c, v = .slice (some ⟨b, off, none⟩) n c) → Safe w0.heap.size b W ∧ b ≠ B) (hlen : bs.length + l.length * 4 ≤ 100000) :
    Calls Tryz.prog 94 #[.pointer (some ⟨B, 0, none⟩), v] W (PutSome w0 W B bs (l.length * 4)) := by
  cases hok : l.all Oc.fitsN
  · refine (writerNum_bad _ W B vb bs v l hw hv hok).mono ?_
    rintro e W' ⟨rfl, rfl⟩
    exact ⟨2, rfl, hg, KeptW.refl _ _ _, vb, [], Nat.zero_le _, by rw [List.append_nil]; exact hw⟩
  · refine (writerNum_keep w0 W B vb bs v l hw hg hv hs hok hlen).mono ?_
    rintro e W' ⟨rfl, h1, h2, vb', h3⟩
    exact ⟨0, rfl, h1, h2, vb', Oc.bes l, by rw [Oc.bes_len]; omega, h3⟩
theorem codePut_some (w0 W : World) (B : Nat) (vb : Value) (bs : List UInt8) (v : Value) (l : List Val) (hw : WriterAt w0.heap.size B W vb bs) (hg : Grew w0 W) (hv : ValsAt W v l) (hs : ∀ b off, (∃ n c, v = .slice (some ⟨b, off, none⟩) n c) → Safe w0.heap.size b W ∧ b ≠ B) (hlen : bs.length ≤ 10000) :
    Calls Tryz.prog 156 #[.pointer (some ⟨B, 0, none⟩), v] W (PutSome w0 W B bs 300) := by
  cases hf : Co.fitsI l
  · refine (codePut_bad W B v l hv hf).mono ?_
    rintro e W' ⟨rfl, g⟩
    exact ⟨1, rfl, hg.trans g, KeptW.ofGrew g, vb, [], Nat.zero_le _, by rw [List.append_nil]; exact hw.grew g⟩
  · refine (codePut_keep w0 W B vb bs v l hw hg hv hs hf hlen).mono ?_
    rintro e W' ⟨rfl, h1, h2, vb', h3⟩
    exact ⟨0, rfl, h1, h2, vb', putI l, by have := putI_len l hf; omega, h3⟩

def PutSomeN (w0 W : World) (B : Nat) (ys : List UInt8) (n : Nat) (e : Ending) (W' : World) : Prop := e = .returned (.tuple #[]) ∧ Grew w0 W' ∧ KeptW w0.heap.size B W W' ∧ ∃ vb' zs, zs.length ≤ n ∧ WriterAt w0.heap.size B W' vb' (ys ++ zs)
theorem writerNum_freshS (w0 W : World) (B : Nat) (vb : Value) (bs : List UInt8) (l : List Int) (c : List Value) (b n cap : Nat) (hw : WriterAt w0.heap.size B W vb bs) (hg : Grew w0 W) (hc : c = l.map (Value.int .i64)) (hb : b = W.heap.size) (hn : n = l.length) (hlen : bs.length + l.length * 4 ≤ 100000) :
    Calls Tryz.prog 94 #[.pointer (some ⟨B, 0, none⟩), .slice (some ⟨b, 0, none⟩) n cap] (W.alloc (.cells c.toArray 3)) (PutSome w0 W B bs (l.length * 4)) := by
  have hB := (Array.getElem?_eq_some_iff.1 hw.2.1).1
  refine (writerNum_some w0 _ B vb bs _ l (hw.grew ((Grew.refl W).alloc _)) (hg.alloc _) ?_ ?_ hlen).mono fun e W' ⟨x, h1, h2, h3, h4⟩ => ⟨x, h1, h2, (KeptW.ofGrew ((Grew.refl W).alloc _)).trans h3, h4⟩
  · refine RowsAt.fresh hn (by unfold maxLen; omega) encN_len hb ?_
    rw [hc]
    clear hc hlen hn
    induction l with
    | nil => rfl
    | cons x l ih => rw [List.map_cons, List.flatMap_cons, ih]; rfl
  · rintro b2 off ⟨n2, c2, e⟩
    cases e
    subst hb
    exact ⟨.inr ⟨_, _, _, heap_new_at W _ _ rfl, by decide⟩, by omega⟩
theorem putNode_some (w0 W : World) (B : Nat) (vb : Value) (ys : List UInt8) (c : NdC) (n : Gr.Nd) (hw : WriterAt w0.heap.size B W vb ys) (hg : Grew w0 W) (hn : NodeIs W c n) (hsf : Apart w0.heap.size B W c.vf) (hsp : Apart w0.heap.size B W c.vp) (hok : n.frm.length ≤ 100) (hlen : ys.length ≤ 8000) :
    Calls Tryz.prog 109 #[.pointer (some ⟨B, 0, none⟩), .agg #[.int .i64 c.id, .int .i64 c.kind, .slice c.af c.nf c.cf, .slice c.ap c.np c.cp, .int .i64 c.par, .int .i64 c.r0, .int .i64 c.r1, .int .i64 c.r2, .int .i64 c.r3, .int .i64 c.r4, .int .i64 c.r5, .int .i64 c.r6, .int .i64 c.r7]] W (PutSomeN w0 W B ys 1000) := by
  obtain ⟨id, kind, af, cf, ap, cp, par, r0, r1, r2, r3, r4, r5, r6, r7, rfl⟩ := hn.lit
  have hr8 := hn.route
  simp only at hr8
  have HW := Lib.hid hw
  have HG := Lib.hid hg
  have HN := Lib.hid hn
  have HSF := Lib.hid hsf
  have HSP := Lib.hid hsp
  have HOK := Lib.hid hok
  have HR8 := Lib.hid hr8
  have hBlt := (Array.getElem?_eq_some_iff.1 hw.2.1).1
  have hneB : W.heap.size ≠ B := by omega
  clear hw hg hn hsf hsp hok hr8
  have hbx0 : (W.alloc (.cells #[.int .i64 id, .int .i64 kind, .slice af n.frm.length cf, .slice ap n.prog.length cp, .int .i64 par, .int .i64 r0, .int .i64 r1, .int .i64 r2, .int .i64 r3, .int .i64 r4, .int .i64 r5, .int .i64 r6, .int .i64 r7] 56)).heap[W.heap.size]? = some (.cells #[.int .i64 id, .int .i64 kind, .slice af n.frm.length cf, .slice ap n.prog.length cp, .int .i64 par, .int .i64 r0, .int .i64 r1, .int .i64 r2, .int .i64 r3, .int .i64 r4, .int .i64 r5, .int .i64 r6, .int .i64 r7] 56) := heap_new_at W _ _ rfl
  have HBX0 := Lib.hid hbx0
  clear hbx0
  show Calls Tryz.prog 109 #[.pointer (some ⟨B, 0, none⟩), .agg #[.int .i64 id, .int .i64 kind, .slice af n.frm.length cf, .slice ap n.prog.length cp, .int .i64 par, .int .i64 r0, .int .i64 r1, .int .i64 r2, .int .i64 r3, .int .i64 r4, .int .i64 r5, .int .i64 r6, .int .i64 r7]] W _
  go_enter Tryz.func109, Tryz.ntmps109
  go_wp2_with fail
  refine (writerNum_freshS w0 (W.alloc (.cells #[.int .i64 id, .int .i64 kind, .slice af n.frm.length cf, .slice ap n.prog.length cp, .int .i64 par, .int .i64 r0, .int .i64 r1, .int .i64 r2, .int .i64 r3, .int .i64 r4, .int .i64 r5, .int .i64 r6, .int .i64 r7] 56)) B vb ys [id, kind, n.frm.length] [.int .i64 id, .int .i64 kind, .int .i64 n.frm.length] _ _ _ (HW.out.grew (by repeat (first | with_reducible exact Grew.refl _ | apply Grew.more | apply Grew.alloc | apply Grew.drew | apply Grew.drewN))) (HG.out.alloc _) rfl (by simp [go_sem]) rfl (by simp only [List.length_append, List.length_cons, List.length_nil] at *; omega)).mono ?_
  rintro e W1 ⟨xx1, rfl, hg1, hk1, vb1, zs1, hz1, hw1⟩
  have HW1 := Lib.hid hw1
  have HG1 := Lib.hid hg1
  have HK1 := Lib.hid ((KeptW.ofGrew ((Grew.refl W).alloc _)).trans hk1)
  have hbx1 := hk1.cells HBX0.out hneB (by decide)
  have HBX1 := Lib.hid hbx1
  clear hw1 hg1 hk1
  have x2 := cell_of (o := 2) HBX1.out
  simp at x2
  have px2 := Pre.mk (heap_lt HBX1.out)
  have hfl := HOK.out
  go_wp2_with fail
  refine (writerNum_some w0 W1 B vb1 _ _ n.frm HW1.out HG1.out (HSF.out.kept HK1.out HN.out.f (ints_lt HN.out.f)) (HSF.out.to HK1.out) (by simp only [List.length_append, List.length_cons, List.length_nil] at *; omega)).mono ?_
  rintro e W2 ⟨xx2, rfl, hg2, hk2, vb2, zs2, hz2, hw2⟩
  have HW2 := Lib.hid hw2
  have HG2 := Lib.hid hg2
  have HK2 := Lib.hid (HK1.out.trans hk2)
  have hbx2 := hk2.cells HBX1.out hneB (by decide)
  have HBX2 := Lib.hid hbx2
  clear hw2 hg2 hk2 hbx2 x2 px2
  have x3 := cell_of (o := 3) HBX2.out
  simp at x3
  have px3 := Pre.mk (heap_lt HBX2.out)
  go_wp2_with fail
  refine (codePut_some w0 W2 B vb2 _ _ n.prog HW2.out HG2.out (HSP.out.kept HK2.out HN.out.p (vals_lt HN.out.p)) (HSP.out.to HK2.out) (by simp only [List.length_append, List.length_cons, List.length_nil] at *; omega)).mono ?_
  rintro e W3 ⟨xx3, rfl, hg3, hk3, vb3, zs3, hz3, hw3⟩
  have HW3 := Lib.hid hw3
  have HG3 := Lib.hid hg3
  have HK3 := Lib.hid (HK2.out.trans hk3)
  have hbx3 := hk3.cells HBX2.out hneB (by decide)
  have HBX3 := Lib.hid hbx3
  clear hw3 hg3 hk3 hbx3 x3 px3
  have x4 := cell_of (o := 4) HBX3.out
  simp at x4
  have px4 := Pre.mk (heap_lt HBX3.out)
  go_wp2_with fail
  refine (writerNum_freshS w0 W3 B vb3 _ [par] [.int .i64 par] _ _ _ HW3.out HG3.out rfl (by simp [go_sem]) rfl (by simp only [List.length_append, List.length_cons, List.length_nil] at *; omega)).mono ?_
  rintro e W4 ⟨xx4, rfl, hg4, hk4, vb4, zs4, hz4, hw4⟩
  have HW4 := Lib.hid hw4
  have HG4 := Lib.hid hg4
  have HK4 := Lib.hid (HK3.out.trans hk4)
  have hbx4 := hk4.cells HBX3.out hneB (by decide)
  have HBX4 := Lib.hid hbx4
  clear hw4 hg4 hk4 hbx4 x4 px4
  have px5 := Pre.mk (heap_lt HBX4.out)
  go_wp2_with fail
  refine (writerNum_some w0 W4 B vb4 _ _ [r0, r1, r2, r3, r4, r5, r6, r7] HW4.out HG4.out (route_box HBX4.out) ?_ (by simp only [List.length_append, List.length_cons, List.length_nil] at *; omega)).mono ?_
  · rintro b off ⟨m, k, e⟩
    cases e
    exact ⟨.inr ⟨_, _, _, HBX4.out, by decide⟩, hneB⟩
  rintro e W5 ⟨xx5, rfl, hg5, hk5, vb5, zs5, hz5, hw5⟩
  have HW5 := Lib.hid hw5
  have HG5 := Lib.hid hg5
  have HK5 := Lib.hid (HK4.out.trans hk5)
  clear hw5 hg5 hk5
  go_wp2
  go_end0
  refine ⟨rfl, HG5.out, HK5.out, vb5, zs1 ++ (zs2 ++ (zs3 ++ (zs4 ++ zs5))), ?_, ?_⟩
  · simp only [List.length_append, List.length_cons, List.length_nil] at *
    omega
  · have := HW5.out
    simp only [List.append_assoc] at this
    exact this

theorem strCells_flat (t : List UInt8) : Lib.strCells ⟨t.toArray⟩ = t.flatMap encB := by
  unfold Lib.strCells
  simp only
  induction t with
  | nil => rfl
  | cons x t ih =>
    rw [List.flatMap_cons, ← ih]
    rfl
theorem wpList_ownStr {w0 : World} {v : Value} {l : List UInt8} {ops : Array Oper} {rest : List Oper} {o : Oper} {a : Act} {Q : Exit → Act → World → Prop} {W : World}
    (hgd : o.guard = none) (s x : Operand) (ho : o.op = .call { callee := .builtin .append, args := #[s, x], argTypes := #[149, 9] })
    (hs : a.eval s = v) (hown : OwnAt w0.heap.size 5 1 encB W v l) (hg : Grew w0 W) (t : List UInt8) (hx : a.eval x = .string ⟨t.toArray⟩) (hlen : l.length + t.length ≤ 1000000)
    (h : ∀ v' R N, OwnAt w0.heap.size 5 1 encB (w0.more R N) v' (l ++ t) → (∀ q, q < W.heap.size → v.ownBlock ≠ some q → (w0.more R N).heap[q]? = W.heap[q]?) → W.heap.size ≤ (w0.more R N).heap.size → wpList Tryz.prog ops Q rest (a.put o.dst v') (w0.more R N)) : wpList Tryz.prog ops Q (o :: rest) a W := by
  obtain ⟨i, hi, hz0, hz1, hz2⟩ := info_parts infoU8
  have hsz : (⟨t.toArray⟩ : ByteArray).size = t.length := by simp [ByteArray.size]
  refine Lib.wpList_append_own_string W hgd s x 149 9 ho w0.heap.size 5 i Tryz.underlying149 Tryz.underlying9 hi hz0 hz1 hz2 v l.length (l.flatMap encB) hs hown ⟨t.toArray⟩ hx (by rw [hsz]; unfold maxLen; omega) (by rw [hsz]; omega) hg.below.size ?_
  intro v' w' h1 h2 _
  have hblk := h2.block
  have hszz := h2.size
  obtain ⟨R, N, rfl⟩ := hg.grown h2 (fun q hq => OwnAt.lt hown q hq)
  refine h v' R N ?_ (fun q hq hne => hblk q hq (fun e => hne e.symm)) hszz
  unfold OwnAt
  rw [List.length_append, List.flatMap_append, ← strCells_flat t, ← hsz]
  exact h1
theorem KeptW.step0 {base B : Nat} {wr W9 : World} {vk v9 : Value} {ys : List UInt8} (hw : WriterAt base B wr vk ys) (hsz : wr.heap.size ≤ W9.heap.size) (hk : ∀ q, q < wr.heap.size → vk.ownBlock ≠ some q → W9.heap[q]? = wr.heap[q]?) : KeptW base B wr (W9.setCell ⟨B, 0, none⟩ v9) :=
  ⟨by rw [World.size_setCell]; exact hsz, fun q hq hn hs => by rw [heap_set_other (fun e => hn e.symm), hk q hq (hs.own hw.2.2)]⟩
theorem octText_any (w0 W : World) (B : Nat) (vb : Value) (bs t : List UInt8) (hw : WriterAt w0.heap.size B W vb bs) (hg : Grew w0 W) (hlen : bs.length + t.length ≤ 90000) :
    Calls Tryz.prog 96 #[.pointer (some ⟨B, 0, none⟩), .string ⟨t.toArray⟩] W fun e W' => e = .returned (.int .i64 0) ∧ Grew w0 W' ∧ KeptW w0.heap.size B W W' ∧ ∃ vb', WriterAt w0.heap.size B W' vb' (bs ++ (Oc.be t.length ++ t)) := by
  have HW := Lib.hid hw
  have HG := Lib.hid hg
  have hBlt := heap_lt hw.2.1
  have hbig : ¬ (1048576 : Int) < (t.length : Int) := by omega
  clear hw hg
  go_enter Tryz.func96, Tryz.ntmps96
  go_wp2_with fail
  refine (writerNum_freshK w0 W B vb bs [(t.length : Int)] [.int .i64 t.length] _ _ _ HW.out HG.out rfl (by simp [go_sem]) rfl ?_ (by simp; omega)).mono ?_
  · simp only [List.all_cons, List.all_nil, Bool.and_true]
    exact fits_of (by omega) (by omega)
  rintro e W1 ⟨rfl, hg1, hk1, vb1, hw1⟩
  rw [be_one] at hw1
  have HW1 := Lib.hid hw1
  have HG1 := Lib.hid hg1
  have HK1 := Lib.hid hk1
  have c0 := cell_of_heap (o := 0) hw1.2.1
  have f0 := frozen_of_heap (o := 0) hw1.2.1
  have pB := Pre.mk (heap_lt hw1.2.1)
  simp at c0
  clear hw1 hg1 hk1
  go_wp2_with (at_builtin; go_loud (refine wpList_ownStr (w0 := w0) rfl (.tmp 21) (.tmp 22) rfl rfl HW1.out.2.2 HG1.out t rfl (by rw [List.length_append, Oc.be_len]; omega) ?_); intro v9 R9 n9 hown9 hkeep9 hsz9; obtain ⟨a9, c9, rfl⟩ := (OwnAt.rows hown9 encB_len).len; (have hB9 : (w0.more R9 n9).heap[B]? = some (.cells #[vb1] 151) := (by rw [hkeep9 B (heap_lt HW1.out.2.1) (Safe.own (.inr ⟨_, _, _, HW1.out.2.1, by decide⟩) HW1.out.2.2)]; exact HW1.out.2.1)); (have hcB := cell_of_heap (o := 0) hB9); (have hfB := frozen_of_heap (o := 0) hB9); simp at hcB; (have HO9 := Lib.hid hown9); (have HK9 := Lib.hid hkeep9); (have HS9 := Lib.hid hsz9); (have HB9 := Lib.hid hB9); (have pB9 := Pre.mk (heap_lt hB9)); clear hown9 hkeep9 hsz9 hB9)
  go_ret
  have hsB : Safe w0.heap.size B (w0.more R9 n9) := .inr ⟨_, _, _, HB9.out, by decide⟩
  refine ⟨rfl, Grew.setBehind ⟨R9, n9, rfl⟩ HW1.out.1 _, HK1.out.trans (KeptW.step0 HW1.out HS9.out HK9.out), _, HW1.out.1, heap_set_self HB9.out, ?_⟩
  have ho9 := HO9.out
  simp only [List.length_append, Nat.add_assoc] at ho9
  rw [← List.append_assoc]
  exact OwnAt.sameBlock ho9 fun q hq => heap_set_other (fun e => by subst e; exact hsB.own ho9 hq)


theorem chg1 (w0 W : World) (B b n cap i : Nat) (lc : List NdC) (l : List Gr.Nd) (st : StC) (s : Gr.Stp) (h : Work w0 W B (.slice (some ⟨b, 0, none⟩) n cap) lc l st s (i : Int)) (hi : i < l.length) (hl : l.length ≤ 100) (hkd : s.kind = 1) : Calls Tryz.prog 115 #[.pointer (some ⟨B, 0, none⟩)] W (WkPost w0 B st s (i : Int) (chgE l i l[i] s) W) := by
  have hlen := Rel.len h.inn
  have hic : i < lc.length := by omega
  have hsk := h.stp.kind
  obtain ⟨c, hc⟩ : ∃ c, lc[i]? = some c := ⟨_, List.getElem?_eq_getElem hic⟩
  obtain ⟨hni, hno⟩ := Rel.get h.inn i c l[i] hc (List.getElem?_eq_getElem hi)
  have hnk := hni.kind
  have hnid := hni.id
  have H := Lib.hid h
  have HC := Lib.hid hc
  have HNI := Lib.hid hni
  have HNO := Lib.hid hno
  obtain ⟨hnl, hbb, hlc2, hcm, cur, hcur, _, _⟩ := OwnAt.cells h.own
  have hni2 : (i : Int) < (n : Int) := by omega
  have hi0 : ¬ ((i : Int) < 0) := by omega
  have pBn : ∀ q, Pre B (W.drewN q) := fun q => Pre.mk (heap_lt h.blk)
  have pbn : ∀ q, Pre b (W.drewN q) := fun q => Pre.mk (heap_lt hcur)
  have hwr : IntKind.i64.wrap ((i : Int) + 1) = (i : Int) + 1 := IntWalk.i64_in _ (by omega)
  have pb := Pre.mk (heap_lt hcur)
  have HCUR := Lib.hid hcur
  have HBB := Lib.hid hbb
  have HNL : Hid (n = lc.length ∧ i < lc.length ∧ lc.length ≤ 100 ∧ lc.length = l.length) := Lib.hid ⟨hnl, hic, by omega, hlen⟩
  have k0 := own_cellN (j := 0) h.own hc (by decide)
  have k1 := own_cellN (j := 1) h.own hc (by decide)
  simp [encNd] at k0 k1
  have x0 := cell_of (o := 0) h.blk
  have x1 := cell_of (o := 1) h.blk
  have x16 := cell_of (o := 16) h.blk
  have pB := Pre.mk (heap_lt h.blk)
  obtain ⟨kd, ⟨id, kind, af, nf, cf, ap, np, cp, par, r0, r1, r2, r3, r4, r5, r6, r7⟩, rs⟩ := st
  simp [wkC, encSt] at x0 x1 x16
  simp only at hsk
  rw [hsk] at hkd

  subst hkd
  have he : chgE l i l[i] s = swapE l i l[i] s := if_pos hsk
  rw [he]
  have HSW := Lib.hid fun W2 (g : Grew W W2) => swap_any w0 W2 B b n cap i lc l _ s (i : Int) (h.grew g) hi
  generalize swapE l i l[i] s = rr at *
  clear h hlen hic hc hni hno hcur hbb hnl hlc2 hcm he hnk hnid
  go_enter Tryz.func115, Tryz.ntmps115
  go_upto_region 3 with fail
  go_quiet (fail)
  go_wp2_with (go_at_call 158; refine (HSW.out _ (by repeat (first | with_reducible exact Grew.refl _ | apply Grew.more | apply Grew.alloc | apply Grew.drew | apply Grew.drewN))).mono ?_; rintro e w1 ⟨rfl, hw1, hg1⟩; (have HW1 := Lib.hid hw1); (have HG1 := Lib.hid hg1); clear hw1 hg1)
  go_ret
  exact ⟨rfl, HW1.out, HG1.out⟩
theorem chg5 (w0 W : World) (B b n cap i : Nat) (lc : List NdC) (l : List Gr.Nd) (st : StC) (s : Gr.Stp) (h : Work w0 W B (.slice (some ⟨b, 0, none⟩) n cap) lc l st s (i : Int)) (hi : i < l.length) (hl : l.length ≤ 100) (hkd : s.kind = 5) : Calls Tryz.prog 115 #[.pointer (some ⟨B, 0, none⟩)] W (WkPost w0 B st s (i : Int) (chgE l i l[i] s) W) := by
  have hlen := Rel.len h.inn
  have hic : i < lc.length := by omega
  have hsk := h.stp.kind
  obtain ⟨c, hc⟩ : ∃ c, lc[i]? = some c := ⟨_, List.getElem?_eq_getElem hic⟩
  obtain ⟨hni, hno⟩ := Rel.get h.inn i c l[i] hc (List.getElem?_eq_getElem hi)
  have hnk := hni.kind
  have hnid := hni.id
  have H := Lib.hid h
  have HC := Lib.hid hc
  have HNI := Lib.hid hni
  have HNO := Lib.hid hno
  obtain ⟨hnl, hbb, hlc2, hcm, cur, hcur, _, _⟩ := OwnAt.cells h.own
  have hni2 : (i : Int) < (n : Int) := by omega
  have hi0 : ¬ ((i : Int) < 0) := by omega
  have pBn : ∀ q, Pre B (W.drewN q) := fun q => Pre.mk (heap_lt h.blk)
  have pbn : ∀ q, Pre b (W.drewN q) := fun q => Pre.mk (heap_lt hcur)
  have hwr : IntKind.i64.wrap ((i : Int) + 1) = (i : Int) + 1 := IntWalk.i64_in _ (by omega)
  have pb := Pre.mk (heap_lt hcur)
  have HCUR := Lib.hid hcur
  have HBB := Lib.hid hbb
  have HNL : Hid (n = lc.length ∧ i < lc.length ∧ lc.length ≤ 100 ∧ lc.length = l.length) := Lib.hid ⟨hnl, hic, by omega, hlen⟩
  have k0 := own_cellN (j := 0) h.own hc (by decide)
  have k1 := own_cellN (j := 1) h.own hc (by decide)
  simp [encNd] at k0 k1
  have x0 := cell_of (o := 0) h.blk
  have x1 := cell_of (o := 1) h.blk
  have x4 := cell_of (o := 4) h.blk
  have x16 := cell_of (o := 16) h.blk
  have pB := Pre.mk (heap_lt h.blk)
  obtain ⟨kd, ⟨id, kind, af, nf, cf, ap, np, cp, par, r0, r1, r2, r3, r4, r5, r6, r7⟩, rs⟩ := st
  simp [wkC, encSt] at x0 x1 x4 x16
  simp only at hsk
  rw [hsk] at hkd

  subst hkd
  have he : chgE l i l[i] s = if l[i].kind ≠ 2 then (11, []) else (0, l.set i { l[i] with frm := s.nd.frm }) := by unfold chgE; rw [if_neg (by omega), if_neg (by omega), if_neg (by omega)]
  rw [he]
  clear he
  by_cases h2 : l[i].kind ≠ 2
  · rw [if_pos h2]
    have hne : (c.kind != 2) = true := by rw [bne_iff_ne, ← hnk]; exact h2
    clear h hlen hic hc hni hno hcur hbb hnl hlc2 hcm h2 hnk hnid
    go_enter Tryz.func115, Tryz.ntmps115
    go_upto_region 3 with fail
    go_quiet (fail)
    go_wp2
    go_ret
    exact ⟨rfl, fun q => absurd q (by decide), H.out.g.trans (by repeat (first | with_reducible exact Grew.refl _ | apply Grew.more | apply Grew.alloc | apply Grew.drew | apply Grew.drewN))⟩
  · rw [if_neg h2]
    have hne : (c.kind != 2) = false := by rw [← hnk]; simpa using h2
    have f2 := frozen_of (o := i * 13 + 2) hcur
    have k2 := own_cellN (j := 2) h.own hc (by decide)
    simp [encNd] at k2
    have hw := fun W2 (q : Grew W W2) => (h.grew q).set5 hc hi
    simp only at hw
    have HW := Lib.hid hw
    clear h hlen hic hc hni hno hcur hbb hnl hlc2 hcm h2 hnk hnid hw
    go_enter Tryz.func115, Tryz.ntmps115
    go_upto_region 3 with fail
    go_quiet (fail)
    go_wp2
    go_ret
    refine ⟨rfl, ?_, ?_⟩
    · intro _
      exact ⟨_, _, HW.out _ (by repeat (first | with_reducible exact Grew.refl _ | apply Grew.more | apply Grew.alloc | apply Grew.drew | apply Grew.drewN))⟩
    · exact (HW.out _ (by repeat (first | with_reducible exact Grew.refl _ | apply Grew.more | apply Grew.alloc | apply Grew.drew | apply Grew.drewN))).g
end Go.Proofs.YtpbohimddmploaaGreat
