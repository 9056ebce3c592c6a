import Derived.Test.YtepfdekppnobaaaGreatMb37
import Derived.ChangeKeysEq
import Derived.Test.YtepfdekppnobaaaGreatMb29
import Derived.Test.YtepfdekppnobaaaGreatMb36
import Derived.Test.YtepfdekppnobaaaGreatMb10
import Derived.Test.YtepfdekppnobaaaGreatMb38
/-! pack.sorted: the nodes stand by their numbers. -/
namespace Go.Proofs.YtepfdekppnobaaaGreat
set_option linter.unusedSimpArgs false
set_option linter.unusedVariables false
open Go.RowKit Ga
set_option maxRecDepth 100000

def sortedB (l : List Gr.Nd) : Bool := decide (l.Pairwise fun a b => a.id ≤ b.id)
theorem sortedB_true {l : List Gr.Nd} (h : ∀ j (hj : j < l.length), 0 < j → l[j - 1].id ≤ l[j].id) : sortedB l = true := by
  unfold sortedB
  rw [decide_eq_true_eq, List.pairwise_iff_getElem]
  have key : ∀ d i (hj : i + d < l.length), l[i].id ≤ l[i + d].id := by
    intro d
    induction d with
    | zero => intro i hj; exact Int.le_refl _
    | succ d ih =>
      intro i hj
      have h1 := ih i (by omega)
      have h2 := h (i + (d + 1)) hj (by omega)
      simp only [show i + (d + 1) - 1 = i + d by omega] at h2
      exact Int.le_trans h1 h2
  intro i j hi hj hij
  have := key (j - i) i (by omega)
  simp only [show i + (j - i) = j by omega] at this
  exact this
theorem sortedB_false {l : List Gr.Nd} {j : Nat} (hj : j < l.length) (h0 : 0 < j) (h : l[j].id < l[j - 1].id) : sortedB l = false := by
  unfold sortedB
  rw [decide_eq_false_iff_not, List.pairwise_iff_getElem]
  intro hp
  have := hp (j - 1) j (by omega) hj (by omega)
  omega
theorem cmpD_any (x y : NdC) (W : World) (h1 : 0 ≤ x.id ∧ x.id ≤ 1000) (h2 : 0 ≤ y.id ∧ y.id ≤ 1000) : Calls Tryz.prog 76 #[.agg #[.int .i64 x.id, .int .i64 x.kind, .slice x.af x.nf x.cf, .slice x.ap x.np x.cp, .int .i64 x.par, .int .i64 x.r0, .int .i64 x.r1, .int .i64 x.r2, .int .i64 x.r3, .int .i64 x.r4, .int .i64 x.r5, .int .i64 x.r6, .int .i64 x.r7], .agg #[.int .i64 y.id, .int .i64 y.kind, .slice y.af y.nf y.cf, .slice y.ap y.np y.cp, .int .i64 y.par, .int .i64 y.r0, .int .i64 y.r1, .int .i64 y.r2, .int .i64 y.r3, .int .i64 y.r4, .int .i64 y.r5, .int .i64 y.r6, .int .i64 y.r7]] W (Gives (.int .i64 (x.id - y.id)) W) := by
  obtain ⟨xi, xk, xaf, xnf, xcf, xap, xnp, xcp, xpar, x0, x1, x2, x3, x4, x5, x6, x7⟩ := x
  obtain ⟨yi, yk, yaf, ynf, ycf, yap, ynp, ycp, ypar, y0, y1, y2, y3, y4, y5, y6, y7⟩ := y
  simp only at *
  obtain ⟨h1, h1'⟩ := h1
  obtain ⟨h2, h2'⟩ := h2
  go_enter Tryz.func76, Tryz.ntmps76
  go_wp2
  go_ret
  refine ⟨rfl, ?_⟩
  repeat (first | with_reducible exact Grew.refl _ | apply Grew.more | apply Grew.alloc | apply Grew.drew | apply Grew.drewN)
theorem enters76 : ∀ args w, (callFunc 76 args).run Tryz.prog w = .ok (.enter 76 args) w := enters_of Tryz.func76 (by kernel_rfl) rfl
set_option maxHeartbeats 8000000 in
theorem isSorted_any (v : Value) (l : List Gr.Nd) (w : World) (hv : NodesAt w v l) (hid : ∀ n ∈ l, 0 ≤ n.id ∧ n.id ≤ 1000) (hl : l.length ≤ 1000) :
    Calls Tryz.prog 75 #[v, .func (.func 76) #[] #[]] w (Gives (.bool (sortedB l)) w) := by
  have HV := Lib.hid hv
  have HID := Lib.hid hid
  have eg := enters76
  obtain ⟨a, cap, rfl, hm, -⟩ := hv.openC
  clear hv hid
  go_enter Tryz.func75, Tryz.ntmps75
  go_wp2
  go_loopg [5] l.length (fun gg s5 wr => ∃ i : Int, -1 ≤ i ∧ i < l.length ∧ i ≤ gg ∧ s5 = .int .i64 i ∧ Hid (Grew w wr) ∧ Hid (∀ j (hj : j < l.length), i < j → 0 < j → l[j - 1].id ≤ l[j].id))
  case atStart => exact ⟨(l.length : Int) - 1, by omega, by omega, by omega, rfl, Lib.hid (by repeat (first | with_reducible exact Grew.refl _ | apply Grew.more | apply Grew.alloc | apply Grew.drew | apply Grew.drewN)), Lib.hid fun j hj h _ => by omega⟩
  case round =>
    obtain ⟨i, hi0, hi1, hgg, rfl, HG, HNO⟩ := hrel
    by_cases hpos : 0 < i
    · obtain ⟨k, rfl⟩ : ∃ k : Nat, i = (k : Int) + 1 := ⟨(i - 1).toNat, by omega⟩
      have hk1 : k + 1 < l.length := by omega
      obtain ⟨a', cap', e, -, hx⟩ := (HV.out.grew HG.out).openC
      cases e
      obtain ⟨b, off, c, rfl, hb, hn, c0, c1, c2, c3, c4, c5, c6, c7, c8, c9, c10, c11, c12⟩ := hx (k + 1) hk1
      obtain ⟨b', off', d, eb, hb', hn', d0, d1, d2, d3, d4, d5, d6, d7, d8, d9, d10, d11, d12⟩ := hx k (by omega)
      cases eb
      have hi1 := HID.out _ (List.getElem_mem hk1)
      have hi2 := HID.out _ (List.getElem_mem (show k < l.length by omega))
      have e1 := hn.id
      have e2 := hn'.id
      rw [e1] at hi1
      rw [e2] at hi2
      have hcm := fun W => cmpD_any c d W hi1 hi2
      have E1 := Lib.hid e1
      have E2 := Lib.hid e2
      clear hx hn hn' e1 e2
      obtain ⟨cid, kind, af, nf, cf, ap, np, cp, par, r0, r1, r2, r3, r4, r5, r6, r7⟩ := c
      obtain ⟨did, dkind, daf, dnf, dcf, dap, dnp, dcp, dpar, t0, t1, t2, t3, t4, t5, t6, t7⟩ := d
      simp only at c0 c1 c2 c3 c4 c5 c6 c7 c8 c9 c10 c11 c12 d0 d1 d2 d3 d4 d5 d6 d7 d8 d9 d10 d11 d12 hcm hi1 hi2
      have HCM := Lib.hid hcm
      obtain ⟨i1, i2⟩ := hi1
      obtain ⟨j1, j2⟩ := hi2
      clear hcm
      go_upto_region 4 with fail
      refine wp_region_seq 12 Tryz.mixed (by kernel_rfl) (by kernel_rfl) ?_
      iterate 12
        apply Seq.val
        focus
          rintro w1 u ⟨R1, n1, rfl⟩ hF
          simp [moreFacts, Fact.more, Oper.deps, Region.binds, List.filter_cons, World.more_drew] at hF
          simp [putFacts, Oper.deps, Region.binds, List.filter_cons, Region.dstOf, Fact.at, Act.put, World.more_drew]
          go_wp2_with (go_at_fn 76; refine (HCM.out _).mono ?_; rintro e w2 ⟨rfl, R3, n3, rfl⟩)
          exact ⟨by repeat (first | with_reducible exact Grew.refl _ | apply Grew.more | apply Grew.alloc | apply Grew.drew | apply Grew.drewN), rfl, _, _, rfl, rfl, rfl⟩
      rintro u w1 ⟨R1, n1, rfl⟩ hF
      clear hF
      simp [putFacts, Region.dstOf, Fact.at, Act.put, List.range_succ, World.more_drew]
      by_cases hlt : cid - did < 0
      · have hr := sortedB_false hk1 (by omega) (by simp only [Nat.add_sub_cancel]; rw [E1.out, E2.out]; simp only; omega)
        have HR := Lib.hid hr
        clear hr
        go_wp2
        go_ret
        exact ⟨by rw [HR.out]; rfl, HG.out.trans (by repeat (first | with_reducible exact Grew.refl _ | apply Grew.more | apply Grew.alloc | apply Grew.drew | apply Grew.drewN))⟩
      · have hge : 0 ≤ cid - did := by omega
        go_wp2
        go_roundg (k : Nat)
        case measure => omega
        case rel => exact ⟨(k : Int), by omega, by omega, by omega, by go_num, Lib.hid (HG.out.trans (by repeat (first | with_reducible exact Grew.refl _ | apply Grew.more | apply Grew.alloc | apply Grew.drew | apply Grew.drewN))), Lib.hid fun j hj h h0 => by
          by_cases h1 : (k : Int) + 1 < j
          · exact HNO.out j hj h1 h0
          · obtain rfl : j = k + 1 := by omega
            have h4 : l[k + 1].id = cid := E1.out
            have h5 : l[k].id = did := E2.out
            show l[k].id ≤ l[k + 1].id
            omega⟩
    · go_wp2
      have hr := sortedB_true fun j hj h0 => HNO.out j hj (by omega) h0
      have HR := Lib.hid hr
      clear hr
      go_ret
      exact ⟨by rw [HR.out]; rfl, HG.out⟩
theorem sorted_any (v : Value) (l : List Gr.Nd) (w : World) (hv : NodesAt w v l) (hid : ∀ n ∈ l, 0 ≤ n.id ∧ n.id ≤ 1000) (hl : l.length ≤ 1000) : Calls Tryz.prog 33 #[v] w (Gives (.bool (sortedB l)) w) := by
  have HI := Lib.hid (isSorted_any v l w hv hid hl)
  obtain ⟨a, cap, rfl, hm, -⟩ := hv.openC
  clear hv
  go_enter Tryz.func33, Tryz.ntmps33
  go_wp2_with (go_at_call 75; refine HI.out.mono ?_; rintro e w1 ⟨rfl, R3, n3, rfl⟩)
  go_ret
  refine ⟨rfl, ?_⟩
  repeat (first | with_reducible exact Grew.refl _ | apply Grew.more | apply Grew.alloc | apply Grew.drew | apply Grew.drewN)
end Go.Proofs.YtepfdekppnobaaaGreat

/-! pack.GetGraph. -/
namespace Go.Proofs.YtepfdekppnobaaaGreat
set_option linter.unusedSimpArgs false
set_option linter.unusedVariables false
open Go.RowKit Ga
set_option maxRecDepth 100000

theorem readL_many : ∀ (n : Nat) (s : List UInt8) (acc : List Val), (readL n s acc).1.length ≤ acc.length + n
  | 0, s, acc => Nat.le_refl _
  | n + 1, s, acc => by
    rw [readL]
    split
    · simp
    · split
      · simp
      · have := readL_many n (numR (within s 0 17).2.2).2.2 (acc ++ [((within s 0 17).1, (numR (within s 0 17).2.2).1)])
        rw [List.length_append] at this
        simp at this
        omega
theorem getL_many (s : List UInt8) : (getL s).1.length ≤ 24 := by
  have h0 : (within s 0 24).1.toNat ≤ 24 := by
    have := numS_range (a := 0) (b := 24) (s, 0) (by omega) (by omega)
    unfold Gr.numS at this
    rw [if_neg (by simp)] at this
    have h2 : (within s 0 24).1 ≤ 24 := this.2
    omega
  have h1 := readL_many (within s 0 24).1.toNat (within s 0 24).2.2 []
  simp only [List.length_nil, Nat.zero_add] at h1
  unfold getL
  split
  · simp
  · split
    · omega
    · split
      · omega
      · simp
theorem nodeS_small (lp : Int) (s : Gr.Rs) : (Gr.nodeS getL lp s).1.frm.length ≤ 3 ∧ (Gr.nodeS getL lp s).1.prog.length ≤ 24 ∧ 0 ≤ (Gr.nodeS getL lp s).1.id ∧ (Gr.nodeS getL lp s).1.id ≤ 7 ∧ (Gr.nodeS getL lp s).1.route.length = 8 := by
  unfold Gr.nodeS
  simp only
  have h1 := numS_range (a := 0) (b := 7) s (by omega) (by omega)
  refine ⟨?_, ?_, h1.1, h1.2, (listS_len 0 2 8 _).1⟩
  · rw [(listS_len 0 7 _ _).1]
    have := numS_range (a := 0) (b := 3) (Gr.numS 0 2 (Gr.numS 0 7 s).2).2 (by omega) (by omega)
    omega
  · unfold Gr.progS
    split
    · simp
    · exact getL_many _
theorem NodesAt.nil (w : World) : NodesAt w (.slice none 0 0) [] := ⟨[], RowsAt.nil, rfl, fun i c n h => by simp at h⟩
theorem rd_new (w : World) (s : List UInt8) : RdAt w.heap.size (w.heap.size + 1) w.heap.size ((w.alloc (.cells #[.string ⟨s.toArray⟩] 214)).alloc (.cells #[.pointer (some ⟨w.heap.size, 0, none⟩), .int .i64 0] 185)) (s, 0) :=
  ⟨by omega, heap_new_at _ _ _ (by rw [World.size_alloc]), Nat.le_refl _, heap_alloc_old (heap_new_at _ _ _ rfl) _⟩

end Go.Proofs.YtepfdekppnobaaaGreat

/-! [8]int: equal. -/
namespace Go.Proofs.YtepfdekppnobaaaGreat
set_option linter.unusedSimpArgs false
set_option linter.unusedVariables false
open Go.RowKit Ga
set_option maxRecDepth 100000
set_option maxHeartbeats 4000000 in
theorem eq8 (r0 r1 r2 r3 r4 r5 r6 r7 s0 s1 s2 s3 s4 s5 s6 s7 : Int) (w : World) : (binOp .eql 62 (.agg #[.int .i64 r0, .int .i64 r1, .int .i64 r2, .int .i64 r3, .int .i64 r4, .int .i64 r5, .int .i64 r6, .int .i64 r7]) (.agg #[.int .i64 s0, .int .i64 s1, .int .i64 s2, .int .i64 s3, .int .i64 s4, .int .i64 s5, .int .i64 s6, .int .i64 s7])).run Tryz.prog w = .ok (.bool (decide ([r0, r1, r2, r3, r4, r5, r6, r7] = [s0, s1, s2, s3, s4, s5, s6, s7]))) w := by
  have u3 := Tryz.underlying3
  have a3 := Tryz.isAgg3
  have z3 := Tryz.sizeOf3
  obtain ⟨i, hi⟩ : ∃ i, Tryz.prog.info? 3 = some i := info_of_underlying u3
  rw [run_eql_struct, show (10000 : Nat) = 9999 + 1 from rfl, run_equalIn_array w 9999 _ _ Tryz.underlying62 hi]
  rw [show Tryz.prog.cellsOf 3 = 1 by kernel_rfl]
  rw [show List.range 8 = [0, 1, 2, 3, 4, 5, 6, 7] from rfl]
  simp only [Op.eqItems]
  go_simp
  by_cases h0 : r0 = s0
  · by_cases h1 : r1 = s1
    · by_cases h2 : r2 = s2
      · by_cases h3 : r3 = s3
        · by_cases h4 : r4 = s4
          · by_cases h5 : r5 = s5
            · by_cases h6 : r6 = s6
              · by_cases h7 : r7 = s7
                · simp [h0, h1, h2, h3, h4, h5, h6, h7]
                · simp [h0, h1, h2, h3, h4, h5, h6, h7]
              · simp [h0, h1, h2, h3, h4, h5, h6]
            · simp [h0, h1, h2, h3, h4, h5]
          · simp [h0, h1, h2, h3, h4]
        · simp [h0, h1, h2, h3]
      · simp [h0, h1, h2]
    · simp [h0, h1]
  · simp [h0]
end Go.Proofs.YtepfdekppnobaaaGreat

/-! forebayref08.Node, Same. -/
namespace Go.Proofs.YtepfdekppnobaaaGreat
set_option linter.unusedSimpArgs false
set_option linter.unusedVariables false
open Go.RowKit Ga
set_option maxRecDepth 100000

open Classical in
/-- two nodes are one -/
noncomputable def eqNd (n m : Gr.Nd) : Bool := decide (n = m)
open Classical in
theorem eqNd_false {n m : Gr.Nd} (h : n ≠ m) : eqNd n m = false := by unfold eqNd; exact decide_eq_false h
open Classical in
theorem eqNd_true {n m : Gr.Nd} (h : n = m) : eqNd n m = true := by unfold eqNd; exact decide_eq_true h
theorem eqNd_iff {n m : Gr.Nd} {p : Prop} [Decidable p] (h : n = m ↔ p) : eqNd n m = decide p := by
  by_cases hp : p
  · rw [eqNd_true (h.2 hp), decide_eq_true hp]
  · rw [eqNd_false (fun q => hp (h.1 q)), decide_eq_false hp]
end Go.Proofs.YtepfdekppnobaaaGreat

/-! forebayref08.Same. -/
namespace Go.Proofs.YtepfdekppnobaaaGreat
set_option linter.unusedSimpArgs false
set_option linter.unusedVariables false
open Go.RowKit Ga
set_option maxRecDepth 100000

end Go.Proofs.YtepfdekppnobaaaGreat

/-! graph.Pass at two parts. -/
namespace Go.Proofs.YtepfdekppnobaaaGreat
set_option linter.unusedSimpArgs false
set_option linter.unusedVariables false
open Go.RowKit Ga
set_option maxRecDepth 100000

end Go.Proofs.YtepfdekppnobaaaGreat

/-! forebaylaw13: awake. -/
namespace Go.Proofs.YtepfdekppnobaaaGreat
set_option linter.unusedSimpArgs false
set_option linter.unusedVariables false
open Go.RowKit Ga
set_option maxRecDepth 100000

theorem nodes_route {w : World} {v : Value} {l : List Gr.Nd} (h : NodesAt w v l) : ∀ n ∈ l, n.route.length = 8 := by
  obtain ⟨lc, -, h2, h3⟩ := h
  intro n hn
  obtain ⟨i, hi, rfl⟩ := List.mem_iff_getElem.1 hn
  rw [(h3 i lc[i] l[i] (List.getElem?_eq_getElem (by omega)) (List.getElem?_eq_getElem hi)).route]
  rfl
theorem great_small {l : List Gr.Nd} (h : greatG l = false) : Small l ∧ l.length ≤ 20 := by
  unfold greatG at h
  simp only [Bool.or_eq_false_iff, decide_eq_false_iff_not, List.any_eq_false] at h
  refine ⟨fun n hn => ?_, by omega⟩
  have := h.2 n hn
  unfold greatN at this
  simp only [Bool.or_eq_true, decide_eq_true_eq, not_or] at this
  omega
end Go.Proofs.YtepfdekppnobaaaGreat

/-! graph.Pass at one part. -/
namespace Go.Proofs.YtepfdekppnobaaaGreat
set_option linter.unusedSimpArgs false
set_option linter.unusedVariables false
open Go.RowKit Ga
set_option maxRecDepth 100000

def passL1 : List Gr.Nd := [⟨0, 0, [], [], 1, List.replicate 8 0⟩, ⟨1, 2, [0], [], 1, List.replicate 8 0⟩]
def Pass1Gives (w : World) (e : Ending) (w' : World) : Prop := ∃ v, e = .returned v ∧ NodesAt w' v passL1 ∧ Grew w w'
set_option maxHeartbeats 8000000 in
theorem pass1_any (w : World) : Calls Tryz.prog 25 #[.int .i64 1] w (Pass1Gives w) := by
  go_enter Tryz.func25, Tryz.ntmps25
  go_wp2
  have hm1 : max (1 : Int) 1 = 1 := rfl
  have hm2 : min (1 : Int) 3 = 1 := rfl
  simp only [hm1, hm2]
  go_loopg [11] 8 (fun gg s11 wr => ∃ g : Nat, g ≤ 8 ∧ 8 - g ≤ gg ∧ s11 = .int .i64 g ∧ wr.heap[w.heap.size]? = some (.cells (nodeArr 0 0 (.slice none 0 0) (.slice none 0 0) 1 (List.replicate 8 0)) 64) ∧ Hid (Grew w wr))
  case atStart =>
    refine ⟨0, by omega, by omega, rfl, ?_, Lib.hid ?_⟩
    · have hna : nodeArr 0 0 (.slice none 0 0) (.slice none 0 0) 1 (List.replicate 8 0) = #[.int .i64 0, .int .i64 0, .slice none 0 0, .slice none 0 0, .int .i64 1, .int .i64 0, .int .i64 0, .int .i64 0, .int .i64 0, .int .i64 0, .int .i64 0, .int .i64 0, .int .i64 0] := by
        simp [nodeArr, List.replicate_succ]
      rw [hna]
      exact heap_new_at w _ _ rfl
    · repeat (first | exact (Grew.refl _).alloc _ | refine Grew.set ?_ (Nat.le_refl _) _)
  case round =>
    obtain ⟨g, hg8, hgg, rfl, hbx, HGR⟩ := hrel
    have hp := Pre.mk (heap_lt hbx)
    have HBX := Lib.hid hbx
    by_cases hlt : g < 8
    · have hset : (List.replicate 8 (0 : Int)).set g 0 = List.replicate 8 0 := by
        have : g = 0 ∨ g = 1 ∨ g = 2 ∨ g = 3 ∨ g = 4 ∨ g = 5 ∨ g = 6 ∨ g = 7 := by omega
        rcases this with rfl | rfl | rfl | rfl | rfl | rfl | rfl | rfl <;> rfl
      have hc5 := cell_of (o := 5 + g) hbx
      rw [nodeArr_get _ _ _ _ _ _ g (by simp; omega)] at hc5
      have hf5 := frozen_of (o := 5 + g) hbx
      have HSET := Lib.hid hset
      have hne : (1 : Int) ≠ 0 := by decide
      have htm : Int.tmod (g : Int) 1 = 0 := Int.tmod_one _
      clear hset hbx
      go_wp2
      go_roundg (8 - (g + 1))
      case measure => omega
      case rel =>
        refine ⟨g + 1, by omega, by omega, by go_num, ?_, Lib.hid (HGR.out.set (Nat.le_refl _) _)⟩
        rw [show (List.replicate 8 (0 : Int)) = (List.replicate 8 (0 : Int)).set g 0 from HSET.out.symm, ← nodeArr_set]
        exact set_self HBX.out
    · obtain rfl : g = 8 := by omega
      have a0 := cell_of (o := 0) hbx
      have a1 := cell_of (o := 1) hbx
      have a2 := cell_of (o := 2) hbx
      have a3 := cell_of (o := 3) hbx
      have a4 := cell_of (o := 4) hbx
      have a5 := cell_of (o := 5) hbx
      have a6 := cell_of (o := 6) hbx
      have a7 := cell_of (o := 7) hbx
      have a8 := cell_of (o := 8) hbx
      have a9 := cell_of (o := 9) hbx
      have a10 := cell_of (o := 10) hbx
      have a11 := cell_of (o := 11) hbx
      have a12 := cell_of (o := 12) hbx
      simp [nodeArr, List.replicate_succ] at a0 a1 a2 a3 a4 a5 a6 a7 a8 a9 a10 a11 a12
      clear hbx
      go_wp2
      go_ret
      refine ⟨_, rfl, ⟨[⟨0, 0, none, 0, 0, none, 0, 0, 1, 0, 0, 0, 0, 0, 0, 0, 0⟩, ⟨1, 2, some ⟨wr.heap.size + 1, 0, none⟩, 1, 1, none, 0, 0, 1, 0, 0, 0, 0, 0, 0, 0, 0⟩], ?_, rfl, ?_⟩, HGR.out.trans (by repeat (first | with_reducible exact Grew.refl _ | apply Grew.more | apply Grew.alloc | apply Grew.drew | apply Grew.drewN))⟩
      · exact RowsAt.fresh rfl (by simp [maxLen]) encNd_len (by simp [World.size_alloc]) rfl
      · have hi : IntsAt (((wr.alloc (.cells #[.int .i64 1, .int .i64 2, .slice (some ⟨wr.heap.size + 1, 0, none⟩) 1 1, .slice none 0 0, .int .i64 1, .int .i64 0, .int .i64 0, .int .i64 0, .int .i64 0, .int .i64 0, .int .i64 0, .int .i64 0, .int .i64 0] 64))).alloc (.cells #[.int .i64 0] 3)) (.slice (some ⟨wr.heap.size + 1, 0, none⟩) 1 1) [0] := RowsAt.fresh rfl (by decide) (fun _ => rfl) (by simp [World.size_alloc]) rfl
        intro i c n h1 h2
        match i with
        | 0 =>
          cases h1
          cases h2
          exact ⟨rfl, rfl, RowsAt.nil, RowsAt.nil, rfl, rfl, Nat.zero_le _⟩
        | 1 =>
          cases h1
          cases h2
          exact ⟨rfl, rfl, hi.grew ((Grew.refl _).alloc _), RowsAt.nil, rfl, rfl, Nat.le_refl _⟩
        | i + 2 => cases h1
end Go.Proofs.YtepfdekppnobaaaGreat

/-! forebaylaw22.awake. -/
namespace Go.Proofs.YtepfdekppnobaaaGreat
set_option linter.unusedSimpArgs false
set_option linter.unusedVariables false
open Go.RowKit Ga
set_option maxRecDepth 100000

theorem pass1_right : Gr.RightR passL1 := by
  refine ⟨by decide, ?_, by decide, ?_⟩
  · intro i n h
    match i with
    | 0 =>
      cases h
      refine ⟨by decide, by decide, rfl, by decide, by decide, by decide, by decide, by decide, by decide, by decide, by decide, by decide, by decide, by decide, by decide, ?_⟩
      intro k f hk
      cases hk
    | 1 =>
      cases h
      refine ⟨by decide, by decide, rfl, by decide, by decide, by decide, by decide, by decide, by decide, by decide, by decide, by decide, by decide, by decide, by decide, ?_⟩
      intro k f hk
      match k with
      | 0 =>
        cases hk
        exact ⟨⟨0, _, rfl, rfl, by decide⟩, by simp⟩
      | k + 1 => cases hk
    | i + 2 => cases h
  · intro n hn
    simp only [passL1, List.mem_cons, List.not_mem_nil, or_false] at hn
    rcases hn with rfl | rfl <;> rfl
theorem pass1_norm : Gr.normG passL1 = passL1 := rfl
theorem pass1_small : Small passL1 := by unfold Small; decide
theorem pass1_tasks : (tasksOf passL1).length = 2 := by decide
def ackOne : AkC := ⟨1, 0, 1, none, 0, 0, none, 0, 0, 0⟩
theorem pass1_add : addR passL1 1 [] ackOne = 0 := by
  have h : Gr.nodeOf passL1 ackOne.node = some ⟨1, 2, [0], [], 1, List.replicate 8 0⟩ := rfl
  unfold addR
  rw [h]
  have hm : mfind ([] : List (Who × AkC)) (ackOne.node, ackOne.ix) = none := mfind_no fun x hx => by cases hx
  simp only
  rw [hm]
  simp [ackOne]
set_option maxHeartbeats 8000000 in
theorem awake22_any (w : World) : Calls Tryz.prog 5 #[] w (Gives (.bool true) w) := by
  go_enter Tryz.func5, Tryz.ntmps5
  go_wp2_with (first
    | (go_at_call 25; refine (pass1_any _).mono ?_; rintro e w1 ⟨v1, rfl, hv1, R1, n1, rfl⟩; obtain ⟨a1, c1, rfl, -, -⟩ := hv1.openC; (have HV1 := Lib.hid hv1); clear hv1)
    | (go_at_call 8; refine (new_any _ passL1 1 _ HV1.out pass1_small).mono ?_; rintro e w1 ⟨-, -, h3⟩; obtain ⟨x, b, rfl, hG, hx, hb, R2, n2, rfl⟩ := h3 pass1_right (by decide); rw [pass1_norm] at hG; (have HGA := Lib.hid hG); (have hbw : w.heap.size ≤ b := by simp [World.more_size] at hb; omega); clear h3 hG hx hb)
    | fail)
  refine (missing_any x b 0 passL1 1 [] _ HGA.out (by decide)).mono ?_
  rintro e w1 ⟨rfl, R3, n3, rfl⟩
  rw [pass1_tasks]
  go_wp2_with fail
  refine (add_any' w _ x b 0 passL1 1 [] ackOne (HGA.out.grew (by repeat (first | with_reducible exact Grew.refl _ | apply Grew.more | apply Grew.alloc | apply Grew.drew | apply Grew.drewN))) (by repeat (first | with_reducible exact Grew.refl _ | apply Grew.more | apply Grew.alloc | apply Grew.drew | apply Grew.drewN)) hbw (by decide) (by unfold okWho; decide)).mono ?_
  rintro e w4 ⟨rfl, -, h4⟩
  obtain ⟨h5, h6, -⟩ := h4 pass1_add
  rw [pass1_add]
  have H5 := Lib.hid h5
  have H6 := Lib.hid h6
  clear h4 h5 h6
  go_wp2_with fail
  refine (missing_any x b 1 passL1 1 _ _ H5.out (by decide)).mono ?_
  rintro e w1 ⟨rfl, R5, n5, rfl⟩
  rw [pass1_tasks]
  go_wp2_with fail
  go_ret
  exact ⟨rfl, H6.out.trans (by repeat (first | with_reducible exact Grew.refl _ | apply Grew.more | apply Grew.alloc | apply Grew.drew | apply Grew.drewN))⟩
end Go.Proofs.YtepfdekppnobaaaGreat
