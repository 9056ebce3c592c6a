import Derived.Test.YtangapokicnfgaaGreatMp38
import Derived.ChangeKeysEq
/-! pack.GetGraph. -/
namespace Go.Proofs.YtangapokicnfgaaGreat
set_option linter.unusedSimpArgs false
set_option linter.unusedVariables false
open Go.RowKit Ga
set_option maxRecDepth 100000

theorem readL_many : ∀ (n : Nat) (s : List UInt8) (acc : List Val), (readL n s acc).1.length ≤ acc.length + n
  | 0, s, acc => Nat.le_refl _
  | n + 1, s, acc => by
    rw [readL]
    split
    · simp
    · split
      · simp
      · have := readL_many n (numR (within s 0 17).2.2).2.2 (acc ++ [((within s 0 17).1, (numR (within s 0 17).2.2).1)])
        rw [List.length_append] at this
        simp at this
        omega
theorem getL_many (s : List UInt8) : (getL s).1.length ≤ 24 := by
  have h0 : (within s 0 24).1.toNat ≤ 24 := by
    have := numS_range (a := 0) (b := 24) (s, 0) (by omega) (by omega)
    unfold Gr.numS at this
    rw [if_neg (by simp)] at this
    have h2 : (within s 0 24).1 ≤ 24 := this.2
    omega
  have h1 := readL_many (within s 0 24).1.toNat (within s 0 24).2.2 []
  simp only [List.length_nil, Nat.zero_add] at h1
  unfold getL
  split
  · simp
  · split
    · omega
    · split
      · omega
      · simp
theorem nodeS_small (lp : Int) (s : Gr.Rs) : (Gr.nodeS getL lp s).1.frm.length ≤ 3 ∧ (Gr.nodeS getL lp s).1.prog.length ≤ 24 ∧ 0 ≤ (Gr.nodeS getL lp s).1.id ∧ (Gr.nodeS getL lp s).1.id ≤ 7 ∧ (Gr.nodeS getL lp s).1.route.length = 8 := by
  unfold Gr.nodeS
  simp only
  have h1 := numS_range (a := 0) (b := 7) s (by omega) (by omega)
  refine ⟨?_, ?_, h1.1, h1.2, (listS_len 0 2 8 _).1⟩
  · rw [(listS_len 0 7 _ _).1]
    have := numS_range (a := 0) (b := 3) (Gr.numS 0 2 (Gr.numS 0 7 s).2).2 (by omega) (by omega)
    omega
  · unfold Gr.progS
    split
    · simp
    · exact getL_many _
theorem nodesS_small (lp : Int) : ∀ (k : Nat) (s : Gr.Rs), ∀ n ∈ (Gr.nodesS getL lp k s).1, n.frm.length ≤ 3 ∧ n.prog.length ≤ 24 ∧ 0 ≤ n.id ∧ n.id ≤ 7 ∧ n.route.length = 8
  | 0, s, n, h => by cases h
  | k + 1, s, n, h => by
    rw [Gr.nodesS] at h
    rcases List.mem_cons.1 h with rfl | h1
    · exact nodeS_small lp s
    · exact nodesS_small lp k _ n h1
/-- a graph, or none, and the error -/
def GetPost (r : List Gr.Nd × Int) (w : World) (e : Ending) (w' : World) : Prop := ∃ v, e = .returned (.tuple #[v, .int .i64 r.2]) ∧ NodesAt w' v r.1 ∧ Grew w w'
theorem NodesAt.nil (w : World) : NodesAt w (.slice none 0 0) [] := ⟨[], RowsAt.nil, rfl, fun i c n h => by simp at h⟩
theorem getG_err {s : List UInt8} {l : List Gr.Nd} {z : List UInt8} {x : Int} (h : Gr.graphS getL s = (l, (z, x))) (he : endE (z, x) (sortedB l) ≠ 0) : Gr.getG getL s = ([], endE (z, x) (sortedB l)) := by
  by_cases hx : x = 0
  · subst hx
    have he' : endE (z, 0) (sortedB l) = if (decide (0 < z.length) || !sortedB l) = true then 4 else 0 := by
      unfold endE
      rw [if_neg (by simp)]
    rw [he'] at he ⊢
    by_cases hb : (decide (0 < z.length) || !sortedB l) = true
    · rw [if_pos hb]
      have hor : 0 < z.length ∨ ¬ Gr.sortedG l := by
        rw [Bool.or_eq_true, decide_eq_true_eq] at hb
        rcases hb with hb | hb
        · exact .inl hb
        · refine .inr fun hs => ?_
          have : sortedB l = true := by unfold sortedB; exact decide_eq_true hs
          rw [this] at hb
          cases hb
      unfold Gr.getG
      rw [h]
      simp only
      rw [if_neg (by simp), if_pos hor]
    · rw [if_neg hb] at he
      exact absurd rfl he
  · have he' : endE (z, x) (sortedB l) = x := by
      unfold endE
      rw [if_pos hx]
    rw [he']
    unfold Gr.getG
    rw [h]
    simp only
    rw [if_pos hx]
theorem getG_fine {s : List UInt8} {l : List Gr.Nd} {z : List UInt8} {x : Int} (h : Gr.graphS getL s = (l, (z, x))) (he : endE (z, x) (sortedB l) = 0) : (Gr.RightR l → Gr.getG getL s = (l, 0)) ∧ (¬ Gr.RightR l → Gr.getG getL s = ([], 10)) := by
  have hx : x = 0 := by
    refine Classical.byContradiction fun hx => ?_
    unfold endE at he
    simp only at he
    rw [if_pos hx] at he
    exact hx he
  subst hx
  have hb : (decide (0 < z.length) || !sortedB l) = false := by
    unfold endE at he
    rw [if_neg (by simp)] at he
    simp only at he
    cases hq : (decide (0 < z.length) || !sortedB l)
    · rfl
    · rw [hq] at he; simp at he
  rw [Bool.or_eq_false_iff, decide_eq_false_iff_not] at hb
  obtain ⟨hb1, hb2⟩ := hb
  have hs : Gr.sortedG l := by
    unfold sortedB at hb2
    simp only [Bool.not_eq_false', decide_eq_true_eq] at hb2
    exact hb2
  have hno : ¬ (0 < z.length ∨ ¬ Gr.sortedG l) := fun q => q.elim hb1 fun q => q hs
  constructor
  · intro hr
    unfold Gr.getG
    rw [h]
    simp only
    rw [if_neg (by simp), if_neg hno, if_pos hr]
  · intro hr
    unfold Gr.getG
    rw [h]
    simp only
    rw [if_neg (by simp), if_neg hno, if_neg hr]
theorem rd_new (w : World) (s : List UInt8) : RdAt w.heap.size (w.heap.size + 1) w.heap.size ((w.alloc (.cells #[.string ⟨s.toArray⟩] 135)).alloc (.cells #[.pointer (some ⟨w.heap.size, 0, none⟩), .int .i64 0] 82)) (s, 0) :=
  ⟨by omega, heap_new_at _ _ _ (by rw [World.size_alloc]), Nat.le_refl _, heap_alloc_old (heap_new_at _ _ _ rfl) _⟩
set_option maxHeartbeats 8000000 in
theorem getGraph_any (s : List UInt8) (w : World) (hs : s.length ≤ 100000) : Calls Tryz.prog 12 #[.string ⟨s.toArray⟩] w (GetPost (Gr.getG getL s) w) := by
  obtain ⟨l, ⟨z, x⟩, hg⟩ : ∃ l t, Gr.graphS getL s = (l, t) := ⟨_, _, rfl⟩
  have hN := fun W A B h g => rdNodes_any w A B (s, 0) W h g (by simpa using Nat.le_trans hs (by decide))
  have hsm : ∀ n ∈ l, n.frm.length ≤ 3 ∧ n.prog.length ≤ 24 ∧ 0 ≤ n.id ∧ n.id ≤ 7 ∧ n.route.length = 8 := by
    have := nodesS_small 1 (Gr.numS 0 8 (s, 0)).1.toNat (Gr.numS 0 8 (s, 0)).2
    unfold Gr.graphS at hg
    rw [hg] at this
    exact this
  have hl8 : l.length ≤ 8 := by
    have h1 := (nodesS_len 1 (Gr.numS 0 8 (s, 0)).1.toNat (Gr.numS 0 8 (s, 0)).2).1
    have h2 := numS_range (a := 0) (b := 8) (s, 0) (by omega) (by omega)
    unfold Gr.graphS at hg
    rw [hg] at h1
    simp only at h1
    omega
  have hgu := hg
  unfold Gr.graphS at hgu
  rw [hgu] at hN
  simp only at hN
  have HN := Lib.hid hN
  have HSM := Lib.hid hsm
  have HSMALL : Hid (Small l) := Lib.hid fun n hn => ⟨by have := hsm n hn; omega, by have := hsm n hn; omega⟩
  have HGG := Lib.hid hg
  clear hN hsm hgu
  by_cases he : endE (z, x) (sortedB l) = 0
  · obtain ⟨hg1, hg2⟩ := getG_fine hg he
    have HE := Lib.hid he
    clear he hg
    by_cases hr : Gr.RightR l
    · rw [hg1 hr]
      have HR := Lib.hid hr
      have hck := checkR_ok hl8 hr
      have HCK := Lib.hid hck
      clear hg1 hg2 hr hck
      go_enter Tryz.func12, Tryz.ntmps12
      go_wp2_with (first
        | (go_at_call 37; refine (octNew_any s _).mono ?_; rintro e w1 ⟨rfl, rfl⟩)
        | (go_at_call 38; go_loud (refine (HN.out _ _ w.heap.size (rd_new w s) (by repeat (first | with_reducible exact Grew.refl _ | apply Grew.more | apply Grew.alloc | apply Grew.drew | apply Grew.drewN))).mono ?_; rintro e w2 ⟨v2, lc, rfl, ho, hi, hr2, hg2, -⟩; obtain ⟨a2, c2, rfl⟩ := (OwnAt.rows ho encNd_len).len; (have hat := hi.at ho); (have HAT := Lib.hid hat); (have HR2 := Lib.hid hr2); (have HG2 := Lib.hid hg2); clear ho hi hr2 hg2 hat))
        | (go_at_call 40; refine (sorted_any _ l _ (HAT.out.grew (by repeat (first | with_reducible exact Grew.refl _ | apply Grew.more | apply Grew.alloc | apply Grew.drew | apply Grew.drewN))) (fun n hn => by have := HSM.out n hn; omega) (by omega)).mono ?_; rintro e w3 ⟨rfl, R3, n3, rfl⟩)
        | (go_at_call 39; refine (rdEnd_any _ _ _ _ (sortedB l) _ (HR2.out.grew (by repeat (first | with_reducible exact Grew.refl _ | apply Grew.more | apply Grew.alloc | apply Grew.drew | apply Grew.drewN)))).mono ?_; rintro e w4 ⟨rfl, hw4⟩; obtain rfl := hw4; rw [HE.out])
        | (go_at_call 30; refine (check_graph _ l _ (HAT.out.grew (by repeat (first | with_reducible exact Grew.refl _ | apply Grew.more | apply Grew.alloc | apply Grew.drew | apply Grew.drewN))) HSMALL.out).mono ?_; rintro e w5 ⟨rfl, R5, n5, rfl⟩; rw [HCK.out]))
      exact bodyPost_ret (v := .tuple #[.slice a2 lc.length c2, .int .i64 0]) (by simp [results, Tryz.results12, go_sem]) rfl ⟨_, rfl, HAT.out.grew (by repeat (first | with_reducible exact Grew.refl _ | apply Grew.more | apply Grew.alloc | apply Grew.drew | apply Grew.drewN)), HG2.out.trans (by repeat (first | with_reducible exact Grew.refl _ | apply Grew.more | apply Grew.alloc | apply Grew.drew | apply Grew.drewN))⟩
    · rw [hg2 hr]
      have hck := checkR_bad hl8 hr
      have HCK := Lib.hid hck
      clear hg1 hg2 hr hck
      go_enter Tryz.func12, Tryz.ntmps12
      go_wp2_with (first
        | (go_at_call 37; refine (octNew_any s _).mono ?_; rintro e w1 ⟨rfl, rfl⟩)
        | (go_at_call 38; refine (HN.out _ _ w.heap.size (rd_new w s) (by repeat (first | with_reducible exact Grew.refl _ | apply Grew.more | apply Grew.alloc | apply Grew.drew | apply Grew.drewN))).mono ?_; rintro e w2 ⟨v2, lc, rfl, ho, hi, hr2, hg2, -⟩; obtain ⟨a2, c2, rfl⟩ := (OwnAt.rows ho encNd_len).len; (have hat := hi.at ho); (have HAT := Lib.hid hat); (have HR2 := Lib.hid hr2); (have HG2 := Lib.hid hg2); clear ho hi hr2 hg2 hat)
        | (go_at_call 40; refine (sorted_any _ l _ (HAT.out.grew (by repeat (first | with_reducible exact Grew.refl _ | apply Grew.more | apply Grew.alloc | apply Grew.drew | apply Grew.drewN))) (fun n hn => by have := HSM.out n hn; omega) (by omega)).mono ?_; rintro e w3 ⟨rfl, R3, n3, rfl⟩)
        | (go_at_call 39; refine (rdEnd_any _ _ _ _ (sortedB l) _ (HR2.out.grew (by repeat (first | with_reducible exact Grew.refl _ | apply Grew.more | apply Grew.alloc | apply Grew.drew | apply Grew.drewN)))).mono ?_; rintro e w4 ⟨rfl, hw4⟩; obtain rfl := hw4; rw [HE.out])
        | (go_at_call 30; refine (check_graph _ l _ (HAT.out.grew (by repeat (first | with_reducible exact Grew.refl _ | apply Grew.more | apply Grew.alloc | apply Grew.drew | apply Grew.drewN))) HSMALL.out).mono ?_; rintro e w5 ⟨rfl, R5, n5, rfl⟩; rw [HCK.out]))
      exact bodyPost_ret (v := .tuple #[.slice none 0 0, .int .i64 10]) (by simp [results, Tryz.results12, go_sem]) rfl ⟨_, rfl, NodesAt.nil _, HG2.out.trans (by repeat (first | with_reducible exact Grew.refl _ | apply Grew.more | apply Grew.alloc | apply Grew.drew | apply Grew.drewN))⟩
  · rw [getG_err hg he]
    have hne : (endE (z, x) (sortedB l) != 0) = true := by rw [bne_iff_ne]; exact he
    generalize hen : endE (z, x) (sortedB l) = en at *
    have HEN := Lib.hid hen
    clear he hg hen
    go_enter Tryz.func12, Tryz.ntmps12
    go_wp2_with (first
        | (go_at_call 37; refine (octNew_any s _).mono ?_; rintro e w1 ⟨rfl, rfl⟩)
        | (go_at_call 38; refine (HN.out _ _ w.heap.size (rd_new w s) (by repeat (first | with_reducible exact Grew.refl _ | apply Grew.more | apply Grew.alloc | apply Grew.drew | apply Grew.drewN))).mono ?_; rintro e w2 ⟨v2, lc, rfl, ho, hi, hr2, hg2, -⟩; obtain ⟨a2, c2, rfl⟩ := (OwnAt.rows ho encNd_len).len; (have hat := hi.at ho); (have HAT := Lib.hid hat); (have HR2 := Lib.hid hr2); (have HG2 := Lib.hid hg2); clear ho hi hr2 hg2 hat)
        | (go_at_call 40; refine (sorted_any _ l _ (HAT.out.grew (by repeat (first | with_reducible exact Grew.refl _ | apply Grew.more | apply Grew.alloc | apply Grew.drew | apply Grew.drewN))) (fun n hn => by have := HSM.out n hn; omega) (by omega)).mono ?_; rintro e w3 ⟨rfl, R3, n3, rfl⟩)
        | (go_at_call 39; refine (rdEnd_any _ _ _ _ (sortedB l) _ (HR2.out.grew (by repeat (first | with_reducible exact Grew.refl _ | apply Grew.more | apply Grew.alloc | apply Grew.drew | apply Grew.drewN)))).mono ?_; rintro e w4 ⟨rfl, hw4⟩; obtain rfl := hw4; rw [HEN.out]))
    exact bodyPost_ret (v := .tuple #[.slice none 0 0, .int .i64 en]) (by simp [results, Tryz.results12, go_sem]) rfl ⟨_, rfl, NodesAt.nil _, HG2.out.trans (by repeat (first | with_reducible exact Grew.refl _ | apply Grew.more | apply Grew.alloc | apply Grew.drew | apply Grew.drewN))⟩
end Go.Proofs.YtangapokicnfgaaGreat

/-! [8]int: equal. -/
namespace Go.Proofs.YtangapokicnfgaaGreat
set_option linter.unusedSimpArgs false
set_option linter.unusedVariables false
open Go.RowKit Ga
set_option maxRecDepth 100000
set_option maxHeartbeats 4000000 in
theorem eq8 (r0 r1 r2 r3 r4 r5 r6 r7 s0 s1 s2 s3 s4 s5 s6 s7 : Int) (w : World) : (binOp .eql 43 (.agg #[.int .i64 r0, .int .i64 r1, .int .i64 r2, .int .i64 r3, .int .i64 r4, .int .i64 r5, .int .i64 r6, .int .i64 r7]) (.agg #[.int .i64 s0, .int .i64 s1, .int .i64 s2, .int .i64 s3, .int .i64 s4, .int .i64 s5, .int .i64 s6, .int .i64 s7])).run Tryz.prog w = .ok (.bool (decide ([r0, r1, r2, r3, r4, r5, r6, r7] = [s0, s1, s2, s3, s4, s5, s6, s7]))) w := by
  have u3 := Tryz.underlying3
  have a3 := Tryz.isAgg3
  have z3 := Tryz.sizeOf3
  obtain ⟨i, hi⟩ : ∃ i, Tryz.prog.info? 3 = some i := info_of_underlying u3
  rw [run_eql_struct, show (10000 : Nat) = 9999 + 1 from rfl, run_equalIn_array w 9999 _ _ Tryz.underlying43 hi]
  rw [show Tryz.prog.cellsOf 3 = 1 by kernel_rfl]
  rw [show List.range 8 = [0, 1, 2, 3, 4, 5, 6, 7] from rfl]
  simp only [Op.eqItems]
  go_simp
  by_cases h0 : r0 = s0
  · by_cases h1 : r1 = s1
    · by_cases h2 : r2 = s2
      · by_cases h3 : r3 = s3
        · by_cases h4 : r4 = s4
          · by_cases h5 : r5 = s5
            · by_cases h6 : r6 = s6
              · by_cases h7 : r7 = s7
                · simp [h0, h1, h2, h3, h4, h5, h6, h7]
                · simp [h0, h1, h2, h3, h4, h5, h6, h7]
              · simp [h0, h1, h2, h3, h4, h5, h6]
            · simp [h0, h1, h2, h3, h4, h5]
          · simp [h0, h1, h2, h3, h4]
        · simp [h0, h1, h2, h3]
      · simp [h0, h1, h2]
    · simp [h0, h1]
  · simp [h0]
end Go.Proofs.YtangapokicnfgaaGreat
