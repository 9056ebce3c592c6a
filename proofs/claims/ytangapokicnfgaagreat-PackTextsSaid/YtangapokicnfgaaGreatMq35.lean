import Derived.Test.YtangapokicnfgaaGreatMq34
import Derived.ChangeKeysEq
import Derived.Test.YtangapokicnfgaaGreatMq30
/-! pack.GetGraph. -/
namespace Go.Proofs.YtangapokicnfgaaGreat
set_option linter.unusedSimpArgs false
set_option linter.unusedVariables false
open Go.RowKit Ga
set_option maxRecDepth 100000

theorem readL_many : ∀ (n : Nat) (s : List UInt8) (acc : List Val), (readL n s acc).1.length ≤ acc.length + n
  | 0, s, acc => Nat.le_refl _
  | n + 1, s, acc => by
    rw [readL]
    split
    · simp
    · split
      · simp
      · have := readL_many n (numR (within s 0 17).2.2).2.2 (acc ++ [((within s 0 17).1, (numR (within s 0 17).2.2).1)])
        rw [List.length_append] at this
        simp at this
        omega
theorem getL_many (s : List UInt8) : (getL s).1.length ≤ 24 := by
  have h0 : (within s 0 24).1.toNat ≤ 24 := by
    have := numS_range (a := 0) (b := 24) (s, 0) (by omega) (by omega)
    unfold Gr.numS at this
    rw [if_neg (by simp)] at this
    have h2 : (within s 0 24).1 ≤ 24 := this.2
    omega
  have h1 := readL_many (within s 0 24).1.toNat (within s 0 24).2.2 []
  simp only [List.length_nil, Nat.zero_add] at h1
  unfold getL
  split
  · simp
  · split
    · omega
    · split
      · omega
      · simp
theorem nodeS_small (lp : Int) (s : Gr.Rs) : (Gr.nodeS getL lp s).1.frm.length ≤ 3 ∧ (Gr.nodeS getL lp s).1.prog.length ≤ 24 ∧ 0 ≤ (Gr.nodeS getL lp s).1.id ∧ (Gr.nodeS getL lp s).1.id ≤ 7 ∧ (Gr.nodeS getL lp s).1.route.length = 8 := by
  unfold Gr.nodeS
  simp only
  have h1 := numS_range (a := 0) (b := 7) s (by omega) (by omega)
  refine ⟨?_, ?_, h1.1, h1.2, (listS_len 0 2 8 _).1⟩
  · rw [(listS_len 0 7 _ _).1]
    have := numS_range (a := 0) (b := 3) (Gr.numS 0 2 (Gr.numS 0 7 s).2).2 (by omega) (by omega)
    omega
  · unfold Gr.progS
    split
    · simp
    · exact getL_many _
theorem nodesS_small (lp : Int) : ∀ (k : Nat) (s : Gr.Rs), ∀ n ∈ (Gr.nodesS getL lp k s).1, n.frm.length ≤ 3 ∧ n.prog.length ≤ 24 ∧ 0 ≤ n.id ∧ n.id ≤ 7 ∧ n.route.length = 8
  | 0, s, n, h => by cases h
  | k + 1, s, n, h => by
    rw [Gr.nodesS] at h
    rcases List.mem_cons.1 h with rfl | h1
    · exact nodeS_small lp s
    · exact nodesS_small lp k _ n h1
/-- a graph, or none, and the error -/
def GetPost (r : List Gr.Nd × Int) (w : World) (e : Ending) (w' : World) : Prop := ∃ v, e = .returned (.tuple #[v, .int .i64 r.2]) ∧ NodesAt w' v r.1 ∧ Grew w w'
theorem NodesAt.nil (w : World) : NodesAt w (.slice none 0 0) [] := ⟨[], RowsAt.nil, rfl, fun i c n h => by simp at h⟩
theorem getG_err {s : List UInt8} {l : List Gr.Nd} {z : List UInt8} {x : Int} (h : Gr.graphS getL s = (l, (z, x))) (he : endE (z, x) (sortedB l) ≠ 0) : Gr.getG getL s = ([], endE (z, x) (sortedB l)) := by
  by_cases hx : x = 0
  · subst hx
    have he' : endE (z, 0) (sortedB l) = if (decide (0 < z.length) || !sortedB l) = true then 4 else 0 := by
      unfold endE
      rw [if_neg (by simp)]
    rw [he'] at he ⊢
    by_cases hb : (decide (0 < z.length) || !sortedB l) = true
    · rw [if_pos hb]
      have hor : 0 < z.length ∨ ¬ Gr.sortedG l := by
        rw [Bool.or_eq_true, decide_eq_true_eq] at hb
        rcases hb with hb | hb
        · exact .inl hb
        · refine .inr fun hs => ?_
          have : sortedB l = true := by unfold sortedB; exact decide_eq_true hs
          rw [this] at hb
          cases hb
      unfold Gr.getG
      rw [h]
      simp only
      rw [if_neg (by simp), if_pos hor]
    · rw [if_neg hb] at he
      exact absurd rfl he
  · have he' : endE (z, x) (sortedB l) = x := by
      unfold endE
      rw [if_pos hx]
    rw [he']
    unfold Gr.getG
    rw [h]
    simp only
    rw [if_pos hx]
theorem getG_fine {s : List UInt8} {l : List Gr.Nd} {z : List UInt8} {x : Int} (h : Gr.graphS getL s = (l, (z, x))) (he : endE (z, x) (sortedB l) = 0) : (Gr.RightR l → Gr.getG getL s = (l, 0)) ∧ (¬ Gr.RightR l → Gr.getG getL s = ([], 10)) := by
  have hx : x = 0 := by
    refine Classical.byContradiction fun hx => ?_
    unfold endE at he
    simp only at he
    rw [if_pos hx] at he
    exact hx he
  subst hx
  have hb : (decide (0 < z.length) || !sortedB l) = false := by
    unfold endE at he
    rw [if_neg (by simp)] at he
    simp only at he
    cases hq : (decide (0 < z.length) || !sortedB l)
    · rfl
    · rw [hq] at he; simp at he
  rw [Bool.or_eq_false_iff, decide_eq_false_iff_not] at hb
  obtain ⟨hb1, hb2⟩ := hb
  have hs : Gr.sortedG l := by
    unfold sortedB at hb2
    simp only [Bool.not_eq_false', decide_eq_true_eq] at hb2
    exact hb2
  have hno : ¬ (0 < z.length ∨ ¬ Gr.sortedG l) := fun q => q.elim hb1 fun q => q hs
  constructor
  · intro hr
    unfold Gr.getG
    rw [h]
    simp only
    rw [if_neg (by simp), if_neg hno, if_pos hr]
  · intro hr
    unfold Gr.getG
    rw [h]
    simp only
    rw [if_neg (by simp), if_neg hno, if_neg hr]
theorem rd_new (w : World) (s : List UInt8) : RdAt w.heap.size (w.heap.size + 1) w.heap.size ((w.alloc (.cells #[.string ⟨s.toArray⟩] 135)).alloc (.cells #[.pointer (some ⟨w.heap.size, 0, none⟩), .int .i64 0] 82)) (s, 0) :=
  ⟨by omega, heap_new_at _ _ _ (by rw [World.size_alloc]), Nat.le_refl _, heap_alloc_old (heap_new_at _ _ _ rfl) _⟩
set_option maxHeartbeats 8000000 in
theorem getGraph_any (s : List UInt8) (w : World) (hs : s.length ≤ 100000) : Calls Tryz.prog 12 #[.string ⟨s.toArray⟩] w (GetPost (Gr.getG getL s) w) := by
  obtain ⟨l, ⟨z, x⟩, hg⟩ : ∃ l t, Gr.graphS getL s = (l, t) := ⟨_, _, rfl⟩
  have hN := fun W A B h g => rdNodes_any w A B (s, 0) W h g (by simpa using Nat.le_trans hs (by decide))
  have hsm : ∀ n ∈ l, n.frm.length ≤ 3 ∧ n.prog.length ≤ 24 ∧ 0 ≤ n.id ∧ n.id ≤ 7 ∧ n.route.length = 8 := by
    have := nodesS_small 1 (Gr.numS 0 8 (s, 0)).1.toNat (Gr.numS 0 8 (s, 0)).2
    unfold Gr.graphS at hg
    rw [hg] at this
    exact this
  have hl8 : l.length ≤ 8 := by
    have h1 := (nodesS_len 1 (Gr.numS 0 8 (s, 0)).1.toNat (Gr.numS 0 8 (s, 0)).2).1
    have h2 := numS_range (a := 0) (b := 8) (s, 0) (by omega) (by omega)
    unfold Gr.graphS at hg
    rw [hg] at h1
    simp only at h1
    omega
  have hgu := hg
  unfold Gr.graphS at hgu
  rw [hgu] at hN
  simp only at hN
  have HN := Lib.hid hN
  have HSM := Lib.hid hsm
  have HSMALL : Hid (Small l) := Lib.hid fun n hn => ⟨by have := hsm n hn; omega, by have := hsm n hn; omega⟩
  have HGG := Lib.hid hg
  clear hN hsm hgu
  by_cases he : endE (z, x) (sortedB l) = 0
  · obtain ⟨hg1, hg2⟩ := getG_fine hg he
    have HE := Lib.hid he
    clear he hg
    by_cases hr : Gr.RightR l
    · rw [hg1 hr]
      have HR := Lib.hid hr
      have hck := checkR_ok hl8 hr
      have HCK := Lib.hid hck
      clear hg1 hg2 hr hck
      go_enter Tryz.func12, Tryz.ntmps12
      go_wp2_with (first
        | (go_at_call 37; refine (octNew_any s _).mono ?_; rintro e w1 ⟨rfl, rfl⟩)
        | (go_at_call 38; go_loud (refine (HN.out _ _ w.heap.size (rd_new w s) (by repeat (first | with_reducible exact Grew.refl _ | apply Grew.more | apply Grew.alloc | apply Grew.drew | apply Grew.drewN))).mono ?_; rintro e w2 ⟨v2, lc, rfl, ho, hi, hr2, hg2, -⟩; obtain ⟨a2, c2, rfl⟩ := (OwnAt.rows ho encNd_len).len; (have hat := hi.at ho); (have HAT := Lib.hid hat); (have HR2 := Lib.hid hr2); (have HG2 := Lib.hid hg2); clear ho hi hr2 hg2 hat))
        | (go_at_call 40; refine (sorted_any _ l _ (HAT.out.grew (by repeat (first | with_reducible exact Grew.refl _ | apply Grew.more | apply Grew.alloc | apply Grew.drew | apply Grew.drewN))) (fun n hn => by have := HSM.out n hn; omega) (by omega)).mono ?_; rintro e w3 ⟨rfl, R3, n3, rfl⟩)
        | (go_at_call 39; refine (rdEnd_any _ _ _ _ (sortedB l) _ (HR2.out.grew (by repeat (first | with_reducible exact Grew.refl _ | apply Grew.more | apply Grew.alloc | apply Grew.drew | apply Grew.drewN)))).mono ?_; rintro e w4 ⟨rfl, hw4⟩; obtain rfl := hw4; rw [HE.out])
        | (go_at_call 30; refine (check_graph _ l _ (HAT.out.grew (by repeat (first | with_reducible exact Grew.refl _ | apply Grew.more | apply Grew.alloc | apply Grew.drew | apply Grew.drewN))) HSMALL.out).mono ?_; rintro e w5 ⟨rfl, R5, n5, rfl⟩; rw [HCK.out]))
      exact bodyPost_ret (v := .tuple #[.slice a2 lc.length c2, .int .i64 0]) (by simp [results, Tryz.results12, go_sem]) rfl ⟨_, rfl, HAT.out.grew (by repeat (first | with_reducible exact Grew.refl _ | apply Grew.more | apply Grew.alloc | apply Grew.drew | apply Grew.drewN)), HG2.out.trans (by repeat (first | with_reducible exact Grew.refl _ | apply Grew.more | apply Grew.alloc | apply Grew.drew | apply Grew.drewN))⟩
    · rw [hg2 hr]
      have hck := checkR_bad hl8 hr
      have HCK := Lib.hid hck
      clear hg1 hg2 hr hck
      go_enter Tryz.func12, Tryz.ntmps12
      go_wp2_with (first
        | (go_at_call 37; refine (octNew_any s _).mono ?_; rintro e w1 ⟨rfl, rfl⟩)
        | (go_at_call 38; refine (HN.out _ _ w.heap.size (rd_new w s) (by repeat (first | with_reducible exact Grew.refl _ | apply Grew.more | apply Grew.alloc | apply Grew.drew | apply Grew.drewN))).mono ?_; rintro e w2 ⟨v2, lc, rfl, ho, hi, hr2, hg2, -⟩; obtain ⟨a2, c2, rfl⟩ := (OwnAt.rows ho encNd_len).len; (have hat := hi.at ho); (have HAT := Lib.hid hat); (have HR2 := Lib.hid hr2); (have HG2 := Lib.hid hg2); clear ho hi hr2 hg2 hat)
        | (go_at_call 40; refine (sorted_any _ l _ (HAT.out.grew (by repeat (first | with_reducible exact Grew.refl _ | apply Grew.more | apply Grew.alloc | apply Grew.drew | apply Grew.drewN))) (fun n hn => by have := HSM.out n hn; omega) (by omega)).mono ?_; rintro e w3 ⟨rfl, R3, n3, rfl⟩)
        | (go_at_call 39; refine (rdEnd_any _ _ _ _ (sortedB l) _ (HR2.out.grew (by repeat (first | with_reducible exact Grew.refl _ | apply Grew.more | apply Grew.alloc | apply Grew.drew | apply Grew.drewN)))).mono ?_; rintro e w4 ⟨rfl, hw4⟩; obtain rfl := hw4; rw [HE.out])
        | (go_at_call 30; refine (check_graph _ l _ (HAT.out.grew (by repeat (first | with_reducible exact Grew.refl _ | apply Grew.more | apply Grew.alloc | apply Grew.drew | apply Grew.drewN))) HSMALL.out).mono ?_; rintro e w5 ⟨rfl, R5, n5, rfl⟩; rw [HCK.out]))
      exact bodyPost_ret (v := .tuple #[.slice none 0 0, .int .i64 10]) (by simp [results, Tryz.results12, go_sem]) rfl ⟨_, rfl, NodesAt.nil _, HG2.out.trans (by repeat (first | with_reducible exact Grew.refl _ | apply Grew.more | apply Grew.alloc | apply Grew.drew | apply Grew.drewN))⟩
  · rw [getG_err hg he]
    have hne : (endE (z, x) (sortedB l) != 0) = true := by rw [bne_iff_ne]; exact he
    generalize hen : endE (z, x) (sortedB l) = en at *
    have HEN := Lib.hid hen
    clear he hg hen
    go_enter Tryz.func12, Tryz.ntmps12
    go_wp2_with (first
        | (go_at_call 37; refine (octNew_any s _).mono ?_; rintro e w1 ⟨rfl, rfl⟩)
        | (go_at_call 38; refine (HN.out _ _ w.heap.size (rd_new w s) (by repeat (first | with_reducible exact Grew.refl _ | apply Grew.more | apply Grew.alloc | apply Grew.drew | apply Grew.drewN))).mono ?_; rintro e w2 ⟨v2, lc, rfl, ho, hi, hr2, hg2, -⟩; obtain ⟨a2, c2, rfl⟩ := (OwnAt.rows ho encNd_len).len; (have hat := hi.at ho); (have HAT := Lib.hid hat); (have HR2 := Lib.hid hr2); (have HG2 := Lib.hid hg2); clear ho hi hr2 hg2 hat)
        | (go_at_call 40; refine (sorted_any _ l _ (HAT.out.grew (by repeat (first | with_reducible exact Grew.refl _ | apply Grew.more | apply Grew.alloc | apply Grew.drew | apply Grew.drewN))) (fun n hn => by have := HSM.out n hn; omega) (by omega)).mono ?_; rintro e w3 ⟨rfl, R3, n3, rfl⟩)
        | (go_at_call 39; refine (rdEnd_any _ _ _ _ (sortedB l) _ (HR2.out.grew (by repeat (first | with_reducible exact Grew.refl _ | apply Grew.more | apply Grew.alloc | apply Grew.drew | apply Grew.drewN)))).mono ?_; rintro e w4 ⟨rfl, hw4⟩; obtain rfl := hw4; rw [HEN.out]))
    exact bodyPost_ret (v := .tuple #[.slice none 0 0, .int .i64 en]) (by simp [results, Tryz.results12, go_sem]) rfl ⟨_, rfl, NodesAt.nil _, HG2.out.trans (by repeat (first | with_reducible exact Grew.refl _ | apply Grew.more | apply Grew.alloc | apply Grew.drew | apply Grew.drewN))⟩
end Go.Proofs.YtangapokicnfgaaGreat

/-! [8]int: equal. -/
namespace Go.Proofs.YtangapokicnfgaaGreat
set_option linter.unusedSimpArgs false
set_option linter.unusedVariables false
open Go.RowKit Ga
set_option maxRecDepth 100000
set_option maxHeartbeats 4000000 in
theorem eq8 (r0 r1 r2 r3 r4 r5 r6 r7 s0 s1 s2 s3 s4 s5 s6 s7 : Int) (w : World) : (binOp .eql 43 (.agg #[.int .i64 r0, .int .i64 r1, .int .i64 r2, .int .i64 r3, .int .i64 r4, .int .i64 r5, .int .i64 r6, .int .i64 r7]) (.agg #[.int .i64 s0, .int .i64 s1, .int .i64 s2, .int .i64 s3, .int .i64 s4, .int .i64 s5, .int .i64 s6, .int .i64 s7])).run Tryz.prog w = .ok (.bool (decide ([r0, r1, r2, r3, r4, r5, r6, r7] = [s0, s1, s2, s3, s4, s5, s6, s7]))) w := by
  have u3 := Tryz.underlying3
  have a3 := Tryz.isAgg3
  have z3 := Tryz.sizeOf3
  obtain ⟨i, hi⟩ : ∃ i, Tryz.prog.info? 3 = some i := info_of_underlying u3
  rw [run_eql_struct, show (10000 : Nat) = 9999 + 1 from rfl, run_equalIn_array w 9999 _ _ Tryz.underlying43 hi]
  rw [show Tryz.prog.cellsOf 3 = 1 by kernel_rfl]
  rw [show List.range 8 = [0, 1, 2, 3, 4, 5, 6, 7] from rfl]
  simp only [Op.eqItems]
  go_simp
  by_cases h0 : r0 = s0
  · by_cases h1 : r1 = s1
    · by_cases h2 : r2 = s2
      · by_cases h3 : r3 = s3
        · by_cases h4 : r4 = s4
          · by_cases h5 : r5 = s5
            · by_cases h6 : r6 = s6
              · by_cases h7 : r7 = s7
                · simp [h0, h1, h2, h3, h4, h5, h6, h7]
                · simp [h0, h1, h2, h3, h4, h5, h6, h7]
              · simp [h0, h1, h2, h3, h4, h5, h6]
            · simp [h0, h1, h2, h3, h4, h5]
          · simp [h0, h1, h2, h3, h4]
        · simp [h0, h1, h2, h3]
      · simp [h0, h1, h2]
    · simp [h0, h1]
  · simp [h0]
end Go.Proofs.YtangapokicnfgaaGreat

/-! forebayref13.num, Node, Graph. -/
namespace Go.Proofs.YtangapokicnfgaaGreat
set_option linter.unusedSimpArgs false
set_option linter.unusedVariables false
open Go.RowKit Ga
set_option maxRecDepth 100000

theorem num13_any (n : Int) (h : Oc.fitsN n = true) (w : World) : Calls Tryz.prog 41 #[.int .i64 n] w (Gives (str (Oc.be n)) w) := by
  have HP := Lib.hid fun W => refPut01_any n h W
  clear h
  go_enter Tryz.func41, Tryz.ntmps41
  go_wp2_with (go_at_call 84; refine (HP.out _).mono ?_; rintro e w1 ⟨rfl, R3, n3, rfl⟩)
  go_ret
  refine ⟨rfl, ?_⟩
  repeat (first | with_reducible exact Grew.refl _ | apply Grew.more | apply Grew.alloc | apply Grew.drew | apply Grew.drewN)
theorem enc_rt {a0 a1 a2 a3 a4 : Value} {r0 r1 r2 r3 r4 r5 r6 r7 : Int} (g : Nat) (h : g < 8) : (#[a0, a1, a2, a3, a4, .int .i64 r0, .int .i64 r1, .int .i64 r2, .int .i64 r3, .int .i64 r4, .int .i64 r5, .int .i64 r6, .int .i64 r7] : Array Value)[5 + g]? = some (.int .i64 ([r0, r1, r2, r3, r4, r5, r6, r7] : List Int)[g]) := by
  rcases (show g = 0 ∨ g = 1 ∨ g = 2 ∨ g = 3 ∨ g = 4 ∨ g = 5 ∨ g = 6 ∨ g = 7 by omega) with rfl | rfl | rfl | rfl | rfl | rfl | rfl | rfl <;> rfl
set_option maxHeartbeats 8000000 in
theorem node13_any (c : NdC) (n : Gr.Nd) (lp : Int) (hlp : -2147483648 ≤ lp) (w : World) (hn : NodeIs w c n) (hok : Gr.OkB fitsP lp n) : Calls Tryz.prog 42 #[.agg #[.int .i64 c.id, .int .i64 c.kind, .slice c.af c.nf c.cf, .slice c.ap c.np c.cp, .int .i64 c.par, .int .i64 c.r0, .int .i64 c.r1, .int .i64 c.r2, .int .i64 c.r3, .int .i64 c.r4, .int .i64 c.r5, .int .i64 c.r6, .int .i64 c.r7]] w (Gives (str (Gr.putNd putI n)) w) := by
  have HF := Lib.hid hn.f
  have HP := Lib.hid hn.p
  have HFI : Hid (Co.fitsI n.prog = true) := Lib.hid hok.p
  have HFF := Lib.hid hok.f
  have HOO := Lib.hid hok.o
  have hfl := hok.m
  have hq := putNd_eq [] n
  obtain ⟨id, kind, af, cf, ap, cp, par, r0, r1, r2, r3, r4, r5, r6, r7, rfl⟩ := hn.lit
  have e1 := hn.id
  have e2 := hn.kind
  have e3 := hn.par
  have e4 := hn.route
  simp only at e1 e2 e3 e4 HF HP
  rw [List.nil_append, List.nil_append, be_three, be_one, e1, e2, e3, e4] at hq
  have f1 : Oc.fitsN id = true := by rw [← e1]; exact fits_of (by have := hok.i; omega) (by have := hok.i; omega)
  have f2 : Oc.fitsN kind = true := by rw [← e2]; exact fits_of (by have := hok.k; omega) (by have := hok.k; omega)
  have f3 : Oc.fitsN (n.frm.length : Int) = true := fits_of (by omega) (by omega)
  have f4 : Oc.fitsN par = true := by rw [← e3]; exact fits_of (by have := hok.r; omega) (by have := hok.r; omega)
  have E4 := Lib.hid e4
  have HQ := Lib.hid hq
  have hpl := putI_len n.prog hok.p
  clear hq e1 e2 e3 e4 hn hok
  generalize hpg : n.prog.length = pl at *
  obtain ⟨fr, hfr⟩ : ∃ fr, fr = n.frm := ⟨_, rfl⟩
  have HFR := Lib.hid hfr
  rw [← hfr] at HF HFF hfl HQ f3
  rw [← hfr]
  clear hfr hpg
  show Calls Tryz.prog 42 #[.agg #[.int .i64 id, .int .i64 kind, .slice af fr.length cf, .slice ap pl cp, .int .i64 par, .int .i64 r0, .int .i64 r1, .int .i64 r2, .int .i64 r3, .int .i64 r4, .int .i64 r5, .int .i64 r6, .int .i64 r7]] w _
  have b1 : (Oc.be id).length ≤ 4 := Nat.le_of_eq (Oc.be_len _)
  have b2 : (Oc.be kind).length ≤ 4 := Nat.le_of_eq (Oc.be_len _)
  have b3 : (Oc.be (fr.length : Int)).length ≤ 4 := Nat.le_of_eq (Oc.be_len _)
  have b4 : (Oc.be par).length ≤ 4 := Nat.le_of_eq (Oc.be_len _)
  go_enter Tryz.func42, Tryz.ntmps42
  go_wp2_with fail
  refine wp_region_seq 13 Tryz.mixed (by kernel_rfl) (by kernel_rfl) ?_
  iterate 13
    apply Seq.val
    focus
      rintro w1 u ⟨R1, n1, rfl⟩ hF
      simp [moreFacts, Fact.more, Oper.deps, Region.binds, List.filter_cons, World.more_drew] at hF
      simp [putFacts, Oper.deps, Region.binds, List.filter_cons, Region.dstOf, Fact.at, Act.put, World.more_drew]
      go_wp2_with (first
        | (go_at_call 41; refine (num13_any _ (by assumption) _).mono ?_; rintro e w1 ⟨rfl, R3, n3, rfl⟩)
        )
      exact ⟨by repeat (first | with_reducible exact Grew.refl _ | apply Grew.more | apply Grew.alloc | apply Grew.drew | apply Grew.drewN), rfl, _, _, rfl, rfl, rfl⟩
  rintro u w1 ⟨R1, n1, rfl⟩ hF
  clear hF
  simp [putFacts, Region.dstOf, Fact.at, Act.put, List.range_succ, World.more_drew]
  go_wp2
  have hT0 : (Oc.be id ++ (Oc.be kind ++ Oc.be (fr.length : Int))).length ≤ 12 := by simp only [List.length_append, Oc.be_len]; omega
  have hbe : (⟨(Oc.be id).toArray⟩ ++ ⟨(Oc.be kind).toArray⟩ ++ ⟨(Oc.be (fr.length : Int)).toArray⟩ : ByteArray) = ⟨(Oc.be id ++ (Oc.be kind ++ Oc.be (fr.length : Int))).toArray⟩ := by rw [str_cat, str_cat, List.append_assoc]
  rw [hbe]
  have hlen0 : (Oc.be (fr.length : Int)) = (Oc.be (fr.length : Int)) := rfl
  generalize Oc.be id ++ (Oc.be kind ++ Oc.be (fr.length : Int)) = T0 at *
  clear hbe hlen0
  go_loopg [3, 4] fr.length (fun gg s3 s4 wr => ∃ g : Nat, g ≤ fr.length ∧ fr.length - g ≤ gg ∧ s4 = .int .i64 g ∧ s3 = str (T0 ++ Oc.bes (fr.take g)) ∧ Hid (Grew w wr) ∧ Hid (wr.heap[w.heap.size]? = some (.cells #[.int .i64 id, .int .i64 kind, .slice af fr.length cf, .slice ap pl cp, .int .i64 par, .int .i64 r0, .int .i64 r1, .int .i64 r2, .int .i64 r3, .int .i64 r4, .int .i64 r5, .int .i64 r6, .int .i64 r7] 45)))
  case atStart => exact ⟨0, by omega, by omega, rfl, by simp [Oc.bes], Lib.hid (by repeat (first | with_reducible exact Grew.refl _ | apply Grew.more | apply Grew.alloc | apply Grew.drew | apply Grew.drewN)), Lib.hid (grew_heap (by repeat (first | with_reducible exact Grew.refl _ | apply Grew.more | apply Grew.alloc | apply Grew.drew | apply Grew.drewN)) (heap_new_at w _ _ rfl))⟩
  case round =>
    obtain ⟨g, hg8, hgg, rfl, rfl, HGR, HBX⟩ := hrel
    have d2 := cell_of (o := 2) HBX.out
    have d3 := cell_of (o := 3) HBX.out
    have d4 := cell_of (o := 4) HBX.out
    have px := Pre.mk (heap_lt HBX.out)
    simp at d2 d3 d4
    have hbl := Oc.bes_len (fr.take g)
    rw [List.length_take_of_le hg8] at hbl
    have hTl : (T0 ++ Oc.bes (fr.take g)).length ≤ 100 := by rw [List.length_append, hbl]; omega
    by_cases hlt : g < fr.length
    · obtain ⟨af', cf', e, -, hx⟩ := ints_open (HF.out.grew HGR.out)
      cases e
      obtain ⟨bf, offf, rfl, hpf, cx⟩ := hx g hlt
      have hbs := Oc.bes_succ fr g hlt
      have hfx := HFF.out _ (List.getElem_mem hlt)
      clear hx
      generalize fr[g] = x at *
      have fx : Oc.fitsN x = true := fits_of (by omega) (by omega)
      have bx : (Oc.be x).length ≤ 4 := Nat.le_of_eq (Oc.be_len _)
      have hns : T0 ++ Oc.bes (fr.take (g + 1)) = (T0 ++ Oc.bes (fr.take g)) ++ Oc.be x := by rw [hbs, List.append_assoc]
      have HNS := Lib.hid hns
      clear hns hbs hbl hfx d3 d4
      generalize T0 ++ Oc.bes (fr.take g) = T at *
      go_wp2_with (go_at_call 41; refine (num13_any _ fx _).mono ?_; rintro e w2 ⟨rfl, R5, n5, rfl⟩)
      go_roundg (fr.length - (g + 1))
      case measure => omega
      case rel => exact ⟨g + 1, by omega, by omega, by go_num, by rw [HNS.out]; exact congrArg Value.string (str_cat _ _), Lib.hid (HGR.out.trans (by repeat (first | with_reducible exact Grew.refl _ | apply Grew.more | apply Grew.alloc | apply Grew.drew | apply Grew.drewN))), Lib.hid (grew_heap (by repeat (first | with_reducible exact Grew.refl _ | apply Grew.more | apply Grew.alloc | apply Grew.drew | apply Grew.drewN)) HBX.out)⟩
    · obtain rfl : g = fr.length := by omega
      rw [List.take_length] at *
      generalize hT1 : T0 ++ Oc.bes fr = T1 at *
      have HT1 := Lib.hid hT1
      have HPg := Lib.hid (HP.out.grew HGR.out)
      have hpp : (putI n.prog).length ≤ 200 := hpl
      clear hT1 hbl
      go_wp2_with fail
      refine wp_region_seq 9 Tryz.mixed (by kernel_rfl) (by kernel_rfl) ?_
      iterate 9
        apply Seq.val
        focus
          rintro w1 u ⟨R1, n1, rfl⟩ hF
          simp [moreFacts, Fact.more, Oper.deps, Region.binds, List.filter_cons, World.more_drew] at hF
          simp [putFacts, Oper.deps, Region.binds, List.filter_cons, Region.dstOf, Fact.at, Act.put, World.more_drew]
          go_wp2_with (first
            | (go_at_call 85; refine (refPut04_any _ n.prog _ (HPg.out.grew (by repeat (first | with_reducible exact Grew.refl _ | apply Grew.more | apply Grew.alloc | apply Grew.drew | apply Grew.drewN))) HFI.out).mono ?_; rintro e w2 ⟨rfl, R5, n5, rfl⟩)
            | (go_at_call 41; refine (num13_any _ f4 _).mono ?_; rintro e w2 ⟨rfl, R5, n5, rfl⟩))
          exact ⟨by repeat (first | with_reducible exact Grew.refl _ | apply Grew.more | apply Grew.alloc | apply Grew.drew | apply Grew.drewN), rfl, _, _, rfl, rfl, rfl⟩
      rintro u w1 ⟨R1, n1, rfl⟩ hF
      clear hF
      simp [putFacts, Region.dstOf, Fact.at, Act.put, List.range_succ, World.more_drew]
      go_wp2
      have hbe2 : (⟨T1.toArray⟩ ++ ⟨(putI n.prog).toArray⟩ ++ ⟨(Oc.be par).toArray⟩ : ByteArray) = ⟨((T1 ++ putI n.prog) ++ Oc.be par).toArray⟩ := by rw [str_cat, str_cat]
      rw [hbe2]
      have hT2l : ((T1 ++ putI n.prog) ++ Oc.be par).length ≤ 400 := by simp only [List.length_append, Oc.be_len]; omega
      generalize hT2 : (T1 ++ putI n.prog) ++ Oc.be par = T2 at *
      have HT2 := Lib.hid hT2
      clear hbe2 hT2 d3 d4
      go_loopg [3, 5] 8 (fun gg s3 s5 ws => ∃ g : Nat, g ≤ 8 ∧ 8 - g ≤ gg ∧ s5 = .int .i64 g ∧ s3 = str (T2 ++ Oc.bes (([r0, r1, r2, r3, r4, r5, r6, r7] : List Int).take g)) ∧ Hid (Grew w ws) ∧ Hid (ws.heap[w.heap.size]? = some (.cells #[.int .i64 id, .int .i64 kind, .slice af fr.length cf, .slice ap pl cp, .int .i64 par, .int .i64 r0, .int .i64 r1, .int .i64 r2, .int .i64 r3, .int .i64 r4, .int .i64 r5, .int .i64 r6, .int .i64 r7] 45)))
      case atStart => exact ⟨0, by omega, by omega, rfl, by simp [Oc.bes], Lib.hid (HGR.out.trans (by repeat (first | with_reducible exact Grew.refl _ | apply Grew.more | apply Grew.alloc | apply Grew.drew | apply Grew.drewN))), Lib.hid (grew_heap (by repeat (first | with_reducible exact Grew.refl _ | apply Grew.more | apply Grew.alloc | apply Grew.drew | apply Grew.drewN)) HBX.out)⟩
      case round =>
        obtain ⟨h, hh8, hhg, rfl, rfl, HGS, HBS⟩ := hrel
        have px2 := Pre.mk (heap_lt HBS.out)
        have hbl2 := Oc.bes_len (([r0, r1, r2, r3, r4, r5, r6, r7] : List Int).take h)
        rw [List.length_take_of_le (show h ≤ ([r0, r1, r2, r3, r4, r5, r6, r7] : List Int).length from hh8)] at hbl2
        have hTl2 : (T2 ++ Oc.bes (([r0, r1, r2, r3, r4, r5, r6, r7] : List Int).take h)).length ≤ 500 := by rw [List.length_append, hbl2]; omega
        by_cases hlt2 : h < 8
        · have dg := cell_of (o := 5 + h) HBS.out
          rw [enc_rt h hlt2] at dg
          have hbs := Oc.bes_succ ([r0, r1, r2, r3, r4, r5, r6, r7] : List Int) h hlt2
          have hfx := HOO.out _ (by rw [E4.out]; exact List.getElem_mem (show h < ([r0, r1, r2, r3, r4, r5, r6, r7] : List Int).length from hlt2))
          have hns : T2 ++ Oc.bes (([r0, r1, r2, r3, r4, r5, r6, r7] : List Int).take (h + 1)) = (T2 ++ Oc.bes (([r0, r1, r2, r3, r4, r5, r6, r7] : List Int).take h)) ++ Oc.be ([r0, r1, r2, r3, r4, r5, r6, r7] : List Int)[h] := by rw [hbs, List.append_assoc]
          have HNS := Lib.hid hns
          clear hns hbs hbl2
          generalize ([r0, r1, r2, r3, r4, r5, r6, r7] : List Int)[h] = x at *
          have fx : Oc.fitsN x = true := fits_of (by omega) (by omega)
          have bx : (Oc.be x).length ≤ 4 := Nat.le_of_eq (Oc.be_len _)
          generalize T2 ++ Oc.bes (([r0, r1, r2, r3, r4, r5, r6, r7] : List Int).take h) = T at *
          clear hfx
          go_wp2_with (go_at_call 41; refine (num13_any _ fx _).mono ?_; rintro e w2 ⟨rfl, R7, n7, rfl⟩)
          go_roundg (8 - (h + 1))
          case measure => omega
          case rel => exact ⟨h + 1, by omega, by omega, by go_num, by rw [HNS.out]; exact congrArg Value.string (str_cat _ _), Lib.hid (HGS.out.trans (by repeat (first | with_reducible exact Grew.refl _ | apply Grew.more | apply Grew.alloc | apply Grew.drew | apply Grew.drewN))), Lib.hid (grew_heap (by repeat (first | with_reducible exact Grew.refl _ | apply Grew.more | apply Grew.alloc | apply Grew.drew | apply Grew.drewN)) HBS.out)⟩
        · obtain rfl : h = 8 := by omega
          clear hbl2
          go_wp2
          go_ret
          exact ⟨by rw [← HQ.out]; rfl, HGS.out⟩
end Go.Proofs.YtangapokicnfgaaGreat
