import Derived.Test.YtangapokicnfgaaGreatMq36
import Derived.Test.YtangapokicnfgaaGreatMq33
import Derived.Test.YtangapokicnfgaaGreatMq29
import Derived.Test.YtangapokicnfgaaGreatMq19
/-! forebayref08.Same. -/
namespace Go.Proofs.YtangapokicnfgaaGreat
set_option linter.unusedSimpArgs false
set_option linter.unusedVariables false
open Go.RowKit Ga
set_option maxRecDepth 100000

open Classical in
theorem eqNd_eq {n m : Gr.Nd} (h : eqNd n m = true) : n = m := by
  unfold eqNd at h
  exact of_decide_eq_true h
open Classical in
/-- the same graph, as the document has it -/
noncomputable def sameG (l m : List Gr.Nd) : Bool := decide (l.length = m.length ∧ ∀ n ∈ l, Gr.nodeOf m n.id = some n)
open Classical in
theorem sameG_true {l m : List Gr.Nd} (h1 : l.length = m.length) (h2 : ∀ i (hi : i < l.length), Gr.nodeOf m l[i].id = some l[i]) : sameG l m = true := by
  unfold sameG
  exact decide_eq_true ⟨h1, fun n hn => by
    obtain ⟨i, hi, rfl⟩ := List.mem_iff_getElem.1 hn
    exact h2 i hi⟩
open Classical in
theorem sameG_len {l m : List Gr.Nd} (h1 : l.length ≠ m.length) : sameG l m = false := by
  unfold sameG
  exact decide_eq_false fun h => h1 h.1
open Classical in
theorem sameG_no {l m : List Gr.Nd} {i : Nat} (hi : i < l.length) (h2 : Gr.nodeOf m l[i].id ≠ some l[i]) : sameG l m = false := by
  unfold sameG
  exact decide_eq_false fun h => h2 (h.2 _ (List.getElem_mem hi))
set_option maxHeartbeats 16000000 in
theorem refSame08_any (v u : Value) (l m : List Gr.Nd) (w : World) (hv : NodesAt w v l) (hu : NodesAt w u m) : Calls Tryz.prog 14 #[v, u] w (Gives (.bool (sameG l m)) w) := by
  have HV := Lib.hid hv
  have HU := Lib.hid hu
  obtain ⟨a, cap, rfl, hm, -⟩ := hv.openC
  obtain ⟨a2, cap2, rfl, hm2, -⟩ := hu.openC
  clear hv hu
  by_cases hlen : l.length = m.length
  · have hne : ((l.length : Int) != (m.length : Int)) = false := by simp; omega
    have HLEN := Lib.hid hlen
    clear hlen
    go_enter Tryz.func14, Tryz.ntmps14
    go_wp2
    go_loopg [5] l.length (fun gg s5 wr => ∃ g : Nat, g ≤ l.length ∧ l.length - g ≤ gg ∧ s5 = .int .i64 g ∧ Hid (Grew w wr) ∧ Hid (∀ i (hi : i < l.length), i < g → Gr.nodeOf m l[i].id = some l[i]))
    case atStart => exact ⟨0, by omega, by omega, rfl, Lib.hid (by repeat (first | with_reducible exact Grew.refl _ | apply Grew.more | apply Grew.alloc | apply Grew.drew | apply Grew.drewN)), Lib.hid fun i _ h => by omega⟩
    case round =>
      obtain ⟨g, hg8, hgg, rfl, HGR, HNO⟩ := hrel
      by_cases hlt : g < l.length
      · obtain ⟨av, cv, e, -, hx⟩ := (HV.out.grew HGR.out).openC
        cases e
        obtain ⟨b, off, c, rfl, hb, hn, c0, c1, c2, c3, c4, c5, c6, c7, c8, c9, c10, c11, c12⟩ := hx g hlt
        have eid := hn.id
        have HF := Lib.hid fun W (gr : Grew wr W) => (by have := refFind08_any _ m l[g].id W ((HU.out.grew HGR.out).grew gr); rw [eid] at this; exact this)
        have HEID := Lib.hid eid
        have hsn : ∀ q, Gr.nodeOf m l[g].id = q → q ≠ some l[g] → sameG l m = false := fun q h1 h2 => sameG_no hlt (by rw [h1]; exact h2)
        have HSN := Lib.hid hsn
        clear hx hsn
        generalize hy : l[g] = y at *
        have HY := Lib.hid hy
        clear hy
        cases hf : Gr.find m c.id with
        | none =>
          have hi := findI_none hf
          have HI := Lib.hid hi
          have hno : sameG l m = false := HSN.out none (by unfold Gr.nodeOf; rw [HEID.out, hf]; rfl) (by simp)
          have HNOS := Lib.hid hno
          clear hi hf hno eid
          obtain ⟨cid, kind, af, cf, ap, cp, par, r0, r1, r2, r3, r4, r5, r6, r7, rfl⟩ := hn.lit
          simp only at c0 c1 c2 c3 c4 c5 c6 c7 c8 c9 c10 c11 c12
          clear hn
          go_upto_region 7 with (go_at_call 33; refine (HF.out _ (by repeat (first | with_reducible exact Grew.refl _ | apply Grew.more | apply Grew.alloc | apply Grew.drew | apply Grew.drewN))).mono ?_; rintro e w1 ⟨rfl, hw1⟩; obtain rfl := hw1.symm; rw [HI.out])
          go_quiet (fail)
          go_wp2
          go_ret
          exact ⟨by rw [HNOS.out]; rfl, HGR.out.trans (by repeat (first | with_reducible exact Grew.refl _ | apply Grew.more | apply Grew.alloc | apply Grew.drew | apply Grew.drewN))⟩
        | some j =>
          obtain ⟨hi, hjl⟩ := findI_some hf
          have HI := Lib.hid hi
          obtain ⟨av2, cv2, e, -, hz⟩ := (HU.out.grew HGR.out).openC
          cases e
          obtain ⟨b2, off2, d, rfl, hb2, hn2, d0, d1, d2, d3, d4, d5, d6, d7, d8, d9, d10, d11, d12⟩ := hz j hjl
          have hnode : Gr.nodeOf m y.id = some m[j] := by unfold Gr.nodeOf; rw [HEID.out, hf, Option.bind_some, List.getElem?_eq_getElem hjl]
          have hj0 : decide ((j : Int) < 0) = false := decide_eq_false (by omega)
          have hj1 : (j : Int) < (m.length : Int) := by omega
          have HNODE := Lib.hid hnode
          clear hz hf hi hnode eid
          generalize m[j] = z at *
          have HN := Lib.hid fun W (gr : Grew wr W) => refNode08_any c d y z W (hn.grew gr) (hn2.grew gr)
          obtain ⟨cid, kind, af, cf, ap, cp, par, r0, r1, r2, r3, r4, r5, r6, r7, rfl⟩ := hn.lit
          obtain ⟨cid2, kind2, af2, cf2, ap2, cp2, par2, s0, s1, s2, s3, s4, s5, s6, s7, rfl⟩ := hn2.lit
          simp only at c0 c1 c2 c3 c4 c5 c6 c7 c8 c9 c10 c11 c12 d0 d1 d2 d3 d4 d5 d6 d7 d8 d9 d10 d11 d12
          clear hn hn2
          generalize heq : eqNd y z = q at *
          have HEQ := Lib.hid heq
          clear heq
          go_upto_region 7 with (go_at_call 33; refine (HF.out _ (by repeat (first | with_reducible exact Grew.refl _ | apply Grew.more | apply Grew.alloc | apply Grew.drew | apply Grew.drewN))).mono ?_; rintro e w1 ⟨rfl, hw1⟩; obtain rfl := hw1.symm; rw [HI.out])
          refine wp_region_seq 14 Tryz.mixed (by kernel_rfl) (by kernel_rfl) ?_
          iterate 14
            apply Seq.val
            focus
              rintro w1 u ⟨R1, n1, rfl⟩ hF
              simp [moreFacts, Fact.more, Oper.deps, Region.binds, List.filter_cons, World.more_drew] at hF
              simp [putFacts, Oper.deps, Region.binds, List.filter_cons, Region.dstOf, Fact.at, Act.put, World.more_drew]
              go_wp2_with (go_at_call 20; refine (HN.out _ (by repeat (first | with_reducible exact Grew.refl _ | apply Grew.more | apply Grew.alloc | apply Grew.drew | apply Grew.drewN))).mono ?_; rintro e w2 ⟨rfl, R5, n5, rfl⟩)
              exact ⟨by repeat (first | with_reducible exact Grew.refl _ | apply Grew.more | apply Grew.alloc | apply Grew.drew | apply Grew.drewN), rfl, _, _, rfl, rfl, rfl⟩
          rintro u w1 ⟨R1, n1, rfl⟩ hF
          clear hF
          simp [putFacts, Region.dstOf, Fact.at, Act.put, List.range_succ, World.more_drew]
          cases q with
          | true =>
            go_wp2
            go_roundg (l.length - (g + 1))
            case measure => omega
            case rel => exact ⟨g + 1, by omega, by omega, by go_num, Lib.hid (HGR.out.trans (by repeat (first | with_reducible exact Grew.refl _ | apply Grew.more | apply Grew.alloc | apply Grew.drew | apply Grew.drewN))), Lib.hid fun i hi h => by
              by_cases e : i = g
              · subst e
                have e2 : l[i] = y := HY.out
                rw [e2, HNODE.out, eqNd_eq HEQ.out]
              · exact HNO.out i hi (by omega)⟩
          | false =>
            have hno : sameG l m = false := HSN.out (some z) HNODE.out (fun h => by rw [Option.some.injEq] at h; have := HEQ.out; rw [eqNd_true h.symm] at this; cases this)
            have HNOS := Lib.hid hno
            clear hno
            go_wp2
            go_ret
            exact ⟨by rw [HNOS.out]; rfl, HGR.out.trans (by repeat (first | with_reducible exact Grew.refl _ | apply Grew.more | apply Grew.alloc | apply Grew.drew | apply Grew.drewN))⟩
      · obtain rfl : g = l.length := by omega
        have hok := sameG_true HLEN.out fun i hi => HNO.out i hi hi
        have HOK := Lib.hid hok
        clear hok
        go_wp2
        go_ret
        exact ⟨by rw [HOK.out]; rfl, HGR.out⟩
  · have hne : ((l.length : Int) != (m.length : Int)) = true := by rw [bne_iff_ne]; omega
    rw [sameG_len hlen]
    clear hlen
    go_enter Tryz.func14, Tryz.ntmps14
    go_wp2
    go_ret
    refine ⟨rfl, ?_⟩
    repeat (first | with_reducible exact Grew.refl _ | apply Grew.more | apply Grew.alloc | apply Grew.drew | apply Grew.drewN)
end Go.Proofs.YtangapokicnfgaaGreat

/-! graph.Pass at two parts. -/
namespace Go.Proofs.YtangapokicnfgaaGreat
set_option linter.unusedSimpArgs false
set_option linter.unusedVariables false
open Go.RowKit Ga
set_option maxRecDepth 100000

def passR (g : Nat) : List Int := (List.range 8).map fun i => if i < g then ((i % 2 : Nat) : Int) else 0
def passL : List Gr.Nd := [⟨0, 0, [], [], 2, passR 8⟩, ⟨1, 2, [0], [], 2, passR 8⟩]
def PassGives (w : World) (e : Ending) (w' : World) : Prop := ∃ v, e = .returned v ∧ NodesAt w' v passL ∧ Grew w w'
set_option maxHeartbeats 8000000 in
theorem pass_any (w : World) : Calls Tryz.prog 29 #[.int .i64 2] w (PassGives w) := by
  go_enter Tryz.func29, Tryz.ntmps29
  go_wp2
  have hm1 : max (2 : Int) 1 = 2 := rfl
  have hm2 : min (2 : Int) 3 = 2 := rfl
  simp only [hm1, hm2]
  go_loopg [11] 8 (fun gg s11 wr => ∃ g : Nat, g ≤ 8 ∧ 8 - g ≤ gg ∧ s11 = .int .i64 g ∧ wr.heap[w.heap.size]? = some (.cells (nodeArr 0 0 (.slice none 0 0) (.slice none 0 0) 2 (passR g)) 45) ∧ Hid (Grew w wr))
  case atStart =>
    refine ⟨0, by omega, by omega, rfl, ?_, Lib.hid ?_⟩
    · have hna : nodeArr 0 0 (.slice none 0 0) (.slice none 0 0) 2 (passR 0) = #[.int .i64 0, .int .i64 0, .slice none 0 0, .slice none 0 0, .int .i64 2, .int .i64 0, .int .i64 0, .int .i64 0, .int .i64 0, .int .i64 0, .int .i64 0, .int .i64 0, .int .i64 0] := by
        simp [nodeArr, passR, List.range_succ]
      rw [hna]
      exact heap_new_at w _ _ rfl
    · repeat (first | exact (Grew.refl _).alloc _ | refine Grew.set ?_ (Nat.le_refl _) _)
  case round =>
    obtain ⟨g, hg8, hgg, rfl, hbx, HGR⟩ := hrel
    have hp := Pre.mk (heap_lt hbx)
    have HBX := Lib.hid hbx
    by_cases hlt : g < 8
    · have hset : (passR g).set g ((g : Int) % 2) = passR (g + 1) := by
        have : g = 0 ∨ g = 1 ∨ g = 2 ∨ g = 3 ∨ g = 4 ∨ g = 5 ∨ g = 6 ∨ g = 7 := by omega
        rcases this with rfl | rfl | rfl | rfl | rfl | rfl | rfl | rfl <;> rfl
      have hc5 := cell_of (o := 5 + g) hbx
      rw [nodeArr_get _ _ _ _ _ _ g (by simp [passR]; omega)] at hc5
      have hf5 := frozen_of (o := 5 + g) hbx
      have HSET := Lib.hid hset
      have hne : (2 : Int) ≠ 0 := by decide
      have htm : Int.tmod (g : Int) 2 = (g : Int) % 2 := rfl
      clear hset hbx
      go_wp2
      go_roundg (8 - (g + 1))
      case measure => omega
      case rel =>
        refine ⟨g + 1, by omega, by omega, by go_num, ?_, Lib.hid (HGR.out.set (Nat.le_refl _) _)⟩
        rw [← HSET.out, ← nodeArr_set]
        exact set_self HBX.out
    · obtain rfl : g = 8 := by omega
      have a0 := cell_of (o := 0) hbx
      have a1 := cell_of (o := 1) hbx
      have a2 := cell_of (o := 2) hbx
      have a3 := cell_of (o := 3) hbx
      have a4 := cell_of (o := 4) hbx
      have a5 := cell_of (o := 5) hbx
      have a6 := cell_of (o := 6) hbx
      have a7 := cell_of (o := 7) hbx
      have a8 := cell_of (o := 8) hbx
      have a9 := cell_of (o := 9) hbx
      have a10 := cell_of (o := 10) hbx
      have a11 := cell_of (o := 11) hbx
      have a12 := cell_of (o := 12) hbx
      simp [nodeArr, passR, List.range_succ] at a0 a1 a2 a3 a4 a5 a6 a7 a8 a9 a10 a11 a12
      clear hbx
      go_wp2
      go_ret
      refine ⟨_, rfl, ⟨[⟨0, 0, none, 0, 0, none, 0, 0, 2, 0, 1, 0, 1, 0, 1, 0, 1⟩, ⟨1, 2, some ⟨wr.heap.size + 1, 0, none⟩, 1, 1, none, 0, 0, 2, 0, 1, 0, 1, 0, 1, 0, 1⟩], ?_, rfl, ?_⟩, HGR.out.trans (by repeat (first | with_reducible exact Grew.refl _ | apply Grew.more | apply Grew.alloc | apply Grew.drew | apply Grew.drewN))⟩
      · exact RowsAt.fresh rfl (by simp [maxLen]) encNd_len (by simp [World.size_alloc]) rfl
      · have hi : IntsAt (((wr.alloc (.cells #[.int .i64 1, .int .i64 2, .slice (some ⟨wr.heap.size + 1, 0, none⟩) 1 1, .slice none 0 0, .int .i64 2, .int .i64 0, .int .i64 1, .int .i64 0, .int .i64 1, .int .i64 0, .int .i64 1, .int .i64 0, .int .i64 1] 45))).alloc (.cells #[.int .i64 0] 3)) (.slice (some ⟨wr.heap.size + 1, 0, none⟩) 1 1) [0] := RowsAt.fresh rfl (by decide) (fun _ => rfl) (by simp [World.size_alloc]) rfl
        intro i c n h1 h2
        match i with
        | 0 =>
          cases h1
          cases h2
          exact ⟨rfl, rfl, RowsAt.nil, RowsAt.nil, rfl, rfl, Nat.zero_le _⟩
        | 1 =>
          cases h1
          cases h2
          exact ⟨rfl, rfl, hi.grew ((Grew.refl _).alloc _), RowsAt.nil, rfl, rfl, Nat.le_refl _⟩
        | i + 2 => cases h1
end Go.Proofs.YtangapokicnfgaaGreat

/-! Programs that may run, by all their ways: plain laws. -/
namespace Vm
set_option linter.unusedSimpArgs false
set_option linter.unusedVariables false
open Ga

/-- A set of places, each with a depth and what was put out, that nothing leads out of. -/
structure Closed (l : List Ins) (M : Nat → Int → Int → Prop) : Prop where
  zero : M 0 0 0
  ok : ∀ k d e, M k d e → d ≤ 8 ∧ 0 ≤ e ∧ e ≤ 4 ∧ k ≤ l.length
  one : ∀ k d e d' e', M k d e → M k d' e' → k < l.length → d = d'
  enough : ∀ k d e i, M k d e → l[k]? = some i → (takes i.1 : Int) ≤ d
  next : ∀ k d e i, M k d e → l[k]? = some i → ∀ a ∈ next l k i, M a (d - takes i.1 + leaves i.1) (e + if i.1 = 14 then 1 else 0)
/-- All that is known is so on some way. -/
structure Real (n : Nat) (M : Nat → Int → Int → Prop) (s : Cst) : Prop where
  dl : s.depth.length = n
  el : s.emits.length = n
  m : ∀ j, s.depth.getD j (-1) ≠ -1 → M j (s.depth.getD j (-1)) (s.emits.getD j 0)
  z : ∀ j, s.depth.getD j (-1) = -1 → s.emits.getD j 0 = 0
theorem Real.come {l : List Ins} {M : Nat → Int → Int → Prop} (h : Closed l M) {s : Cst} (hr : Real l.length M s) {k : Nat} {d e : Int} (hm : M k d e) (hd : 0 ≤ d) : (come l.length s k d e).2 = true ∧ Real l.length M (come l.length s k d e).1 := by
  obtain ⟨h1, h2, h3, h4⟩ := h.ok k d e hm
  unfold Vm.come
  rw [if_neg (by omega)]
  by_cases hk : k = l.length
  · rw [if_pos hk]
    exact ⟨rfl, hr.dl, hr.el, hr.m, hr.z⟩
  rw [if_neg hk]
  have hkl : k < l.length := by omega
  have hone : ¬ (s.depth.getD k (-1) ≠ -1 ∧ s.depth.getD k (-1) ≠ d) := fun hh => hh.2 (h.one k _ _ _ _ (hr.m k hh.1) hm hkl)
  rw [if_neg hone]
  refine ⟨rfl, by simp [hr.dl], by simp [hr.el], fun j hj => ?_, fun j hj => ?_⟩
  · show M j ((s.depth.set k d).getD j (-1)) ((s.emits.set k (max (s.emits.getD k 0) e)).getD j 0)
    have hj' : (s.depth.set k d).getD j (-1) ≠ -1 := hj
    rw [getD_set] at hj' ⊢
    rw [getD_set]
    by_cases hjk : j = k
    · subst hjk
      rw [if_pos ⟨rfl, by rw [hr.dl]; exact hkl⟩, if_pos ⟨rfl, by rw [hr.el]; exact hkl⟩]
      by_cases hu : s.depth.getD j (-1) = -1
      · rw [hr.z j hu, show max 0 e = e by omega]; exact hm
      · have hd2 : s.depth.getD j (-1) = d := Classical.byContradiction fun x => hone ⟨hu, x⟩
        have := hr.m j hu
        rw [hd2] at this
        rcases Int.le_total (s.emits.getD j 0) e with x | x
        · rw [show max (s.emits.getD j 0) e = e by omega]; exact hm
        · rw [show max (s.emits.getD j 0) e = s.emits.getD j 0 by omega]; exact this
    · rw [if_neg (fun x => hjk x.1)] at hj' ⊢
      rw [if_neg (fun x => hjk x.1)]
      exact hr.m j hj'
  · show (s.emits.set k (max (s.emits.getD k 0) e)).getD j 0 = 0
    have hj' : (s.depth.set k d).getD j (-1) = -1 := hj
    rw [getD_set] at hj'
    rw [getD_set]
    by_cases hjk : j = k
    · subst hjk
      rw [if_pos ⟨rfl, by rw [hr.dl]; exact hkl⟩] at hj'
      omega
    · rw [if_neg (fun x => hjk x.1)] at hj' ⊢
      exact hr.z j hj'
theorem Real.comes {l : List Ins} {M : Nat → Int → Int → Prop} (h : Closed l M) {d e : Int} (hd : 0 ≤ d) : ∀ (bs : List Nat) {s : Cst}, Real l.length M s → (∀ a ∈ bs, M a d e) → (comes l.length d e bs s).2 = true ∧ Real l.length M (comes l.length d e bs s).1
  | [], s, hr, _ => ⟨rfl, hr⟩
  | a :: bs, s, hr, ha => by
    obtain ⟨h1, h2⟩ := hr.come h (ha a (List.mem_cons_self ..)) hd
    rw [Vm.comes, if_pos h1]
    exact Real.comes h hd bs h2 fun b hb => ha b (List.mem_cons_of_mem _ hb)
theorem Real.uses {n : Nat} {M : Nat → Int → Int → Prop} {s : Cst} (hr : Real n M s) (i : Ins) : Real n M (uses s i) := by
  have h1 := uses_depth s i
  have h2 := uses_emits s i
  exact ⟨by rw [h1]; exact hr.dl, by rw [h2]; exact hr.el, by rw [h1, h2]; exact hr.m, by rw [h1, h2]; exact hr.z⟩
theorem Real.step {l : List Ins} {M : Nat → Int → Int → Prop} (h : Closed l M) {s : Cst} (hr : Real l.length M s) {k : Nat} {i : Ins} (hi : l[k]? = some i) (hk : s.depth.getD k (-1) ≠ -1) : (stepC l s k i).2 = true ∧ Real l.length M (stepC l s k i).1 := by
  have hm := hr.m k hk
  have he := h.enough k _ _ i hm hi
  unfold stepC
  rw [if_neg (by omega)]
  exact (hr.uses i).comes h (by omega) (Vm.next l k i) fun a ha => h.next k _ _ i hm hi a ha
theorem goC_real {l : List Ins} {M : Nat → Int → Int → Prop} (h : Closed l M) : ∀ (r : List Ins) (k : Nat) (s : Cst), (∀ j i, r[j]? = some i → l[k + j]? = some i) → Real l.length M s → (goC l r k s).isSome = true
  | [], k, s, _, _ => rfl
  | i :: r, k, s, hl, hr => by
    have hi : l[k]? = some i := by have := hl 0 i rfl; rwa [Nat.add_zero] at this
    have hn : ∀ j i', r[j]? = some i' → l[k + 1 + j]? = some i' := fun j i' hj => by
      have := hl (j + 1) i' (by rw [List.getElem?_cons_succ]; exact hj)
      rwa [show k + (j + 1) = k + 1 + j by omega] at this
    rw [goC]
    split
    · rename_i hk
      obtain ⟨h1, h2⟩ := hr.step h hi hk
      rw [if_pos h1]
      exact goC_real h r (k + 1) _ hn h2
    · exact goC_real h r (k + 1) _ hn hr
theorem safe_of_closed {l : List Ins} (hf : Co.fitsI l = true) {M : Nat → Int → Int → Prop} (h : Closed l M) : safe l = true := by
  unfold safe checkC
  rw [if_pos hf]
  refine goC_real h l 0 (start l.length) (fun j i hj => by rwa [Nat.zero_add]) ?_
  have h0 : Real l.length M ⟨List.replicate l.length (-1), List.replicate l.length 0, 0, 0, false, false⟩ := by
    have e1 : ∀ j, (List.replicate l.length (-1 : Int)).getD j (-1) = -1 := fun j => by
      rw [List.getD_eq_getElem?_getD, List.getElem?_replicate]; split <;> rfl
    have e2 : ∀ j, (List.replicate l.length (0 : Int)).getD j 0 = 0 := fun j => by
      rw [List.getD_eq_getElem?_getD, List.getElem?_replicate]; split <;> rfl
    exact ⟨List.length_replicate, List.length_replicate, fun j hj => absurd (e1 j) hj, fun j _ => e2 j⟩
  exact (h0.come h h.zero (Int.le_refl _)).2

/-! ### and where it is safe, each way stays within what is known -/
def Snd (l : List Ins) (c : Cst) (k : Nat) (d e : Int) : Prop := 0 ≤ e ∧ d ≤ 8 ∧ e ≤ 4 ∧ k ≤ l.length ∧ (k < l.length → c.depth.getD k (-1) = d ∧ 0 ≤ d ∧ e ≤ c.emits.getD k 0)
theorem come_deep {n : Nat} {s : Cst} {k : Nat} {d e : Int} (hb : (come n s k d e).2 = true) : d ≤ 8 := by
  unfold come at hb
  split at hb
  · cases hb
  · omega
theorem comes_deep {n : Nat} {d e : Int} : ∀ (l : List Nat) (s : Cst), (comes n d e l s).2 = true → ∀ k ∈ l, d ≤ 8
  | [], s, _, k, hk => by cases hk
  | a :: l, s, hb, k, hk => by
    rw [comes] at hb
    split at hb
    · rename_i ha
      exact come_deep ha
    · cases hb
def DSound (p : List Ins) (c : Cst) (k : Nat) (i : Ins) : Prop := c.depth.getD k (-1) ≠ -1 → ∀ a ∈ next p k i, c.depth.getD k (-1) - takes i.1 + leaves i.1 ≤ 8
theorem goC_dsound {p : List Ins} {c : Cst} : ∀ (l : List Ins) (k : Nat) (s : Cst), goC p l k s = some c → k + l.length = p.length → ∀ j i, l[j]? = some i → DSound p c (k + j) i
  | [], _, s, _, _, j, i, hj => by simp at hj
  | i0 :: l, k, s, h, hl, j, i, hj => by
    rw [List.length_cons] at hl
    rw [goC] at h
    cases j with
    | succ j =>
      rw [List.getElem?_cons_succ] at hj
      have e : k + (j + 1) = k + 1 + j := by omega
      rw [e]
      split at h
      · split at h
        · exact goC_dsound l _ _ h (by omega) j i hj
        · cases h
      · exact goC_dsound l _ _ h (by omega) j i hj
    | zero =>
      rw [List.getElem?_cons_zero] at hj
      cases hj
      intro hk
      rw [Nat.add_zero] at hk ⊢
      split at h
      · rename_i hs
        split at h
        · rename_i hb
          have e1 : c.depth.getD k (-1) = s.depth.getD k (-1) := (goC_low l _ _ h (by omega) (by omega)).trans (stepC_low (by omega) (by omega))
          rw [e1]
          intro a ha
          unfold stepC at hb
          split at hb
          · cases hb
          · exact comes_deep (next p k i0) (uses s i0) hb a ha
        · cases h
      · rename_i hs
        exact absurd ((goC_low l _ _ h (by omega) (by omega)).trans (Classical.byContradiction fun x => hs x)) hk
theorem checkC_dsound {p : List Ins} {c : Cst} (h : checkC p = some c) {k : Nat} {i : Ins} (hi : p[k]? = some i) : DSound p c k i := by
  unfold checkC at h
  split at h
  · have := goC_dsound p 0 _ h (by omega) k i hi
    rwa [Nat.zero_add] at this
  · cases h
theorem snd_zero {l : List Ins} {c : Cst} (h : checkC l = some c) : Snd l c 0 0 0 :=
  ⟨Int.le_refl _, by decide, by decide, Nat.zero_le _, fun hl => ⟨checkC_zero h hl, Int.le_refl _, ((checkC_inv h).2 0).1⟩⟩
theorem snd_enough {l : List Ins} {c : Cst} (h : checkC l = some c) {k : Nat} {d e : Int} (hs : Snd l c k d e) {i : Ins} (hi : l[k]? = some i) : (takes i.1 : Int) ≤ d := by
  have hlt : k < l.length := (List.getElem?_eq_some_iff.1 hi).1
  obtain ⟨h1, h2, _⟩ := hs.2.2.2.2 hlt
  have := (checkC_sound h hi (by rw [h1]; omega)).1
  rwa [h1] at this
theorem next_le' {p : List Ins} {k : Nat} {i : Ins} (hk : k < p.length) : ∀ a ∈ next p k i, a ≤ p.length := by
  intro a ha
  unfold next at ha
  split at ha
  · cases ha
  split at ha
  · rw [List.mem_singleton] at ha; omega
  split at ha
  · rcases List.mem_cons.1 ha with e | e
    · omega
    · rw [List.mem_singleton] at e; omega
  · rw [List.mem_singleton] at ha; omega
theorem snd_next {l : List Ins} {c : Cst} (h : checkC l = some c) {k : Nat} {d e : Int} (hs : Snd l c k d e) {i : Ins} (hi : l[k]? = some i) : ∀ a ∈ next l k i, Snd l c a (d - takes i.1 + leaves i.1) (e + if i.1 = 14 then 1 else 0) := by
  intro a ha
  have hlt : k < l.length := (List.getElem?_eq_some_iff.1 hi).1
  obtain ⟨h1, h2, h3⟩ := hs.2.2.2.2 hlt
  have hk : c.depth.getD k (-1) ≠ -1 := by rw [h1]; omega
  obtain ⟨s1, s2⟩ := checkC_sound h hi hk
  obtain ⟨e1, e2⟩ := checkC_esound h hi hk a ha
  have d1 := checkC_dsound h hi hk a ha
  rw [h1] at s1 s2 d1
  have hp : (0 : Int) ≤ if i.1 = 14 then 1 else 0 := by split <;> decide
  have h0 := hs.1
  refine ⟨by omega, d1, by omega, next_le' hlt a ha, fun hal => ⟨s2 a ha hal, by omega, Int.le_trans (by omega) (e2 hal)⟩⟩
end Vm

/-! The document's machine: on right values it reckons as the program does. -/
namespace Vm
set_option linter.unusedSimpArgs false
set_option linter.unusedVariables false
open Ga

theorem right_parts {v : Val} (h : rightV v = true) : into v.1 = v.1 ∧ into v.2 = v.2 := by
  unfold rightV at h
  simp only [Bool.and_eq_true, decide_eq_true_eq] at h
  exact ⟨h.1.symm, h.2.symm⟩
def refTwo (op : Int) (x y : Val) : Val :=
  if op = 6 then addV x y else if op = 7 then subV x y else if op = 8 then mulV x y else (if x.1 < y.1 then 1 else 0, 0)
theorem into_zero : into 0 = 0 := into_id (by decide)
theorem into_one : into 1 = 1 := into_id (by decide)
theorem two_ref {op : Int} {x y : Val} (hx : rightV x = true) (hy : rightV y = true) : two op x y = refTwo op x y := by
  obtain ⟨a, b⟩ := x
  obtain ⟨c, d⟩ := y
  obtain ⟨h1, h2⟩ := right_parts hx
  obtain ⟨h3, h4⟩ := right_parts hy
  simp only at h1 h2 h3 h4
  unfold two refTwo addV subV mulV lessV
  simp only [h1, h2, h3, h4, into_zero, into_one, Int.zero_add, Int.one_mul, Int.zero_mul, Int.sub_zero, Int.add_zero, decide_eq_true_eq]
theorem conj_ref {v : Val} (h : rightV v = true) : conjV v = (into v.1, into (-v.2)) := by
  obtain ⟨h1, h2⟩ := right_parts h
  unfold conjV
  rw [into_into, h2]
theorem turn_ref {v : Val} (h : rightV v = true) : turnV v = (into (-v.2), into v.1) := by
  obtain ⟨h1, h2⟩ := right_parts h
  unfold turnV
  rw [h2]
  simp [into_into]
theorem zero_ref {v : Val} (h : rightV v = true) : zeroV v = decide (v = (0, 0)) := by
  obtain ⟨a, b⟩ := v
  obtain ⟨h1, h2⟩ := right_parts h
  simp only at h1 h2
  unfold zeroV
  simp [h1, h2, Prod.mk.injEq, Bool.decide_and]
end Vm

/-! forebayref05.take and leave. -/
namespace Go.Proofs.YtangapokicnfgaaGreat
set_option linter.unusedSimpArgs false
set_option linter.unusedVariables false
open Go.RowKit Ga
set_option maxRecDepth 100000

set_option maxHeartbeats 8000000 in
theorem take05_any (op : Int) (h0 : 0 ≤ op) (h1 : op ≤ 17) (w : World) : Calls Tryz.prog 79 #[.int .i64 op] w fun e w' => e = .returned (.int .i64 (takesI op)) ∧ w = w' := by
  have hc : op = 0 ∨ op = 1 ∨ op = 2 ∨ op = 3 ∨ op = 4 ∨ op = 5 ∨ op = 6 ∨ op = 7 ∨ op = 8 ∨ op = 9 ∨ op = 10 ∨ op = 11 ∨ op = 12 ∨ op = 13 ∨ op = 14 ∨ op = 15 ∨ op = 16 ∨ op = 17 := by omega
  clear h0 h1
  rcases hc with rfl | rfl | rfl | rfl | rfl | rfl | rfl | rfl | rfl | rfl | rfl | rfl | rfl | rfl | rfl | rfl | rfl | rfl
  all_goals
    go_enter Tryz.func79, Tryz.ntmps79
    go_wp2
    go_ret
    exact ⟨rfl, rfl⟩

set_option maxHeartbeats 8000000 in
theorem leave05_any (op : Int) (h0 : 0 ≤ op) (h1 : op ≤ 17) (w : World) : Calls Tryz.prog 80 #[.int .i64 op] w fun e w' => e = .returned (.int .i64 (leavesI op)) ∧ w = w' := by
  have hc : op = 0 ∨ op = 1 ∨ op = 2 ∨ op = 3 ∨ op = 4 ∨ op = 5 ∨ op = 6 ∨ op = 7 ∨ op = 8 ∨ op = 9 ∨ op = 10 ∨ op = 11 ∨ op = 12 ∨ op = 13 ∨ op = 14 ∨ op = 15 ∨ op = 16 ∨ op = 17 := by omega
  clear h0 h1
  rcases hc with rfl | rfl | rfl | rfl | rfl | rfl | rfl | rfl | rfl | rfl | rfl | rfl | rfl | rfl | rfl | rfl | rfl | rfl
  all_goals
    go_enter Tryz.func80, Tryz.ntmps80
    go_wp2
    go_ret
    exact ⟨rfl, rfl⟩
end Go.Proofs.YtangapokicnfgaaGreat
