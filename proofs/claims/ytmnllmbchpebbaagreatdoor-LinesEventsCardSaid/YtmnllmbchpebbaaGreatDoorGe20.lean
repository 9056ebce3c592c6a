import Derived.Test.YtmnllmbchpebbaaGreatDoorGe16
import Derived.Test.YtmnllmbchpebbaaGreatDoorGe8
/-! forebayref27: fits, List, Route, place, Right. -/
namespace Go.Proofs.YtmnllmbchpebbaaGreatDoor
set_option linter.unusedSimpArgs false
set_option linter.unusedVariables false
open Go.RowKit Ga
set_option maxRecDepth 100000

theorem digitsG_any (n : Int) (h : -9223372036854775808 ≤ n ∧ n ≤ 9223372036854775807) (w : World) : Calls Tryz.prog 19 #[.int .i64 n] w (Gives (str (Lib.itoa n)) w) :=
  (digits_any n h w).mono fun _ _ ⟨h1, h2⟩ => by subst h2; exact ⟨h1, Grew.refl _⟩
theorem fits27_any (x : Int) (w : World) : Calls Tryz.prog 91 #[.int .i64 x] w (Gives (.bool (Li.num x)) w) := by
  by_cases h1 : -1000000 ≤ x
  · by_cases h2 : x ≤ 1000000
    · have e : Li.num x = true := by unfold Li.num; simp; omega
      rw [e]
      go_enter Tryz.func91, Tryz.ntmps91
      go_wp2
      go_ret
      refine ⟨rfl, ?_⟩
      repeat (first | with_reducible exact Grew.refl _ | apply Grew.more | apply Grew.alloc | apply Grew.drew | apply Grew.drewN)
    · have e : Li.num x = false := by unfold Li.num; simp; omega
      rw [e]
      go_enter Tryz.func91, Tryz.ntmps91
      go_wp2
      go_ret
      refine ⟨rfl, ?_⟩
      repeat (first | with_reducible exact Grew.refl _ | apply Grew.more | apply Grew.alloc | apply Grew.drew | apply Grew.drewN)
  · have e : Li.num x = false := by unfold Li.num; simp; omega
    rw [e]
    go_enter Tryz.func91, Tryz.ntmps91
    go_wp2
    go_ret
    refine ⟨rfl, ?_⟩
    repeat (first | with_reducible exact Grew.refl _ | apply Grew.more | apply Grew.alloc | apply Grew.drew | apply Grew.drewN)
theorem join_snoc (xs : List (List UInt8)) (x sep : List UInt8) (h : xs ≠ []) : Lib.join (xs ++ [x]) sep = Lib.join xs sep ++ (sep ++ x) := by
  cases xs with
  | nil => exact absurd rfl h
  | cons y r => rw [List.cons_append, Lib.join_cons, Lib.join_cons]; simp [Lib.joinTail]
theorem listJ_len {l : List Int} (hl : ∀ x ∈ l, Li.num x = true) (h60 : l.length ≤ 60) : (Lib.join (l.map Lib.itoa) [44]).length ≤ 600 := by
  have := join_len (l.map Lib.itoa) [44] 8 fun x hx => by
    obtain ⟨n, hn2, rfl⟩ := List.mem_map.1 hx
    exact Li.itoa_len8 (hl n hn2)
  rw [List.length_map] at this
  have e : ([44] : List UInt8).length = 1 := rfl
  rw [e] at this
  omega
set_option maxHeartbeats 8000000 in
theorem list27_any (v : Value) (l : List Int) (w : World) (hf : IntsAt w v l) (hl : ∀ x ∈ l, Li.num x = true) (h60 : l.length ≤ 60) : Calls Tryz.prog 53 #[v] w (Gives (str (Li.listT l)) w) := by
  have HV := Lib.hid hf
  obtain ⟨a, cap, rfl, -, -⟩ := ints_open hf
  clear hf
  by_cases hn : l = []
  · subst hn
    clear HV hl h60
    show Calls Tryz.prog _ #[.slice a 0 cap] w _
    go_enter Tryz.func53, Tryz.ntmps53
    go_wp2
    go_ret
    exact ⟨rfl, by repeat (first | with_reducible exact Grew.refl _ | apply Grew.more | apply Grew.alloc | apply Grew.drew | apply Grew.drewN)⟩
  have hT : Li.listT l = Lib.join (l.map Lib.itoa) [44] := by unfold Li.listT; exact if_neg hn
  rw [hT]
  have hpos : 0 < l.length := List.length_pos_iff.2 hn
  have hzb : ((l.length : Int) == 0) = false := by rw [beq_eq_false_iff_ne]; omega
  have HJ : Hid (∀ k, (Lib.join ((l.take k).map Lib.itoa) [44]).length ≤ 600) := Lib.hid fun k => listJ_len (fun x hx => hl x (List.mem_of_mem_take hx)) (by rw [List.length_take]; omega)
  have HL := Lib.hid hl
  clear hT hn h60 hl
  obtain ⟨a0, cap0, e0, hml, hx0⟩ := ints_open HV.out
  cases e0
  obtain ⟨b, off, rfl, p0, c0⟩ := hx0 0 hpos
  rw [Nat.add_zero] at c0
  have HD0 := Lib.hid fun W => digitsG_any l[0] (num_range (HL.out _ (List.getElem_mem hpos))) W
  have HT0 : Hid (Lib.join ((l.take 1).map Lib.itoa) [44] = Lib.itoa l[0]) := Lib.hid (by
    cases l with
    | nil => simp at hpos
    | cons y r => simp [Lib.join_cons, Lib.joinTail])
  generalize l[0] = x0 at *
  clear hx0
  go_enter Tryz.func53, Tryz.ntmps53
  go_wp2_with (go_at_call 19; refine (HD0.out _).mono ?_; rintro e w1 ⟨rfl, R1, n1, rfl⟩)
  clear c0
  go_loopg [3, 4] l.length (fun gg s3 s4 wr => ∃ k : Nat, (1 ≤ k ∧ k ≤ l.length) ∧ l.length - k ≤ gg ∧ s4 = .int .i64 k ∧ s3 = str (Lib.join ((l.take k).map Lib.itoa) [44]) ∧ Hid (Grew w wr))
  case atStart => exact ⟨1, by omega, by omega, rfl, by rw [HT0.out], Lib.hid (by repeat (first | with_reducible exact Grew.refl _ | apply Grew.more | apply Grew.alloc | apply Grew.drew | apply Grew.drewN))⟩
  case round =>
    obtain ⟨k, hk, hgg, rfl, rfl, HG⟩ := hrel
    rename World => wa
    have HK := Lib.hid hk
    by_cases hlt : k < l.length
    · obtain ⟨a', cap', e, -, hx⟩ := ints_open (HV.out.grew HG.out)
      cases e
      obtain ⟨b1, off1, eb, p1, c1⟩ := hx k hlt
      cases eb
      have HT : Hid (Lib.join ((l.take (k + 1)).map Lib.itoa) [44] = Lib.join ((l.take k).map Lib.itoa) [44] ++ ([44] ++ Lib.itoa l[k])) := Lib.hid (by
        rw [List.take_succ_eq_append_getElem hlt, List.map_append, List.map_cons, List.map_nil, join_snoc]
        intro e
        have h2 := congrArg List.length e
        rw [List.length_map, List.length_take, List.length_nil] at h2
        omega)
      have HD := Lib.hid fun W => digitsG_any l[k] (num_range (HL.out _ (List.getElem_mem hlt))) W
      have hj1 := HJ.out k
      have l8 := Li.itoa_len8 (HL.out _ (List.getElem_mem hlt))
      clear hx hk
      generalize l[k] = x at *
      generalize Lib.join ((l.take k).map Lib.itoa) [44] = T at *
      generalize Lib.itoa x = it at *
      go_wp2_with (go_at_call 19; refine (HD.out _).mono ?_; rintro e w1 ⟨rfl, R2, n2, rfl⟩)
      go_roundg (l.length - (k + 1))
      case measure => omega
      case rel => exact ⟨k + 1, by omega, by omega, by go_num, by rw [HT.out]; exact congrArg Value.string (by simp [str_cat]), Lib.hid (HG.out.trans (by repeat (first | with_reducible exact Grew.refl _ | apply Grew.more | apply Grew.alloc | apply Grew.drew | apply Grew.drewN)))⟩
    · obtain rfl : k = l.length := by omega
      rw [List.take_length]
      generalize Lib.join (l.map Lib.itoa) [44] = T at *
      clear hk
      go_wp2
      go_ret
      exact ⟨rfl, HG.out.trans (by repeat (first | with_reducible exact Grew.refl _ | apply Grew.more | apply Grew.alloc | apply Grew.drew | apply Grew.drewN))⟩
theorem nd_route (c : NdC) (g : Nat) (h : g < 8) : (encNd c).toArray[5 + g]? = some (.int .i64 ([c.r0, c.r1, c.r2, c.r3, c.r4, c.r5, c.r6, c.r7] : List Int)[g]) := by
  rcases (show g = 0 ∨ g = 1 ∨ g = 2 ∨ g = 3 ∨ g = 4 ∨ g = 5 ∨ g = 6 ∨ g = 7 by omega) with rfl | rfl | rfl | rfl | rfl | rfl | rfl | rfl <;> rfl
theorem itoa_rbt {t : Int} (h : 0 ≤ t ∧ t < 3) : Lib.itoa t = [Li.rbt t] := by
  rcases (show t = 0 ∨ t = 1 ∨ t = 2 by omega) with rfl | rfl | rfl <;> decide +kernel
theorem rt_cell (r0 r1 r2 r3 r4 r5 r6 r7 : Int) (g : Nat) (h : g < ([r0, r1, r2, r3, r4, r5, r6, r7] : List Int).length) : (#[.int .i64 r0, .int .i64 r1, .int .i64 r2, .int .i64 r3, .int .i64 r4, .int .i64 r5, .int .i64 r6, .int .i64 r7] : Array Value)[g]? = some (.int .i64 ([r0, r1, r2, r3, r4, r5, r6, r7] : List Int)[g]) := by
  rcases (show g = 0 ∨ g = 1 ∨ g = 2 ∨ g = 3 ∨ g = 4 ∨ g = 5 ∨ g = 6 ∨ g = 7 by simp at h; omega) with rfl | rfl | rfl | rfl | rfl | rfl | rfl | rfl <;> rfl
set_option maxHeartbeats 8000000 in
theorem route27_any (r0 r1 r2 r3 r4 r5 r6 r7 : Int) (w : World) (hr : Li.rt3 [r0, r1, r2, r3, r4, r5, r6, r7] = true) : Calls Tryz.prog 95 #[.agg #[.int .i64 r0, .int .i64 r1, .int .i64 r2, .int .i64 r3, .int .i64 r4, .int .i64 r5, .int .i64 r6, .int .i64 r7]] w (Gives (str (Li.rtx [r0, r1, r2, r3, r4, r5, r6, r7])) w) := by
  have HR := Lib.hid (Li.rt3_iff.1 hr)
  have HC := Lib.hid (rt_cell r0 r1 r2 r3 r4 r5 r6 r7)
  have hl8 : ([r0, r1, r2, r3, r4, r5, r6, r7] : List Int).length = 8 := rfl
  have HBX := Lib.hid (heap_new_at w (.cells #[.int .i64 r0, .int .i64 r1, .int .i64 r2, .int .i64 r3, .int .i64 r4, .int .i64 r5, .int .i64 r6, .int .i64 r7] 40) _ rfl)
  clear hr
  go_enter Tryz.func95, Tryz.ntmps95
  go_wp2
  generalize (#[.int .i64 r0, .int .i64 r1, .int .i64 r2, .int .i64 r3, .int .i64 r4, .int .i64 r5, .int .i64 r6, .int .i64 r7] : Array Value) = cs at *
  generalize ([r0, r1, r2, r3, r4, r5, r6, r7] : List Int) = rl at *
  go_loopg [3, 4] 8 (fun gg s3 s4 wr => ∃ k : Nat, k ≤ 8 ∧ 8 - k ≤ gg ∧ s4 = .int .i64 k ∧ s3 = str (Li.rtx (rl.take k)) ∧ Hid (Grew (w.alloc (.cells cs 40)) wr))
  case atStart => exact ⟨0, by omega, by omega, rfl, rfl, Lib.hid (Grew.refl _)⟩
  case round =>
    obtain ⟨k, hk, hgg, rfl, rfl, HG⟩ := hrel
    rename World => wa
    have hbx2 := grew_heap HG.out HBX.out
    have px2 := Pre.mk (heap_lt hbx2)
    by_cases hlt : k < 8
    · have dg := cell_of (o := k) hbx2
      rw [HC.out k (by rw [hl8]; exact hlt)] at dg
      have hx := HR.out _ (List.getElem_mem (show k < rl.length by rw [hl8]; exact hlt))
      have HT : Hid (Li.rtx (rl.take (k + 1)) = Li.rtx (rl.take k) ++ [Li.rbt (rl[k]'(by rw [hl8]; exact hlt))]) := Lib.hid (by
        unfold Li.rtx
        rw [List.take_succ_eq_append_getElem (by rw [hl8]; exact hlt), List.map_append, List.map_cons, List.map_nil])
      have HD := Lib.hid fun W => digitsG_any (rl[k]'(by rw [hl8]; exact hlt)) (by omega) W
      rw [itoa_rbt hx] at HD
      have lT : (Li.rtx (rl.take k)).length ≤ 8 := by unfold Li.rtx; rw [List.length_map, List.length_take]; omega
      clear hbx2 hx
      generalize (rl[k]'(by rw [hl8]; exact hlt)) = x at *
      generalize Li.rtx (rl.take k) = T at *
      generalize Li.rbt x = rb at *
      go_wp2_with (go_at_call 19; refine (HD.out _).mono ?_; rintro e w1 ⟨rfl, R2, n2, rfl⟩)
      go_roundg (8 - (k + 1))
      case measure => omega
      case rel => exact ⟨k + 1, by omega, by omega, by go_num, by rw [HT.out]; exact congrArg Value.string (by simp [str_cat]), Lib.hid (HG.out.trans (by repeat (first | with_reducible exact Grew.refl _ | apply Grew.more | apply Grew.alloc | apply Grew.drew | apply Grew.drewN)))⟩
    · obtain rfl : k = 8 := by omega
      have e8 : rl.take 8 = rl := by rw [← hl8, List.take_length]
      rw [e8]
      generalize Li.rtx rl = T at *
      clear hbx2
      go_wp2
      go_ret
      exact ⟨rfl, Grew.trans (by repeat (first | with_reducible exact Grew.refl _ | apply Grew.more | apply Grew.alloc | apply Grew.drew | apply Grew.drewN)) HG.out⟩
set_option maxHeartbeats 8000000 in
theorem place27_any (id kd par r0 r1 r2 r3 r4 r5 r6 r7 : Int) (af ap : Option Addr) (nf cf np cp : Nat) (w : World) (hp : Li.num par = true) (hr : Li.rt3 [r0, r1, r2, r3, r4, r5, r6, r7] = true) : Calls Tryz.prog 52 #[.agg #[.int .i64 id, .int .i64 kd, .slice af nf cf, .slice ap np cp, .int .i64 par, .int .i64 r0, .int .i64 r1, .int .i64 r2, .int .i64 r3, .int .i64 r4, .int .i64 r5, .int .i64 r6, .int .i64 r7]] w (Gives (str (Lib.itoa par ++ 32 :: Li.rtx [r0, r1, r2, r3, r4, r5, r6, r7])) w) := by
  have HI := Lib.hid fun W => digitsG_any par (num_range hp) W
  have HT := Lib.hid fun W => route27_any r0 r1 r2 r3 r4 r5 r6 r7 W hr
  have l1 := Li.itoa_len8 hp
  have l2 : (Li.rtx [r0, r1, r2, r3, r4, r5, r6, r7]).length = 8 := rfl
  clear hp hr
  generalize Lib.itoa par = it at *
  generalize Li.rtx [r0, r1, r2, r3, r4, r5, r6, r7] = rt at *
  go_enter Tryz.func52, Tryz.ntmps52
  go_wp2_with fail
  refine wp_region_seq 9 Tryz.mixed (by kernel_rfl) (by kernel_rfl) ?_
  iterate 2
    apply Seq.val
    focus
      rintro w1 u ⟨R1, n1, rfl⟩ hF
      simp [moreFacts, Fact.more, Oper.deps, Region.binds, List.filter_cons, World.more_drew] at hF
      simp [putFacts, Oper.deps, Region.binds, List.filter_cons, Region.dstOf, Fact.at, Act.put, World.more_drew]
      go_wp2
      exact ⟨by repeat (first | with_reducible exact Grew.refl _ | apply Grew.more | apply Grew.alloc | apply Grew.drew | apply Grew.drewN), rfl, _, _, rfl, rfl, rfl⟩
  apply Seq.val
  focus
    rintro w1 u ⟨R1, n1, rfl⟩ hF
    simp [moreFacts, Fact.more, Oper.deps, Region.binds, List.filter_cons, World.more_drew] at hF
    simp [putFacts, Oper.deps, Region.binds, List.filter_cons, Region.dstOf, Fact.at, Act.put, World.more_drew]
    go_wp2_with (first
      | (go_at_call 19; refine (HI.out _).mono ?_; rintro e w1 ⟨rfl, R1, n1, rfl⟩)
      )
    exact ⟨by repeat (first | with_reducible exact Grew.refl _ | apply Grew.more | apply Grew.alloc | apply Grew.drew | apply Grew.drewN), rfl, _, _, rfl, rfl, rfl⟩
  iterate 3
    apply Seq.val
    focus
      rintro w1 u ⟨R1, n1, rfl⟩ hF
      simp [moreFacts, Fact.more, Oper.deps, Region.binds, List.filter_cons, World.more_drew] at hF
      simp [putFacts, Oper.deps, Region.binds, List.filter_cons, Region.dstOf, Fact.at, Act.put, World.more_drew]
      go_wp2
      exact ⟨by repeat (first | with_reducible exact Grew.refl _ | apply Grew.more | apply Grew.alloc | apply Grew.drew | apply Grew.drewN), rfl, _, _, rfl, rfl, rfl⟩
  apply Seq.val
  focus
    rintro w1 u ⟨R1, n1, rfl⟩ hF
    simp [moreFacts, Fact.more, Oper.deps, Region.binds, List.filter_cons, World.more_drew] at hF
    simp [putFacts, Oper.deps, Region.binds, List.filter_cons, Region.dstOf, Fact.at, Act.put, World.more_drew]
    go_wp2_with (first
      | (go_at_call 95; refine (HT.out _).mono ?_; rintro e w1 ⟨rfl, R3, n3, rfl⟩)
      )
    exact ⟨by repeat (first | with_reducible exact Grew.refl _ | apply Grew.more | apply Grew.alloc | apply Grew.drew | apply Grew.drewN), rfl, _, _, rfl, rfl, rfl⟩
  iterate 2
    apply Seq.val
    focus
      rintro w1 u ⟨R1, n1, rfl⟩ hF
      simp [moreFacts, Fact.more, Oper.deps, Region.binds, List.filter_cons, World.more_drew] at hF
      simp [putFacts, Oper.deps, Region.binds, List.filter_cons, Region.dstOf, Fact.at, Act.put, World.more_drew]
      go_wp2
      exact ⟨by repeat (first | with_reducible exact Grew.refl _ | apply Grew.more | apply Grew.alloc | apply Grew.drew | apply Grew.drewN), rfl, _, _, rfl, rfl, rfl⟩
  rintro u w1 ⟨R1, n1, rfl⟩ hF
  clear hF
  simp [putFacts, Region.dstOf, Fact.at, Act.put, List.range_succ, World.more_drew]
  go_wp2
  go_ret
  exact ⟨by simp [str_cat], by repeat (first | with_reducible exact Grew.refl _ | apply Grew.more | apply Grew.alloc | apply Grew.drew | apply Grew.drewN)⟩
set_option maxHeartbeats 32000000 in
theorem right27_any (c : NdC) (n : Gr.Nd) (w : World) (hn : NodeIs w c n) : Calls Tryz.prog 48 #[.agg #[.int .i64 c.id, .int .i64 c.kind, .slice c.af c.nf c.cf, .slice c.ap c.np c.cp, .int .i64 c.par, .int .i64 c.r0, .int .i64 c.r1, .int .i64 c.r2, .int .i64 c.r3, .int .i64 c.r4, .int .i64 c.r5, .int .i64 c.r6, .int .i64 c.r7]] w (Gives (.bool (Li.fitsN n)) w) := by
  have HV := Lib.hid hn.f
  obtain ⟨a1, c1, e1, hm1, -⟩ := ints_open hn.f
  have hF : Li.fitsN n = (Li.num c.id && (Li.num c.par && (decide (n.frm.length ≤ 60) && (Co.fitsI n.prog && (n.frm.all Li.num && Li.rt3 n.route))))) := by
    unfold Li.fitsN
    rw [hn.id, hn.par]
    cases Li.num c.id <;> cases Li.num c.par <;> cases n.frm.all Li.num <;> cases decide (n.frm.length ≤ 60) <;> cases Li.rt3 n.route <;> cases Co.fitsI n.prog <;> rfl
  rw [hF]
  clear hF
  have hrt := hn.route
  have HN1 := Lib.hid fun W => fits27_any c.id W
  have HN2 := Lib.hid fun W => fits27_any c.par W
  have HC := Lib.hid fun W (q : Grew w W) => refFits_any _ n.prog W (hn.p.grew q)
  rw [hrt]
  have HCR := Lib.hid (nd_route c)
  obtain ⟨id, kd, af, nf, cf, ap, np, cp, par, r0, r1, r2, r3, r4, r5, r6, r7⟩ := c
  cases e1
  clear hn hrt
  have hm2 : n.frm.length ≤ 9223372036854775807 := by omega
  clear hm1
  generalize Co.fitsI n.prog = q5 at *
  generalize Li.num id = q1 at *
  generalize Li.num par = q2 at *
  simp only at *
  generalize n.frm = fr at *
  have HBX := Lib.hid (heap_new_at w (.cells (encNd ⟨id, kd, af, fr.length, cf, ap, np, cp, par, r0, r1, r2, r3, r4, r5, r6, r7⟩).toArray 42) _ rfl)
  have HQ : Hid (q1 = true → q2 = true → fr.length ≤ 60 → q5 = true → (q1 && (q2 && (decide (fr.length ≤ 60) && (q5 && (fr.all Li.num && Li.rt3 [r0, r1, r2, r3, r4, r5, r6, r7]))))) = (fr.all Li.num && Li.rt3 [r0, r1, r2, r3, r4, r5, r6, r7])) := Lib.hid (by rintro rfl rfl h rfl; rw [decide_eq_true h]; rfl)
  have HQ2 : Hid (¬ (q1 = true ∧ q2 = true ∧ fr.length ≤ 60 ∧ q5 = true) → (q1 && (q2 && (decide (fr.length ≤ 60) && (q5 && (fr.all Li.num && Li.rt3 [r0, r1, r2, r3, r4, r5, r6, r7]))))) = false) := Lib.hid (by
    intro h
    cases hq1 : q1 <;> cases hq2 : q2 <;> cases hq5 : q5 <;> simp_all
    all_goals exact fun h2 => absurd h2 (by omega))
  generalize hres : (q1 && (q2 && (decide (fr.length ≤ 60) && (q5 && (fr.all Li.num && Li.rt3 [r0, r1, r2, r3, r4, r5, r6, r7]))))) = res at *
  clear hres
  by_cases hgo : q1 = true ∧ q2 = true ∧ fr.length ≤ 60 ∧ q5 = true
  case neg =>
    have hr := HQ2.out hgo
    have HR := Lib.hid hr
    have hd : decide (60 < (fr.length : Int)) = !decide (fr.length ≤ 60) := by
      by_cases h : fr.length ≤ 60
      · rw [decide_eq_true h, decide_eq_false (by omega)]; rfl
      · rw [decide_eq_false h, decide_eq_true (by omega)]; rfl
    have hb : q1 = true → q2 = true → decide (fr.length ≤ 60) = true → q5 = false := fun h1 h2 h3 => by
      cases q5
      · rfl
      · exact absurd ⟨h1, h2, of_decide_eq_true h3, rfl⟩ hgo
    clear hgo hr HQ HQ2 HBX HCR
    generalize decide (fr.length ≤ 60) = q3 at *
    cases q1
    · clear hb
      go_enter Tryz.func48, Tryz.ntmps48
      go_wp2_with (first
        | (go_at_call 91; refine (HN1.out _).mono ?_; rintro e w1 ⟨rfl, R1, n1, rfl⟩))
      go_ret
      exact ⟨by rw [HR.out]; rfl, by repeat (first | with_reducible exact Grew.refl _ | apply Grew.more | apply Grew.alloc | apply Grew.drew | apply Grew.drewN)⟩
    cases q2
    · clear hb
      go_enter Tryz.func48, Tryz.ntmps48
      go_wp2_with (first
        | (go_at_call 91; ((with_reducible refine (HN1.out _).mono ?_)); rintro e w1 ⟨rfl, R1, n1, rfl⟩)
        | (go_at_call 91; ((with_reducible refine (HN2.out _).mono ?_)); rintro e w1 ⟨rfl, R2, n2, rfl⟩))
      go_ret
      exact ⟨by rw [HR.out]; rfl, by repeat (first | with_reducible exact Grew.refl _ | apply Grew.more | apply Grew.alloc | apply Grew.drew | apply Grew.drewN)⟩
    cases q3
    · clear hb
      go_enter Tryz.func48, Tryz.ntmps48
      go_wp2_with (first
        | (go_at_call 91; ((with_reducible refine (HN1.out _).mono ?_)); rintro e w1 ⟨rfl, R1, n1, rfl⟩)
        | (go_at_call 91; ((with_reducible refine (HN2.out _).mono ?_)); rintro e w1 ⟨rfl, R2, n2, rfl⟩))
      go_ret
      exact ⟨by rw [HR.out]; rfl, by repeat (first | with_reducible exact Grew.refl _ | apply Grew.more | apply Grew.alloc | apply Grew.drew | apply Grew.drewN)⟩
    · have e5 := hb rfl rfl rfl
      subst e5
      clear hb
      go_enter Tryz.func48, Tryz.ntmps48
      go_wp2_with (first
        | (go_at_call 91; ((with_reducible refine (HN1.out _).mono ?_)); rintro e w1 ⟨rfl, R1, n1, rfl⟩)
        | (go_at_call 91; ((with_reducible refine (HN2.out _).mono ?_)); rintro e w1 ⟨rfl, R2, n2, rfl⟩)
        | (go_at_call 92; refine (HC.out _ (by repeat (first | with_reducible exact Grew.refl _ | apply Grew.more | apply Grew.alloc | apply Grew.drew | apply Grew.drewN))).mono ?_; rintro e w1 ⟨rfl, R4, n4, rfl⟩))
      go_ret
      exact ⟨by rw [HR.out]; rfl, by repeat (first | with_reducible exact Grew.refl _ | apply Grew.more | apply Grew.alloc | apply Grew.drew | apply Grew.drewN)⟩
  case pos =>
    have HR := Lib.hid (HQ.out hgo.1 hgo.2.1 hgo.2.2.1 hgo.2.2.2)
    obtain ⟨rfl, rfl, h60, rfl⟩ := hgo
    have hd : decide (60 < (fr.length : Int)) = false := decide_eq_false (by omega)
    clear HQ HQ2 h60
    go_enter Tryz.func48, Tryz.ntmps48
    go_wp2_with (first
      | (go_at_call 91; ((with_reducible refine (HN1.out _).mono ?_)); rintro e w1 ⟨rfl, R1, n1, rfl⟩)
      | (go_at_call 91; ((with_reducible refine (HN2.out _).mono ?_)); rintro e w1 ⟨rfl, R2, n2, rfl⟩)
      | (go_at_call 92; refine (HC.out _ (by repeat (first | with_reducible exact Grew.refl _ | apply Grew.more | apply Grew.alloc | apply Grew.drew | apply Grew.drewN))).mono ?_; rintro e w1 ⟨rfl, R4, n4, rfl⟩))
    go_loopg [3] fr.length (fun gg s3 wr => ∃ k : Nat, k ≤ fr.length ∧ fr.length - k ≤ gg ∧ s3 = .int .i64 k ∧ Hid (Grew (w.alloc (.cells #[.int .i64 id, .int .i64 kd, .slice af fr.length cf, .slice ap np cp, .int .i64 par, .int .i64 r0, .int .i64 r1, .int .i64 r2, .int .i64 r3, .int .i64 r4, .int .i64 r5, .int .i64 r6, .int .i64 r7] 42)) wr) ∧ Hid ((fr.take k).all Li.num = true))
    case atStart => exact ⟨0, by omega, by omega, rfl, Lib.hid (by repeat (first | with_reducible exact Grew.refl _ | apply Grew.more | apply Grew.alloc | apply Grew.drew | apply Grew.drewN)), Lib.hid rfl⟩
    case round =>
      obtain ⟨k, hk, hgg, rfl, HG, HA⟩ := hrel
      obtain ⟨R8, N8, rfl⟩ := HG.out
      by_cases hlt : k < fr.length
      · obtain ⟨a', cap', e, -, hx⟩ := ints_open (RowsAt.grew HV.out (show Grew w _ from by repeat (first | with_reducible exact Grew.refl _ | apply Grew.more | apply Grew.alloc | apply Grew.drew | apply Grew.drewN)))
        cases e
        obtain ⟨b, off, rfl, hb, c0⟩ := hx k hlt
        have HS := Lib.hid (take_all_succ (p := Li.num) hlt HA.out)
        have HF := Lib.hid (all_false_at (p := Li.num) hlt)
        clear hx
        generalize fr[k] = x at *
        cases hr : Li.num x
        all_goals
          have HRX := Lib.hid hr
          clear hr
          go_wp2_with (go_at_call 91; refine (fits27_any _ _).mono ?_; rintro e w1 ⟨rfl, R7, n7, rfl⟩; rw [HRX.out])
        · go_ret
          exact ⟨by rw [HR.out, HF.out HRX.out]; rfl, by repeat (first | with_reducible exact Grew.refl _ | apply Grew.more | apply Grew.alloc | apply Grew.drew | apply Grew.drewN)⟩
        · go_roundg (fr.length - (k + 1))
          case measure => omega
          case rel => exact ⟨k + 1, by omega, by omega, by go_num, Lib.hid (by repeat (first | with_reducible exact Grew.refl _ | apply Grew.more | apply Grew.alloc | apply Grew.drew | apply Grew.drewN)), Lib.hid (HS.out HRX.out)⟩
      obtain rfl : k = fr.length := by omega
      have hz := HA.out
      rw [List.take_length] at hz
      have HR3 : Hid (res = Li.rt3 [r0, r1, r2, r3, r4, r5, r6, r7]) := Lib.hid (by rw [HR.out, hz]; rfl)
      clear hz HA HR hlt hk hgg HG
      have HBY := Lib.hid (grew_heap (show Grew (w.alloc (.cells (encNd ⟨id, kd, af, fr.length, cf, ap, np, cp, par, r0, r1, r2, r3, r4, r5, r6, r7⟩).toArray 42)) _ from ⟨R8, N8, rfl⟩) HBX.out)
      have hg8 : Hid (Grew w ((w.alloc (.cells #[.int .i64 id, .int .i64 kd, .slice af fr.length cf, .slice ap np cp, .int .i64 par, .int .i64 r0, .int .i64 r1, .int .i64 r2, .int .i64 r3, .int .i64 r4, .int .i64 r5, .int .i64 r6, .int .i64 r7] 42)).more R8 N8)) := Lib.hid (by repeat (first | with_reducible exact Grew.refl _ | apply Grew.more | apply Grew.alloc | apply Grew.drew | apply Grew.drewN))
      go_wp2
      generalize hW8 : ((w.alloc (.cells #[.int .i64 id, .int .i64 kd, .slice af fr.length cf, .slice ap np cp, .int .i64 par, .int .i64 r0, .int .i64 r1, .int .i64 r2, .int .i64 r3, .int .i64 r4, .int .i64 r5, .int .i64 r6, .int .i64 r7] 42)).more R8 N8) = W8 at *
      have HBZ : Hid (W8.heap[w.heap.size]? = some (.cells (encNd ⟨id, kd, af, fr.length, cf, ap, np, cp, par, r0, r1, r2, r3, r4, r5, r6, r7⟩).toArray 42)) := Lib.hid (by rw [← hW8]; exact HBY.out)
      clear HBY hW8 HBX
      have HR4 : Hid (∀ g (h : g < ([r0, r1, r2, r3, r4, r5, r6, r7] : List Int).length), ¬ (0 ≤ ([r0, r1, r2, r3, r4, r5, r6, r7] : List Int)[g] ∧ ([r0, r1, r2, r3, r4, r5, r6, r7] : List Int)[g] < 3) → res = false) := Lib.hid fun g h hb => by
        rw [HR3.out, ← Bool.not_eq_true, Li.rt3_iff]
        exact fun q => hb (q _ (List.getElem_mem h))
      have HR5 : Hid ((∀ g (h : g < ([r0, r1, r2, r3, r4, r5, r6, r7] : List Int).length), 0 ≤ ([r0, r1, r2, r3, r4, r5, r6, r7] : List Int)[g] ∧ ([r0, r1, r2, r3, r4, r5, r6, r7] : List Int)[g] < 3) → res = true) := Lib.hid fun h => by
        rw [HR3.out, Li.rt3_iff]
        intro t ht
        obtain ⟨g, hg, rfl⟩ := List.mem_iff_getElem.1 ht
        exact h g hg
      have HCC : Hid (∀ g (h : g < ([r0, r1, r2, r3, r4, r5, r6, r7] : List Int).length), (encNd ⟨id, kd, af, fr.length, cf, ap, np, cp, par, r0, r1, r2, r3, r4, r5, r6, r7⟩).toArray[5 + g]? = some (.int .i64 ([r0, r1, r2, r3, r4, r5, r6, r7] : List Int)[g])) := Lib.hid fun g h => HCR.out g h
      have hl8 : ([r0, r1, r2, r3, r4, r5, r6, r7] : List Int).length = 8 := rfl
      clear HCR HR3
      generalize (encNd ⟨id, kd, af, fr.length, cf, ap, np, cp, par, r0, r1, r2, r3, r4, r5, r6, r7⟩).toArray = cs at *
      generalize ([r0, r1, r2, r3, r4, r5, r6, r7] : List Int) = rl at *
      go_loopg [4] 8 (fun gg s4 wr => ∃ g : Nat, g ≤ 8 ∧ 8 - g ≤ gg ∧ s4 = .int .i64 g ∧ Hid (Grew W8 wr) ∧ Hid (∀ j (hj : j < rl.length), j < g → 0 ≤ rl[j] ∧ rl[j] < 3))
      case atStart => exact ⟨0, by omega, by omega, rfl, Lib.hid (Grew.refl _), Lib.hid fun j _ h => by omega⟩
      case round =>
        obtain ⟨g, hg9, hgg, rfl, HGR, HNO⟩ := hrel
        rename World => wa
        have hbx2 := grew_heap HGR.out HBZ.out
        have px2 := Pre.mk (heap_lt hbx2)
        by_cases hlt : g < 8
        · have dg := cell_of (o := 5 + g) hbx2
          rw [HCC.out g (by rw [hl8]; exact hlt)] at dg
          have HBAD := Lib.hid (HR4.out g (by rw [hl8]; exact hlt))
          have HOK : Hid (∀ x, rl[g]'(by rw [hl8]; exact hlt) = x → 0 ≤ x ∧ x < 3 → ∀ j (hj : j < rl.length), j < g + 1 → 0 ≤ rl[j] ∧ rl[j] < 3) := Lib.hid fun x hx hb j hj h => by
            rcases Nat.lt_or_ge j g with h1 | h1
            · exact HNO.out j hj h1
            · obtain rfl : j = g := by omega
              rw [hx]; exact hb
          have HOX := Lib.hid (HOK.out _ rfl)
          clear hbx2 HOK
          generalize (rl[g]'(by rw [hl8]; exact hlt)) = x at *
          by_cases x0 : x < 0
          · have hr := HBAD.out (by omega)
            have HQ := Lib.hid hr
            clear hr
            go_wp2
            go_ret
            exact ⟨by rw [HQ.out]; rfl, hg8.out.trans (HGR.out.trans (by repeat (first | with_reducible exact Grew.refl _ | apply Grew.more | apply Grew.alloc | apply Grew.drew | apply Grew.drewN)))⟩
          by_cases x2 : 2 < x
          · have hr := HBAD.out (by omega)
            have HQ := Lib.hid hr
            clear hr
            go_wp2
            go_ret
            exact ⟨by rw [HQ.out]; rfl, hg8.out.trans (HGR.out.trans (by repeat (first | with_reducible exact Grew.refl _ | apply Grew.more | apply Grew.alloc | apply Grew.drew | apply Grew.drewN)))⟩
          · have HOX2 := Lib.hid (HOX.out (by omega))
            go_wp2
            go_roundg (8 - (g + 1))
            case measure => omega
            case rel => exact ⟨g + 1, by omega, by omega, by go_num, Lib.hid (HGR.out.trans (by repeat (first | with_reducible exact Grew.refl _ | apply Grew.more | apply Grew.alloc | apply Grew.drew | apply Grew.drewN))), Lib.hid HOX2.out⟩
        · obtain rfl : g = 8 := by omega
          have HQ := Lib.hid (HR5.out fun j hj => HNO.out j hj (by rw [← hl8]; exact hj))
          clear hbx2
          go_wp2
          go_ret
          exact ⟨by rw [HQ.out]; rfl, hg8.out.trans HGR.out⟩
end Go.Proofs.YtmnllmbchpebbaaGreatDoor

/-! forebayref27.Node. -/
namespace Go.Proofs.YtmnllmbchpebbaaGreatDoor
set_option linter.unusedSimpArgs false
set_option linter.unusedVariables false
open Go.RowKit Ga
set_option maxRecDepth 100000

set_option maxHeartbeats 32000000 in
theorem node27_any (c : NdC) (n : Gr.Nd) (w : World) (hn : NodeIs w c n) : Calls Tryz.prog 51 #[.agg #[.int .i64 c.id, .int .i64 c.kind, .slice c.af c.nf c.cf, .slice c.ap c.np c.cp, .int .i64 c.par, .int .i64 c.r0, .int .i64 c.r1, .int .i64 c.r2, .int .i64 c.r3, .int .i64 c.r4, .int .i64 c.r5, .int .i64 c.r6, .int .i64 c.r7]] w (Gives (str (Li.nodeT n)) w) := by
  have HF := Lib.hid fun W (q : Grew w W) => right27_any c n W (hn.grew q)
  cases hf : Li.fitsN n
  · have hT : Li.nodeT n = [] := by unfold Li.nodeT; rw [hf]; simp
    rw [hT]
    rw [hf] at HF
    obtain ⟨id, kd, af, nf, cf, ap, np, cp, par, r0, r1, r2, r3, r4, r5, r6, r7⟩ := c
    clear hn hT hf
    go_enter Tryz.func51, Tryz.ntmps51
    go_wp2_with (go_at_call 48; refine (HF.out _ (by repeat (first | with_reducible exact Grew.refl _ | apply Grew.more | apply Grew.alloc | apply Grew.drew | apply Grew.drewN))).mono ?_; rintro e w1 ⟨rfl, R1, n1, rfl⟩)
    go_ret
    exact ⟨rfl, by repeat (first | with_reducible exact Grew.refl _ | apply Grew.more | apply Grew.alloc | apply Grew.drew | apply Grew.drewN)⟩
  rw [hf] at HF
  have hN := fitN hf
  have hrt := hN.rt
  rw [hn.route] at hrt
  have hpar := hN.par
  rw [hn.par] at hpar
  have hid := hN.id
  rw [hn.id] at hid
  have HI := Lib.hid fun W (q : Grew w W) => digitsG_any c.id (num_range hid) W
  have HL := Lib.hid fun W (q : Grew w W) => list27_any c.vf n.frm W (hn.f.grew q) hN.frm hN.l60
  have HPL := Lib.hid fun W (q : Grew w W) => place27_any c.id c.kind c.par c.r0 c.r1 c.r2 c.r3 c.r4 c.r5 c.r6 c.r7 c.af c.ap c.nf c.cf c.np c.cp W hpar hrt
  have HT := Lib.hid fun W (q : Grew w W) => codeRefText_any c.vp n.prog W (hn.p.grew q) hN.pr
  have l1 := Li.itoa_len8 hid
  have l2 := listT_len hN.frm hN.l60
  have l3 := textI_len400 hN.pr
  have l60 := hN.l60
  have l24 := (Co.fits_parts hN.pr).1
  have l4 : (Lib.itoa c.par ++ 32 :: Li.rtx [c.r0, c.r1, c.r2, c.r3, c.r4, c.r5, c.r6, c.r7]).length ≤ 20 := by
    have := Li.itoa_len8 hpar
    have := rtx_len8 c.r0 c.r1 c.r2 c.r3 c.r4 c.r5 c.r6 c.r7
    simp only [List.length_append, List.length_cons]
    omega
  have hNT : Li.nodeT n = if n.kind = 0 ∧ n.frm = [] ∧ n.prog = [] then Lib.itoa c.id ++ 32 :: (Li.sSOURCE ++ 32 :: Li.placeT n)
    else if n.kind = 1 then Lib.itoa c.id ++ 32 :: (Li.sOP ++ 32 :: (Li.listT n.frm ++ 32 :: (Li.placeT n ++ (Li.behind ++ Co.textI n.prog))))
    else if n.kind = 2 ∧ n.prog = [] then Lib.itoa c.id ++ 32 :: (Li.sSINK ++ 32 :: (Li.listT n.frm ++ 32 :: Li.placeT n))
    else [] := by
      unfold Li.nodeT
      rw [if_pos hf, hn.id]
  have hPT : Li.placeT n = Lib.itoa c.par ++ 32 :: Li.rtx [c.r0, c.r1, c.r2, c.r3, c.r4, c.r5, c.r6, c.r7] := by
    unfold Li.placeT
    rw [hn.par, hn.route]
  rw [hPT, hn.kind] at hNT
  obtain ⟨a1, c1, e1, hm1, -⟩ := ints_open hn.f
  obtain ⟨a2, c2, e2, hm2, -⟩ := hn.p.open2
  obtain ⟨id, kd, af, nf, cf, ap, np, cp, par, r0, r1, r2, r3, r4, r5, r6, r7⟩ := c
  cases e1
  cases e2
  have hfl : n.frm = [] ↔ n.frm.length = 0 := List.length_eq_zero_iff.symm
  have hpl : n.prog = [] ↔ n.prog.length = 0 := List.length_eq_zero_iff.symm
  simp only [hfl, hpl] at hNT
  rw [hNT]
  clear hn hN hrt hpar hid hNT hPT hf hfl hpl
  simp only at *
  generalize Lib.itoa id = it at *
  generalize Li.listT n.frm = lt at *
  generalize Co.textI n.prog = ct at *
  generalize Lib.itoa par ++ 32 :: Li.rtx [r0, r1, r2, r3, r4, r5, r6, r7] = pt at *
  generalize n.frm.length = nf at *
  generalize n.prog.length = np at *
  rcases (show (kd = 0 ∧ nf = 0 ∧ np = 0) ∨ (kd = 0 ∧ ¬ (nf = 0 ∧ np = 0)) ∨ kd = 1 ∨ (kd = 2 ∧ np = 0) ∨ (kd = 2 ∧ np ≠ 0) ∨ (kd ≠ 0 ∧ kd ≠ 1 ∧ kd ≠ 2) by omega) with ⟨rfl, rfl, rfl⟩ | ⟨rfl, h1⟩ | rfl | ⟨rfl, rfl⟩ | ⟨rfl, h1⟩ | ⟨h1, h2, h3⟩
  · rw [if_pos (by simp)]
    go_enter Tryz.func51, Tryz.ntmps51
    go_wp2_with (first
      | (go_at_call 48; refine (HF.out _ (by repeat (first | with_reducible exact Grew.refl _ | apply Grew.more | apply Grew.alloc | apply Grew.drew | apply Grew.drewN))).mono ?_; rintro e w1 ⟨rfl, R1, n1, rfl⟩)
      | (go_at_call 19; refine (HI.out _ (by repeat (first | with_reducible exact Grew.refl _ | apply Grew.more | apply Grew.alloc | apply Grew.drew | apply Grew.drewN))).mono ?_; rintro e w1 ⟨rfl, R2, n2, rfl⟩)
      | (go_at_call 52; refine (HPL.out _ (by repeat (first | with_reducible exact Grew.refl _ | apply Grew.more | apply Grew.alloc | apply Grew.drew | apply Grew.drewN))).mono ?_; rintro e w1 ⟨rfl, R4, n4, rfl⟩))
    go_ret
    exact ⟨by simp [str_cat, Li.sSOURCE], by repeat (first | with_reducible exact Grew.refl _ | apply Grew.more | apply Grew.alloc | apply Grew.drew | apply Grew.drewN)⟩
  · rw [if_neg (by omega), if_neg (by omega), if_neg (by omega)]
    by_cases hnf : nf = 0
    · subst hnf
      have h1b : ((np : Int) == 0) = false := by rw [beq_eq_false_iff_ne]; omega
      go_enter Tryz.func51, Tryz.ntmps51
      go_wp2_with (first
        | (go_at_call 48; refine (HF.out _ (by repeat (first | with_reducible exact Grew.refl _ | apply Grew.more | apply Grew.alloc | apply Grew.drew | apply Grew.drewN))).mono ?_; rintro e w1 ⟨rfl, R1, n1, rfl⟩)
        | (go_at_call 19; refine (HI.out _ (by repeat (first | with_reducible exact Grew.refl _ | apply Grew.more | apply Grew.alloc | apply Grew.drew | apply Grew.drewN))).mono ?_; rintro e w1 ⟨rfl, R2, n2, rfl⟩))
      go_ret
      exact ⟨rfl, by repeat (first | with_reducible exact Grew.refl _ | apply Grew.more | apply Grew.alloc | apply Grew.drew | apply Grew.drewN)⟩
    · have h1b : ((nf : Int) == 0) = false := by rw [beq_eq_false_iff_ne]; omega
      go_enter Tryz.func51, Tryz.ntmps51
      go_wp2_with (first
        | (go_at_call 48; refine (HF.out _ (by repeat (first | with_reducible exact Grew.refl _ | apply Grew.more | apply Grew.alloc | apply Grew.drew | apply Grew.drewN))).mono ?_; rintro e w1 ⟨rfl, R1, n1, rfl⟩)
        | (go_at_call 19; refine (HI.out _ (by repeat (first | with_reducible exact Grew.refl _ | apply Grew.more | apply Grew.alloc | apply Grew.drew | apply Grew.drewN))).mono ?_; rintro e w1 ⟨rfl, R2, n2, rfl⟩))
      go_ret
      exact ⟨rfl, by repeat (first | with_reducible exact Grew.refl _ | apply Grew.more | apply Grew.alloc | apply Grew.drew | apply Grew.drewN)⟩
  · rw [if_neg (by omega), if_pos rfl]
    go_enter Tryz.func51, Tryz.ntmps51
    go_wp2_with (first
      | (go_at_call 48; refine (HF.out _ (by repeat (first | with_reducible exact Grew.refl _ | apply Grew.more | apply Grew.alloc | apply Grew.drew | apply Grew.drewN))).mono ?_; rintro e w1 ⟨rfl, R1, n1, rfl⟩)
      | (go_at_call 19; refine (HI.out _ (by repeat (first | with_reducible exact Grew.refl _ | apply Grew.more | apply Grew.alloc | apply Grew.drew | apply Grew.drewN))).mono ?_; rintro e w1 ⟨rfl, R2, n2, rfl⟩)
      | fail)
    refine wp_region_seq 16 Tryz.mixed (by kernel_rfl) (by kernel_rfl) ?_
    iterate 4
      apply Seq.val
      focus
        rintro w1 u ⟨R1, n1, rfl⟩ hF
        simp [moreFacts, Fact.more, Oper.deps, Region.binds, List.filter_cons, World.more_drew] at hF
        simp [putFacts, Oper.deps, Region.binds, List.filter_cons, Region.dstOf, Fact.at, Act.put, World.more_drew]
        go_wp2
        exact ⟨by repeat (first | with_reducible exact Grew.refl _ | apply Grew.more | apply Grew.alloc | apply Grew.drew | apply Grew.drewN), rfl, _, _, rfl, rfl, rfl⟩
    apply Seq.val
    focus
      rintro w1 u ⟨R1, n1, rfl⟩ hF
      simp [moreFacts, Fact.more, Oper.deps, Region.binds, List.filter_cons, World.more_drew] at hF
      simp [putFacts, Oper.deps, Region.binds, List.filter_cons, Region.dstOf, Fact.at, Act.put, World.more_drew]
      go_wp2_with (first
        | (go_at_call 53; refine (HL.out _ (by repeat (first | with_reducible exact Grew.refl _ | apply Grew.more | apply Grew.alloc | apply Grew.drew | apply Grew.drewN))).mono ?_; rintro e w1 ⟨rfl, R3, n3, rfl⟩)
        )
      exact ⟨by repeat (first | with_reducible exact Grew.refl _ | apply Grew.more | apply Grew.alloc | apply Grew.drew | apply Grew.drewN), rfl, _, _, rfl, rfl, rfl⟩
    iterate 3
      apply Seq.val
      focus
        rintro w1 u ⟨R1, n1, rfl⟩ hF
        simp [moreFacts, Fact.more, Oper.deps, Region.binds, List.filter_cons, World.more_drew] at hF
        simp [putFacts, Oper.deps, Region.binds, List.filter_cons, Region.dstOf, Fact.at, Act.put, World.more_drew]
        go_wp2
        exact ⟨by repeat (first | with_reducible exact Grew.refl _ | apply Grew.more | apply Grew.alloc | apply Grew.drew | apply Grew.drewN), rfl, _, _, rfl, rfl, rfl⟩
    apply Seq.val
    focus
      rintro w1 u ⟨R1, n1, rfl⟩ hF
      simp [moreFacts, Fact.more, Oper.deps, Region.binds, List.filter_cons, World.more_drew] at hF
      simp [putFacts, Oper.deps, Region.binds, List.filter_cons, Region.dstOf, Fact.at, Act.put, World.more_drew]
      go_wp2_with (first
        | (go_at_call 52; refine (HPL.out _ (by repeat (first | with_reducible exact Grew.refl _ | apply Grew.more | apply Grew.alloc | apply Grew.drew | apply Grew.drewN))).mono ?_; rintro e w1 ⟨rfl, R4, n4, rfl⟩)
        )
      exact ⟨by repeat (first | with_reducible exact Grew.refl _ | apply Grew.more | apply Grew.alloc | apply Grew.drew | apply Grew.drewN), rfl, _, _, rfl, rfl, rfl⟩
    iterate 4
      apply Seq.val
      focus
        rintro w1 u ⟨R1, n1, rfl⟩ hF
        simp [moreFacts, Fact.more, Oper.deps, Region.binds, List.filter_cons, World.more_drew] at hF
        simp [putFacts, Oper.deps, Region.binds, List.filter_cons, Region.dstOf, Fact.at, Act.put, World.more_drew]
        go_wp2
        exact ⟨by repeat (first | with_reducible exact Grew.refl _ | apply Grew.more | apply Grew.alloc | apply Grew.drew | apply Grew.drewN), rfl, _, _, rfl, rfl, rfl⟩
    apply Seq.val
    focus
      rintro w1 u ⟨R1, n1, rfl⟩ hF
      simp [moreFacts, Fact.more, Oper.deps, Region.binds, List.filter_cons, World.more_drew] at hF
      simp [putFacts, Oper.deps, Region.binds, List.filter_cons, Region.dstOf, Fact.at, Act.put, World.more_drew]
      go_wp2_with (first
        | (go_at_call 50; refine (HT.out _ (by repeat (first | with_reducible exact Grew.refl _ | apply Grew.more | apply Grew.alloc | apply Grew.drew | apply Grew.drewN))).mono ?_; rintro e w1 ⟨rfl, R5, n5, rfl⟩)
        )
      exact ⟨by repeat (first | with_reducible exact Grew.refl _ | apply Grew.more | apply Grew.alloc | apply Grew.drew | apply Grew.drewN), rfl, _, _, rfl, rfl, rfl⟩
    iterate 2
      apply Seq.val
      focus
        rintro w1 u ⟨R1, n1, rfl⟩ hF
        simp [moreFacts, Fact.more, Oper.deps, Region.binds, List.filter_cons, World.more_drew] at hF
        simp [putFacts, Oper.deps, Region.binds, List.filter_cons, Region.dstOf, Fact.at, Act.put, World.more_drew]
        go_wp2
        exact ⟨by repeat (first | with_reducible exact Grew.refl _ | apply Grew.more | apply Grew.alloc | apply Grew.drew | apply Grew.drewN), rfl, _, _, rfl, rfl, rfl⟩
    rintro u w1 ⟨R1, n1, rfl⟩ hF
    clear hF
    simp [putFacts, Region.dstOf, Fact.at, Act.put, List.range_succ, World.more_drew]
    go_wp2
    go_ret
    exact ⟨by simp [str_cat, Li.sOP, Li.behind], by repeat (first | with_reducible exact Grew.refl _ | apply Grew.more | apply Grew.alloc | apply Grew.drew | apply Grew.drewN)⟩
  · rw [if_neg (by omega), if_neg (by omega), if_pos (by simp)]
    go_enter Tryz.func51, Tryz.ntmps51
    go_wp2_with (first
      | (go_at_call 48; refine (HF.out _ (by repeat (first | with_reducible exact Grew.refl _ | apply Grew.more | apply Grew.alloc | apply Grew.drew | apply Grew.drewN))).mono ?_; rintro e w1 ⟨rfl, R1, n1, rfl⟩)
      | (go_at_call 19; refine (HI.out _ (by repeat (first | with_reducible exact Grew.refl _ | apply Grew.more | apply Grew.alloc | apply Grew.drew | apply Grew.drewN))).mono ?_; rintro e w1 ⟨rfl, R2, n2, rfl⟩)
      | fail)
    refine wp_region_seq 11 Tryz.mixed (by kernel_rfl) (by kernel_rfl) ?_
    iterate 4
      apply Seq.val
      focus
        rintro w1 u ⟨R1, n1, rfl⟩ hF
        simp [moreFacts, Fact.more, Oper.deps, Region.binds, List.filter_cons, World.more_drew] at hF
        simp [putFacts, Oper.deps, Region.binds, List.filter_cons, Region.dstOf, Fact.at, Act.put, World.more_drew]
        go_wp2
        exact ⟨by repeat (first | with_reducible exact Grew.refl _ | apply Grew.more | apply Grew.alloc | apply Grew.drew | apply Grew.drewN), rfl, _, _, rfl, rfl, rfl⟩
    apply Seq.val
    focus
      rintro w1 u ⟨R1, n1, rfl⟩ hF
      simp [moreFacts, Fact.more, Oper.deps, Region.binds, List.filter_cons, World.more_drew] at hF
      simp [putFacts, Oper.deps, Region.binds, List.filter_cons, Region.dstOf, Fact.at, Act.put, World.more_drew]
      go_wp2_with (first
        | (go_at_call 53; refine (HL.out _ (by repeat (first | with_reducible exact Grew.refl _ | apply Grew.more | apply Grew.alloc | apply Grew.drew | apply Grew.drewN))).mono ?_; rintro e w1 ⟨rfl, R3, n3, rfl⟩)
        )
      exact ⟨by repeat (first | with_reducible exact Grew.refl _ | apply Grew.more | apply Grew.alloc | apply Grew.drew | apply Grew.drewN), rfl, _, _, rfl, rfl, rfl⟩
    iterate 3
      apply Seq.val
      focus
        rintro w1 u ⟨R1, n1, rfl⟩ hF
        simp [moreFacts, Fact.more, Oper.deps, Region.binds, List.filter_cons, World.more_drew] at hF
        simp [putFacts, Oper.deps, Region.binds, List.filter_cons, Region.dstOf, Fact.at, Act.put, World.more_drew]
        go_wp2
        exact ⟨by repeat (first | with_reducible exact Grew.refl _ | apply Grew.more | apply Grew.alloc | apply Grew.drew | apply Grew.drewN), rfl, _, _, rfl, rfl, rfl⟩
    apply Seq.val
    focus
      rintro w1 u ⟨R1, n1, rfl⟩ hF
      simp [moreFacts, Fact.more, Oper.deps, Region.binds, List.filter_cons, World.more_drew] at hF
      simp [putFacts, Oper.deps, Region.binds, List.filter_cons, Region.dstOf, Fact.at, Act.put, World.more_drew]
      go_wp2_with (first
        | (go_at_call 52; refine (HPL.out _ (by repeat (first | with_reducible exact Grew.refl _ | apply Grew.more | apply Grew.alloc | apply Grew.drew | apply Grew.drewN))).mono ?_; rintro e w1 ⟨rfl, R4, n4, rfl⟩)
        )
      exact ⟨by repeat (first | with_reducible exact Grew.refl _ | apply Grew.more | apply Grew.alloc | apply Grew.drew | apply Grew.drewN), rfl, _, _, rfl, rfl, rfl⟩
    iterate 2
      apply Seq.val
      focus
        rintro w1 u ⟨R1, n1, rfl⟩ hF
        simp [moreFacts, Fact.more, Oper.deps, Region.binds, List.filter_cons, World.more_drew] at hF
        simp [putFacts, Oper.deps, Region.binds, List.filter_cons, Region.dstOf, Fact.at, Act.put, World.more_drew]
        go_wp2
        exact ⟨by repeat (first | with_reducible exact Grew.refl _ | apply Grew.more | apply Grew.alloc | apply Grew.drew | apply Grew.drewN), rfl, _, _, rfl, rfl, rfl⟩
    rintro u w1 ⟨R1, n1, rfl⟩ hF
    clear hF
    simp [putFacts, Region.dstOf, Fact.at, Act.put, List.range_succ, World.more_drew]
    go_wp2
    go_ret
    exact ⟨by simp [str_cat, Li.sSINK], by repeat (first | with_reducible exact Grew.refl _ | apply Grew.more | apply Grew.alloc | apply Grew.drew | apply Grew.drewN)⟩
  · rw [if_neg (by omega), if_neg (by omega), if_neg (by omega)]
    have h1b : ¬ ((np : Int) = 0) := by omega
    go_enter Tryz.func51, Tryz.ntmps51
    go_wp2_with (first
      | (go_at_call 48; refine (HF.out _ (by repeat (first | with_reducible exact Grew.refl _ | apply Grew.more | apply Grew.alloc | apply Grew.drew | apply Grew.drewN))).mono ?_; rintro e w1 ⟨rfl, R1, n1, rfl⟩)
      | (go_at_call 19; refine (HI.out _ (by repeat (first | with_reducible exact Grew.refl _ | apply Grew.more | apply Grew.alloc | apply Grew.drew | apply Grew.drewN))).mono ?_; rintro e w1 ⟨rfl, R2, n2, rfl⟩))
    go_ret
    exact ⟨rfl, by repeat (first | with_reducible exact Grew.refl _ | apply Grew.more | apply Grew.alloc | apply Grew.drew | apply Grew.drewN)⟩
  · rw [if_neg (by omega), if_neg (by omega), if_neg (by omega)]
    go_enter Tryz.func51, Tryz.ntmps51
    go_wp2_with (first
      | (go_at_call 48; refine (HF.out _ (by repeat (first | with_reducible exact Grew.refl _ | apply Grew.more | apply Grew.alloc | apply Grew.drew | apply Grew.drewN))).mono ?_; rintro e w1 ⟨rfl, R1, n1, rfl⟩)
      | (go_at_call 19; refine (HI.out _ (by repeat (first | with_reducible exact Grew.refl _ | apply Grew.more | apply Grew.alloc | apply Grew.drew | apply Grew.drewN))).mono ?_; rintro e w1 ⟨rfl, R2, n2, rfl⟩))
    go_ret
    exact ⟨rfl, by repeat (first | with_reducible exact Grew.refl _ | apply Grew.more | apply Grew.alloc | apply Grew.drew | apply Grew.drewN)⟩
end Go.Proofs.YtmnllmbchpebbaaGreatDoor
