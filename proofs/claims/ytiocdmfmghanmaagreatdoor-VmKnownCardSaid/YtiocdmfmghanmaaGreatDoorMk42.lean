import Derived.Test.YtiocdmfmghanmaaGreatDoorMk40
import Derived.Test.YtiocdmfmghanmaaGreatDoorMk41
/-! The law VmBounds, walked. -/
namespace Go.Proofs.YtiocdmfmghanmaaGreatDoor
set_option linter.unusedSimpArgs false
set_option linter.unusedVariables false
open Go.RowKit Ga
set_option maxRecDepth 100000

theorem run_eql_val (x y p q : Int) (b : Bool) (hb : b = (decide (x = p) && decide (y = q))) (w : World) : (binOp .eql 24 (.agg #[.int .i64 x, .int .i64 y]) (.agg #[.int .i64 p, .int .i64 q])).run Tryz.prog w = .ok (.bool b) w := by
  subst hb
  by_cases h1 : x = p <;> by_cases h2 : y = q <;> simp [go_sem, h1, h2, Tryz.underlying24, Tryz.underlying3]

set_option maxHeartbeats 2000000 in
theorem right06_any (x y : Int) (w : World) : Calls Tryz.prog 10 #[.agg #[.int .i64 x, .int .i64 y]] w (Gives (.bool (rightV (x, y))) w) := by
  have hq := run_eql_val (into x) (into y) x y (rightV (x, y)) (by unfold rightV; simp only [eq_comm])
  go_enter Tryz.func10, Tryz.ntmps10
  go_wp2
  refine wp_region_seq 8 Tryz.mixed (by kernel_rfl) (by kernel_rfl) ?_
  iterate 8
    apply Seq.val
    focus
      rintro w1 u ⟨R1, n1, rfl⟩ hF
      simp [moreFacts, Fact.more, Oper.deps, Region.binds, List.filter_cons, World.more_drew] at hF
      simp [putFacts, Oper.deps, Region.binds, List.filter_cons, Region.dstOf, Fact.at, Act.put, World.more_drew]
      go_wp2_with (first
        | (go_at_call 16; refine (refOf_any _ _ _).mono ?_; rintro e w1 ⟨rfl, R3, n3, rfl⟩)
        )
      exact ⟨by repeat (first | with_reducible exact Grew.refl _ | apply Grew.more | apply Grew.alloc | apply Grew.drew | apply Grew.drewN), rfl, _, _, rfl, rfl, rfl⟩
  rintro u w1 ⟨R1, n1, rfl⟩ hF
  clear hF
  simp [putFacts, Region.dstOf, Fact.at, Act.put, List.range_succ, World.more_drew]
  go_wp2
  go_ret
  refine ⟨rfl, ?_⟩
  repeat (first | with_reducible exact Grew.refl _ | apply Grew.more | apply Grew.alloc | apply Grew.drew | apply Grew.drewN)

def stores (l : List Val) : Bool := l.any fun i => i.1 == 5
theorem stores_succ (l : List Val) (k : Nat) (h : k < l.length) : stores (l.take (k + 1)) = (stores (l.take k) || (l[k].1 == 5)) := by
  unfold stores
  rw [List.take_succ_eq_append_getElem h, List.any_append]
  simp
theorem stores_no {l : List Val} (h : stores l = false) : ∀ i ∈ l, i.1 ≠ 5 := by
  intro i hi e
  unfold stores at h
  rw [List.any_eq_false] at h
  exact h i hi (by rw [e]; rfl)

structure BdAt (w : World) (b7 b5 : Nat) (vo : Value) (x0 y0 x1 y1 m1 m2 m3 m4 m5 : Int) (eo : List Val) (wr : World) : Prop where
  g : Grew w wr
  h7 : wr.heap[b7]? = some (.cells #[vo, .int .i64 m1, .int .i64 m2, .int .i64 m3, .int .i64 m4, .int .i64 m5] 29)
  h5 : wr.heap[b5]? = some (.cells #[.int .i64 x0, .int .i64 y0, .int .i64 x1, .int .i64 y1] 25)
  vo : ValsAt wr vo eo
theorem BdAt.grew {w : World} {b7 b5 : Nat} {vo : Value} {x0 y0 x1 y1 m1 m2 m3 m4 m5 : Int} {eo : List Val} {wr w' : World} (h : BdAt w b7 b5 vo x0 y0 x1 y1 m1 m2 m3 m4 m5 eo wr) (g : Grew wr w') : BdAt w b7 b5 vo x0 y0 x1 y1 m1 m2 m3 m4 m5 eo w' :=
  ⟨h.g.trans g, grew_heap g h.h7, grew_heap g h.h5, h.vo.grew g⟩

set_option maxHeartbeats 8000000 in
theorem vmBounds_any (v : Value) (l : List Val) (p q x0 y0 x1 y1 : Int) (w : World) (hv : ValsAt w v l) (h : Env4 w) :
    Calls Tryz.prog 4 #[v, .agg #[.int .i64 p, .int .i64 q], .agg #[.int .i64 x0, .int .i64 y0, .int .i64 x1, .int .i64 y1]] w (Gives (.bool true) w) := by
  obtain ⟨a, cap, rfl, hm, hlv⟩ := hv.open2
  have HV := Lib.hid hv
  have HE := Lib.hid h
  have HLV := Lib.hid hlv
  clear hv h hlv
  by_cases h6 : l.length ≤ 60
  · by_cases hz : Vm.codeOf l (x0, y0) (x1, y1) [(p, q)] = 0
    · have HZ := Lib.hid hz
      obtain ⟨hs, hr, hi⟩ := Vm.codeOf_zero.1 hz
      have hf := Vm.safe_fits hs
      have h24 := (Co.fits_parts hf).1
      simp only [List.all_cons, List.all_nil, Bool.and_true, Bool.and_eq_true] at hr hi
      have hcr := Vm.each_right hf [(p, q)] ⟨[], (x0, y0), (x1, y1), 0⟩ hr.1 hr.2 (by simpa using hi)
      have hor := Vm.each1_out hf hr.1 hr.2 hi
      have hst := Vm.each1_steps hf (x0, y0) (x1, y1) (p, q)
      have hfo := Vm.each1_four hs (x0, y0) (x1, y1) (p, q)
      have hce := fun (h : stores l = false) => Vm.each1_cells (stores_no h) (x0, y0) (x1, y1) (p, q)
      clear hz hs hr hi hf
      generalize hEE : Vm.each l ⟨[], (x0, y0), (x1, y1), 0⟩ [(p, q)] = E at *
      obtain ⟨eo, ⟨ex0, ey0⟩, ⟨ex1, ey1⟩, es⟩ := E
      simp only at hcr hor hst hfo hce
      obtain ⟨hc0, hc1⟩ := hcr
      have HEE := Lib.hid hEE
      have HC0 := Lib.hid hc0
      have HC1 := Lib.hid hc1
      have HOR := Lib.hid hor
      have HCE := Lib.hid hce
      clear hEE hc0 hc1 hor hce
      go_enter Tryz.func4, Tryz.ntmps4
      go_wp2_with (first
        | (go_at_call 7; refine (awake06_any _ (HE.out.grew (by repeat (first | with_reducible exact Grew.refl _ | apply Grew.more | apply Grew.alloc | apply Grew.drew | apply Grew.drewN)))).mono ?_; rintro e w1 ⟨rfl, Ra, na, rfl⟩)
        | (go_at_call 8; refine (run1_any _ l p q x0 y0 x1 y1 _ (HV.out.grew (by repeat (first | with_reducible exact Grew.refl _ | apply Grew.more | apply Grew.alloc | apply Grew.drew | apply Grew.drewN)))).mono ?_; rintro e w1 hE; obtain ⟨ao2, no2, co2, m1, m2, m3, m4, m5, err2, rfl⟩ := hE.shape; (have hcd2 := hE.coded); obtain ⟨hq1, _, hq2⟩ := hcd2; rw [HZ.out] at hq1; subst hq1; obtain ⟨ho2, hm1, hm2, hm3, hm4, hm5⟩ := hq2 rfl; rw [HEE.out] at ho2 hm1 hm2 hm3 hm4 hm5; simp only at ho2 hm1 hm2 hm3 hm4 hm5; subst hm1 hm2 hm3 hm4 hm5; (have hvo := ho2.rows encI_len); obtain ⟨a9, c9, e9, -, -⟩ := RowsAt.open2 (f := fun a : Val => Value.int .i64 a.1) (g := fun a : Val => Value.int .i64 a.2) hvo; cases e9; (have HVO := Lib.hid hvo); obtain ⟨⟨R6, N6, hw⟩, _⟩ := hE; subst hw; clear ho2 hq2 hvo)
        )
      obtain ⟨b7, hb7⟩ : ∃ b7, b7 = w.heap.size + 1 + 1 + Ra.size + R6.size := ⟨_, rfl⟩
      rw [← hb7]
      have HB7 := Lib.hid hb7
      clear hb7
      go_loopw [9, 30] (fun v9 i wr => ∃ (k : Nat), k ≤ l.length ∧ i = .int .i64 k ∧ v9 = .bool (stores (l.take k)) ∧ BdAt w b7 (w.heap.size + 1) (.slice ao2 eo.length co2) x0 y0 x1 y1 m1 m2 m3 m4 m5 eo wr) (fun _ i _ => l.length - (intOf i).toNat)
      case atStart =>
        refine ⟨0, Nat.zero_le _, rfl, rfl, by repeat (first | with_reducible exact Grew.refl _ | apply Grew.more | apply Grew.alloc | apply Grew.drew | apply Grew.drewN), heap_new_at _ _ _ (by have := HB7.out; simp [World.size_alloc, World.more_size]; omega), ?_, HVO.out.grew (by repeat (first | with_reducible exact Grew.refl _ | apply Grew.more | apply Grew.alloc | apply Grew.drew | apply Grew.drewN))⟩
        exact heap_alloc' (grew_heap (by repeat (first | with_reducible exact Grew.refl _ | apply Grew.more | apply Grew.alloc | apply Grew.drew | apply Grew.drewN)) (heap_new_at (w.alloc (.cells #[.int .i64 p, .int .i64 q] 24)) _ _ (by rw [World.size_alloc]))) _
      case round =>
        obtain ⟨k, hk, rfl, rfl, hbd⟩ := hrel
        by_cases hlt : k < l.length
        · have hss := stores_succ l k hlt
          obtain ⟨ak, ck, ek, _, hxk⟩ := (HV.out.grew hbd.g).open2
          cases ek
          obtain ⟨bi, offi, rfl, hbi, hi0, hi1⟩ := hxk k hlt
          clear hxk
          generalize l[k] = xy at *
          obtain ⟨x, y⟩ := xy
          simp only at hi0 hi1 hss
          have HBD := Lib.hid hbd
          have HSS := Lib.hid hss
          clear hbd hss
          cases hb : stores (l.take k)
          all_goals
            have HB := Lib.hid hb
            clear hb
            go_wp2
            go_roundw
            case rel => exact ⟨k + 1, by omega, by go_num, by rw [HSS.out, HB.out]; simp, HBD.out.grew (by repeat (first | with_reducible exact Grew.refl _ | apply Grew.more | apply Grew.alloc | apply Grew.drew | apply Grew.drewN))⟩
            case measure => first | (simp [intOf]; done) | (simp [intOf]; omega)
        · obtain rfl : k = l.length := by omega
          rw [List.take_length]
          have hc7 := fun o => cell_of (o := o) hbd.h7
          have hc70 := hc7 0
          simp at hc70
          have hp7 := Pre.mk (heap_lt hbd.h7)
          have HBD := Lib.hid hbd
          clear hbd hc7
          go_wp2
          go_loopw [44] (fun i wr => ∃ (k : Nat), k ≤ eo.length ∧ i = .int .i64 k ∧ BdAt w b7 (w.heap.size + 1) (.slice ao2 eo.length co2) x0 y0 x1 y1 m1 m2 m3 m4 m5 eo wr) (fun i _ => eo.length - (intOf i).toNat)
          case atStart => exact ⟨0, Nat.zero_le _, rfl, HBD.out⟩
          case round =>
            obtain ⟨k, hk, rfl, hbd⟩ := hrel
            by_cases hlt : k < eo.length
            · have hrt := HOR.out eo[k] (List.getElem_mem hlt)
              obtain ⟨ak, ck, ek, _, hxk⟩ := hbd.vo.open2
              cases ek
              obtain ⟨bi, offi, rfl, hbi, hi0, hi1⟩ := hxk k hlt
              clear hxk
              generalize eo[k] = xy at *
              obtain ⟨x, y⟩ := xy
              simp only at hi0 hi1
              have HBD2 := Lib.hid hbd
              have HRT := Lib.hid hrt
              clear hbd hrt
              go_wp2_with (go_at_call 10; refine (right06_any _ _ _).mono ?_; rintro e w1 ⟨rfl, R7, N7, rfl⟩; rw [HRT.out])
              go_roundw
              case rel => exact ⟨k + 1, by omega, by go_num, HBD2.out.grew (by repeat (first | with_reducible exact Grew.refl _ | apply Grew.more | apply Grew.alloc | apply Grew.drew | apply Grew.drewN))⟩
              case measure => first | (simp [intOf]; done) | (simp [intOf]; omega)
            · obtain rfl : k = eo.length := by omega
              have hc := fun o => cell_of (o := o) hbd.h7
              have hd := fun o => cell_of (o := o) hbd.h5
              have k70 := hc 0
              have k71 := hc 1
              have k72 := hc 2
              have k73 := hc 3
              have k74 := hc 4
              have k75 := hc 5
              have k50 := hd 0
              have k51 := hd 1
              have k52 := hd 2
              have k53 := hd 3
              simp at k70 k71 k72 k73 k74 k75 k50 k51 k52 k53
              have q7 := Pre.mk (heap_lt hbd.h7)
              have q5 := Pre.mk (heap_lt hbd.h5)
              have hq := run_eql_arr x0 y0 x1 y1
              have HBD2 := Lib.hid hbd
              clear hbd hc hd
              cases hb : stores l
              · have hce := HCE.out hb
                simp only [Prod.mk.injEq] at hce
                obtain ⟨⟨rfl, rfl⟩, rfl, rfl⟩ := hce
                have HB := Lib.hid hb
                clear hb
                go_wp2_with (first
                  | (go_at_call_of 10 (Value.agg #[.int .i64 m1, .int .i64 m2]); refine (right06_any m1 m2 _).mono ?_; rintro e w1 ⟨rfl, R7, N7, rfl⟩; rw [HC0.out])
                  | (go_at_call 10; refine (right06_any m3 m4 _).mono ?_; rintro e w1 ⟨rfl, R7, N7, rfl⟩; rw [HC1.out])
                  )
                go_ret
                refine ⟨rfl, ?_⟩
                repeat (first | with_reducible exact Grew.refl _ | apply Grew.more | apply Grew.alloc | apply Grew.drew | apply Grew.drewN)
                exact HBD2.out.g
              · have HB := Lib.hid hb
                clear hb
                go_wp2_with (first
                  | (go_at_call_of 10 (Value.agg #[.int .i64 m1, .int .i64 m2]); refine (right06_any m1 m2 _).mono ?_; rintro e w1 ⟨rfl, R7, N7, rfl⟩; rw [HC0.out])
                  | (go_at_call 10; refine (right06_any m3 m4 _).mono ?_; rintro e w1 ⟨rfl, R7, N7, rfl⟩; rw [HC1.out])
                  )
                go_ret
                refine ⟨rfl, ?_⟩
                repeat (first | with_reducible exact Grew.refl _ | apply Grew.more | apply Grew.alloc | apply Grew.drew | apply Grew.drewN)
                exact HBD2.out.g
    · obtain ⟨cd, hcd⟩ : ∃ cd, cd = Vm.codeOf l (x0, y0) (x1, y1) [(p, q)] := ⟨_, rfl⟩
      rw [← hcd] at hz
      have hzb : (cd != 0) = true := by simpa using hz
      have HCD := Lib.hid hcd
      clear hz hcd
      go_enter Tryz.func4, Tryz.ntmps4
      go_wp2_with (first
        | (go_at_call 7; refine (awake06_any _ (HE.out.grew (by repeat (first | with_reducible exact Grew.refl _ | apply Grew.more | apply Grew.alloc | apply Grew.drew | apply Grew.drewN)))).mono ?_; rintro e w1 ⟨rfl, Ra, na, rfl⟩)
        | (go_at_call 8; refine (run1_any _ l p q x0 y0 x1 y1 _ (HV.out.grew (by repeat (first | with_reducible exact Grew.refl _ | apply Grew.more | apply Grew.alloc | apply Grew.drew | apply Grew.drewN)))).mono ?_; rintro e w1 hE; obtain ⟨ao2, no2, co2, m1, m2, m3, m4, m5, err2, rfl⟩ := hE.shape; (have hcd2 := hE.coded); obtain ⟨hq1, _, _⟩ := hcd2; rw [← HCD.out] at hq1; subst hq1; obtain ⟨⟨R6, N6, hw⟩, _⟩ := hE; subst hw)
        )
      go_ret
      refine ⟨rfl, ?_⟩
      repeat (first | with_reducible exact Grew.refl _ | apply Grew.more | apply Grew.alloc | apply Grew.drew | apply Grew.drewN)
  · have h6' : 60 < l.length := by omega
    go_enter Tryz.func4, Tryz.ntmps4
    go_wp2_with (go_at_call 7; refine (awake06_any _ (HE.out.grew (by repeat (first | with_reducible exact Grew.refl _ | apply Grew.more | apply Grew.alloc | apply Grew.drew | apply Grew.drewN)))).mono ?_; rintro e w1 ⟨rfl, Ra, na, rfl⟩)
    go_ret
    refine ⟨rfl, ?_⟩
    repeat (first | with_reducible exact Grew.refl _ | apply Grew.more | apply Grew.alloc | apply Grew.drew | apply Grew.drewN)
end Go.Proofs.YtiocdmfmghanmaaGreatDoor
