import Derived.Test.YtekkkmkhnphlhaaGreatDoorGh4
/-! code.Fits, forebayref04.Fits and Same. -/
namespace Go.Proofs.YtekkkmkhnphlhaaGreatDoor
set_option linter.unusedSimpArgs false
set_option linter.unusedVariables false
open Go.RowKit Ga
set_option maxRecDepth 100000

theorem fits1_any (x y : Int) (w : World) : Calls Tryz.prog 177 #[.agg #[.int .i64 x, .int .i64 y]] w (Gives (.bool (!Co.rightI (x, y))) w) := by
  go_enter Tryz.func177, Tryz.ntmps177
  go_wp2_with (first
    | (go_at_call 178; refine (codeRight_any _ _ _).mono ?_; rintro e w1 ⟨rfl, R3, n3, rfl⟩)
    )
  go_ret
  refine ⟨rfl, ?_⟩
  repeat (first | with_reducible exact Grew.refl _ | apply Grew.more | apply Grew.alloc | apply Grew.drew | apply Grew.drewN)

theorem take_all_succ {α : Type} {p : α → Bool} {l : List α} {k : Nat} (h : k < l.length) (h1 : (l.take k).all p = true) (h2 : p l[k] = true) : (l.take (k + 1)).all p = true := by
  rw [List.take_succ_eq_append_getElem h, List.all_append, h1]; simp [h2]
theorem all_false_at {α : Type} {p : α → Bool} {l : List α} {k : Nat} (h : k < l.length) (h2 : p l[k] = false) : l.all p = false := by
  rw [List.all_eq_false]; exact ⟨l[k], List.getElem_mem h, by simp [h2]⟩

set_option maxHeartbeats 1000000 in
/-- .. where the first wrong instruction stands. -/
theorem indexWrong_any (v : Value) (l : List Val) (w : World) (hv : ValsAt w v l) :
    Calls Tryz.prog 214 #[v, .func (.func 177) #[] #[]] w fun e w' => ∃ k : Int, e = .returned (.int .i64 k) ∧ decide (0 ≤ k) = !l.all Co.rightI ∧ Grew w w' := by
  obtain ⟨a, cap, rfl, hm, hl⟩ := hv.open2
  go_enter Tryz.func214, Tryz.ntmps214
  go_wp2
  go_loopw [8] (fun i wr => ∃ (k : Nat), k ≤ l.length ∧ i = .int .i64 k ∧ (l.take k).all Co.rightI = true ∧ Grew w wr) (fun i _ => l.length - (intOf i).toNat)
  case atStart => exact ⟨0, Nat.zero_le _, rfl, rfl, Grew.refl _⟩
  case round =>
    obtain ⟨k, hk, rfl, hall, R, n, rfl⟩ := hrel
    have HA := Lib.hid hall
    clear hall
    by_cases hlt : k < l.length
    · obtain ⟨b, off, rfl, hb, hx, hy⟩ := hl k hlt
      have hs := take_all_succ (p := Co.rightI) hlt HA.out
      have hf := all_false_at (p := Co.rightI) hlt
      generalize l[k] = xy at *
      obtain ⟨x, y⟩ := xy
      cases hr : Co.rightI (x, y)
      all_goals
        have HS := Lib.hid hs
        have HF := Lib.hid hf
        have HR := Lib.hid hr
        clear hs hl hf hr
        simp only at hx hy
        go_wp2_with (go_at_call 177; refine (fits1_any _ _ _).mono ?_; rintro e w1 ⟨rfl, R3, n3, rfl⟩; rw [HR.out])
      · go_ret
        refine ⟨k, rfl, ?_, ?_⟩
        · rw [HF.out HR.out]; simp
        · repeat (first | with_reducible exact Grew.refl _ | apply Grew.more | apply Grew.alloc | apply Grew.drew | apply Grew.drewN)
      · go_roundw
        case rel => exact ⟨k + 1, by omega, by go_num, HS.out HR.out, by repeat (first | with_reducible exact Grew.refl _ | apply Grew.more | apply Grew.alloc | apply Grew.drew | apply Grew.drewN)⟩
        case measure => first | (simp [intOf]; done) | (simp [intOf]; omega)
    · obtain rfl : k = l.length := by omega
      have hz := HA.out
      rw [List.take_length] at hz
      have HZ := Lib.hid hz
      clear hz hl HA
      go_wp2
      go_ret
      refine ⟨-1, rfl, ?_, ?_⟩
      · rw [HZ.out]; rfl
      · repeat (first | with_reducible exact Grew.refl _ | apply Grew.more | apply Grew.alloc | apply Grew.drew | apply Grew.drewN)

theorem containsWrong_any (v : Value) (l : List Val) (w : World) (hv : ValsAt w v l) :
    Calls Tryz.prog 179 #[v, .func (.func 177) #[] #[]] w (Gives (.bool (!l.all Co.rightI)) w) := by
  have HV := Lib.hid hv
  clear hv
  go_enter Tryz.func179, Tryz.ntmps179
  go_wp2_with (go_at_call 214; refine (indexWrong_any _ l _ HV.out).mono ?_; rintro e w1 ⟨k, rfl, hk, R3, n3, rfl⟩; (have HK := Lib.hid hk); clear hk)
  go_ret
  refine ⟨ret_bool HK.out, ?_⟩
  repeat (first | with_reducible exact Grew.refl _ | apply Grew.more | apply Grew.alloc | apply Grew.drew | apply Grew.drewN)

set_option maxHeartbeats 1000000 in
theorem codeFits_any (v : Value) (l : List Val) (w : World) (hv : ValsAt w v l) : Calls Tryz.prog 141 #[v] w (Gives (.bool (Co.fitsI l)) w) := by
  obtain ⟨a, cap, rfl, hm, -⟩ := hv.open2
  have HV := Lib.hid hv
  clear hv
  have hF : Co.fitsI l = (decide (l.length ≤ 24) && l.all Co.rightI) := rfl
  have HF := Lib.hid hF
  clear hF
  go_enter Tryz.func141, Tryz.ntmps141
  go_wp2_with (go_at_call 179; refine (containsWrong_any _ l _ HV.out).mono ?_; rintro e w1 ⟨rfl, R3, n3, rfl⟩)
  all_goals
    go_ret
    refine ⟨ret_bool (by rw [HF.out]; grind), ?_⟩
    repeat (first | with_reducible exact Grew.refl _ | apply Grew.more | apply Grew.alloc | apply Grew.drew | apply Grew.drewN)

set_option maxHeartbeats 1000000 in
theorem refFits_any (v : Value) (l : List Val) (w : World) (hv : ValsAt w v l) : Calls Tryz.prog 40 #[v] w (Gives (.bool (Co.fitsI l)) w) := by
  obtain ⟨a, cap, rfl, hm, hl⟩ := hv.open2
  have hF : Co.fitsI l = (decide (l.length ≤ 24) && l.all Co.rightI) := rfl
  have HF := Lib.hid hF
  clear hF
  go_enter Tryz.func40, Tryz.ntmps40
  go_wp2
  go_loopw [3] (fun i wr => ∃ (k : Nat), k ≤ l.length ∧ i = .int .i64 k ∧ (l.take k).all Co.rightI = true ∧ Grew w wr) (fun i _ => l.length - (intOf i).toNat)
  case atStart => exact ⟨0, Nat.zero_le _, rfl, rfl, Grew.refl _⟩
  case round =>
    obtain ⟨k, hk, rfl, hall, R, n, rfl⟩ := hrel
    have HA := Lib.hid hall
    clear hall
    by_cases hlt : k < l.length
    · obtain ⟨b, off, rfl, hb, hx, hy⟩ := hl k hlt
      have hs := take_all_succ (p := Co.rightI) hlt HA.out
      have hf := all_false_at (p := Co.rightI) hlt
      generalize l[k] = xy at *
      obtain ⟨x, y⟩ := xy
      cases hr : Co.rightI (x, y)
      all_goals
        have HS := Lib.hid hs
        have HF2 := Lib.hid hf
        have HR := Lib.hid hr
        clear hs hl hf hr
        simp only at hx hy
        go_wp2_with (go_at_call 96; refine (refRight_any _ _ _).mono ?_; rintro e w1 ⟨rfl, R3, n3, rfl⟩; rw [HR.out])
      · go_ret
        refine ⟨ret_bool ?_, ?_⟩
        · rw [HF.out, HF2.out HR.out]; simp
        · repeat (first | with_reducible exact Grew.refl _ | apply Grew.more | apply Grew.alloc | apply Grew.drew | apply Grew.drewN)
      · go_roundw
        case rel => exact ⟨k + 1, by omega, by go_num, HS.out HR.out, by repeat (first | with_reducible exact Grew.refl _ | apply Grew.more | apply Grew.alloc | apply Grew.drew | apply Grew.drewN)⟩
        case measure => first | (simp [intOf]; done) | (simp [intOf]; omega)
    · obtain rfl : k = l.length := by omega
      have hz := HA.out
      rw [List.take_length] at hz
      have HZ := Lib.hid hz
      clear hz hl HA
      go_wp2
      go_ret
      refine ⟨ret_bool ?_, ?_⟩
      · rw [HF.out, HZ.out]; simp; omega
      · repeat (first | with_reducible exact Grew.refl _ | apply Grew.more | apply Grew.alloc | apply Grew.drew | apply Grew.drewN)

theorem run_neq_ins (x y p q : Int) (b : Bool) (hb : b = !(decide (x = p) && decide (y = q))) (w : World) : (binOp .neq 142 (.agg #[.int .i64 x, .int .i64 y]) (.agg #[.int .i64 p, .int .i64 q])).run Tryz.prog w = .ok (.bool b) w := by
  subst hb
  by_cases h1 : x = p <;> by_cases h2 : y = q <;> simp [go_sem, h1, h2, Tryz.underlying142, Tryz.underlying3]
theorem take_eq_succ {α : Type} {l m : List α} {k : Nat} (h : k < l.length) (hm : k < m.length) (h1 : l.take k = m.take k) (h2 : l[k] = m[k]) : l.take (k + 1) = m.take (k + 1) := by
  rw [List.take_succ_eq_append_getElem h, List.take_succ_eq_append_getElem hm, h1, h2]
theorem neq_at {α : Type} {l m : List α} {k : Nat} (h : k < l.length) (hm : k < m.length) (h2 : l[k] ≠ m[k]) : l ≠ m := by
  rintro rfl; exact h2 rfl

set_option maxHeartbeats 2000000 in
theorem refSame_any (v u : Value) (l m : List Val) (w : World) (hv : ValsAt w v l) (hu : ValsAt w u m) : Calls Tryz.prog 115 #[v, u] w (Gives (.bool (decide (l = m))) w) := by
  obtain ⟨a, cap, rfl, hm, hl⟩ := hv.open2
  obtain ⟨a2, cap2, rfl, hm2, hl2⟩ := hu.open2
  clear hv hu
  by_cases hlen : l.length = m.length
  · have hD : decide ((l.length : Int) = (m.length : Int)) = true := by rw [hlen]; simp
    have hD2 : ((l.length : Int) != (m.length : Int)) = false := by rw [hlen]; simp
    have HLEN := Lib.hid hlen
    clear hlen
    go_enter Tryz.func115, Tryz.ntmps115
    go_wp2
    go_loopw [5] (fun i wr => ∃ (k : Nat), k ≤ l.length ∧ i = .int .i64 k ∧ l.take k = m.take k ∧ Grew w wr) (fun i _ => l.length - (intOf i).toNat)
    case atStart => exact ⟨0, Nat.zero_le _, rfl, rfl, Grew.refl _⟩
    case round =>
      obtain ⟨k, hk, rfl, hall, R, n, rfl⟩ := hrel
      have HA := Lib.hid hall
      clear hall
      by_cases hlt : k < l.length
      · have hlt2 : k < m.length := by have := HLEN.out; omega
        obtain ⟨b, off, rfl, hb, hx, hy⟩ := hl k hlt
        obtain ⟨b2, off2, rfl, hb2, hx2, hy2⟩ := hl2 k hlt2
        have hs := take_eq_succ hlt hlt2 HA.out
        have hf := neq_at hlt hlt2
        generalize l[k] = xy at *
        generalize m[k] = xy2 at *
        obtain ⟨x, y⟩ := xy
        obtain ⟨x2, y2⟩ := xy2
        simp only at hx hy hx2 hy2
        by_cases hr : ((x, y) : Val) = (x2, y2)
        all_goals
          have HS := Lib.hid hs
          have HF2 := Lib.hid hf
          have HR := Lib.hid hr
          clear hs hl hl2 hf
        · cases hr
          go_wp2
          refine wp_region_seq 9 Tryz.mixed (by kernel_rfl) (by kernel_rfl) ?_
          iterate 9
            apply Seq.val
            focus
              rintro w1 u ⟨R1, n1, rfl⟩ hF
              simp [moreFacts, Fact.more, Oper.deps, Region.binds, List.filter_cons, World.more_drew] at hF
              simp [putFacts, Oper.deps, Region.binds, List.filter_cons, Region.dstOf, Fact.at, Act.put, World.more_drew]
              go_wp2
              exact ⟨by repeat (first | with_reducible exact Grew.refl _ | apply Grew.more | apply Grew.alloc | apply Grew.drew | apply Grew.drewN), rfl, _, _, rfl, rfl, rfl⟩
          rintro u w1 ⟨R1, n1, rfl⟩ hF
          clear hF
          simp [putFacts, Region.dstOf, Fact.at, Act.put, List.range_succ, World.more_drew]
          go_wp2
          go_roundw
          case rel => exact ⟨k + 1, by omega, by go_num, HS.out (by first | exact rfl | trivial), by repeat (first | with_reducible exact Grew.refl _ | apply Grew.more | apply Grew.alloc | apply Grew.drew | apply Grew.drewN)⟩
          case measure => first | (simp [intOf]; done) | (simp [intOf]; omega)
        · have hq := run_neq_ins x y x2 y2 true (by
            have := HR.out
            by_cases e1 : x = x2 <;> by_cases e2 : y = y2 <;> simp [e1, e2]
            exact this (by rw [e1, e2]))
          go_wp2
          refine wp_region_seq 9 Tryz.mixed (by kernel_rfl) (by kernel_rfl) ?_
          iterate 9
            apply Seq.val
            focus
              rintro w1 u ⟨R1, n1, rfl⟩ hF
              simp [moreFacts, Fact.more, Oper.deps, Region.binds, List.filter_cons, World.more_drew] at hF
              simp [putFacts, Oper.deps, Region.binds, List.filter_cons, Region.dstOf, Fact.at, Act.put, World.more_drew]
              go_wp2
              exact ⟨by repeat (first | with_reducible exact Grew.refl _ | apply Grew.more | apply Grew.alloc | apply Grew.drew | apply Grew.drewN), rfl, _, _, rfl, rfl, rfl⟩
          rintro u w1 ⟨R1, n1, rfl⟩ hF
          clear hF
          simp [putFacts, Region.dstOf, Fact.at, Act.put, List.range_succ, World.more_drew]
          go_wp2
          go_ret
          refine ⟨ret_bool (by rw [decide_eq_false (HF2.out HR.out)]), ?_⟩
          repeat (first | with_reducible exact Grew.refl _ | apply Grew.more | apply Grew.alloc | apply Grew.drew | apply Grew.drewN)
      · obtain rfl : k = l.length := by omega
        have hz := HA.out
        rw [List.take_length, List.take_of_length_le (by have := HLEN.out; omega)] at hz
        have HZ := Lib.hid hz
        clear hz hl hl2 HA
        go_wp2
        go_ret
        refine ⟨ret_bool ?_, ?_⟩
        · rw [HZ.out]; simp
        · repeat (first | with_reducible exact Grew.refl _ | apply Grew.more | apply Grew.alloc | apply Grew.drew | apply Grew.drewN)
  · have hD2 : ((l.length : Int) != (m.length : Int)) = true := by rw [bne_iff_ne]; omega
    have hne : l ≠ m := fun e => hlen (by rw [e])
    have HNE := Lib.hid hne
    clear hne hlen hl hl2
    go_enter Tryz.func115, Tryz.ntmps115
    go_wp2
    go_ret
    refine ⟨ret_bool (by rw [decide_eq_false HNE.out]), ?_⟩
    repeat (first | with_reducible exact Grew.refl _ | apply Grew.more | apply Grew.alloc | apply Grew.drew | apply Grew.drewN)
end Go.Proofs.YtekkkmkhnphlhaaGreatDoor
