import Derived.Test.YtmdmbimfdpngaaaGreatDoorMp47
import Derived.Test.YtmdmbimfdpngaaaGreatDoorMp4
import Derived.Test.YtmdmbimfdpngaaaGreatDoorMp13
import Derived.Test.YtmdmbimfdpngaaaGreatDoorMp29
import Derived.Test.YtmdmbimfdpngaaaGreatDoorMp11
/-! The law CellPlays, walked. -/
namespace Go.Proofs.YtmdmbimfdpngaaaGreatDoor
set_option linter.unusedSimpArgs false
set_option linter.unusedVariables false
open Go.RowKit Ga
set_option maxRecDepth 100000

theorem newT_take {l : List Tab.En} {j : Nat} (hj : j < l.length) : Tab.newT (l.take (j + 1)) = Tab.setT (Tab.newT (l.take j)) l[j] := newT_succ hj
theorem newOk_of {l : List Tab.En} (h : ∀ j (hj : j < l.length), okEn l[j] = true) : newOk l = true := by
  unfold newOk
  rw [List.all_eq_true]
  intro x hx
  obtain ⟨j, hj, rfl⟩ := List.mem_iff_getElem.1 hx
  exact h j hj
theorem okT_take {l : List Tab.En} {j : Nat} (h : ∀ i (hi : i < l.length), i < j → okEn l[i] = true) : OkT (Tab.newT (l.take j)) := OkT.new (newOk_of fun i hi => by
  rw [List.length_take] at hi
  rw [List.getElem_take]
  exact h i (by omega) (by omega))
set_option maxHeartbeats 16000000 in
theorem plays_bad (a : Option Addr) (cap : Nat) (u : Value) (l : List Tab.En) (lc : List OpC) (w : World) (hv : EntsAt w (.slice a l.length cap) l) (hm : l.length ≤ 9223372036854775807) (hu : OpsAt w u lc) (h : Env4 w) (h100 : l.length ≤ 100) (hlc : lc.length ≤ 100) (ho : newOk l = false) :
    Calls Tryz.prog 7 #[.slice a l.length cap, u] w (Gives (.bool true) w) := by
  obtain ⟨a2, cap2, rfl, hm2, -⟩ := hu.open
  have HV := Lib.hid hv
  have HE := Lib.hid h
  have HO := Lib.hid ho
  clear hv hu h ho
  go_enter Tryz.func7, Tryz.ntmps7
  go_wp2_with (first
    | (go_at_call 17; refine (awake07_any _ (HE.out.grew (by repeat (first | with_reducible exact Grew.refl _ | apply Grew.more | apply Grew.alloc | apply Grew.drew | apply Grew.drewN)))).mono ?_; rintro e w1 ⟨rfl, Ra, na, rfl⟩)
    | (go_at_call 18; refine (tabNew_any _ l _ (HV.out.grew (by repeat (first | with_reducible exact Grew.refl _ | apply Grew.more | apply Grew.alloc | apply Grew.drew | apply Grew.drewN))) (by omega)).mono ?_; rintro e w1 hN; obtain ⟨rfl, R1, n1, rfl⟩ := hN.bad HO.out; clear hN))
  obtain ⟨tr, htr⟩ : ∃ tr, tr = w.heap.size + Ra.size + R1.size := ⟨_, rfl⟩
  rw [← htr]
  have HRT0 : Hid (RTabAt (((w.more Ra na).more R1 n1).alloc (.cells Tryz.zeroCells51 51)) tr (fun _ _ => zer)) := Lib.hid (RTabAt.made' _ _ (by simp [World.more_size]; exact htr))
  have HTR : Hid (w.heap.size ≤ tr) := Lib.hid (by omega)
  clear htr
  go_loopg [40] l.length (fun gg s40 wr => ∃ j : Nat, j ≤ l.length ∧ l.length - j ≤ gg ∧ s40 = .int .i64 j ∧ Hid (∃ f, RTabAt wr tr f) ∧ Hid (Grew w wr) ∧ Hid (∀ i (hi : i < l.length), i < j → okEn l[i] = true))
  case atStart => exact ⟨0, by omega, by omega, rfl, Lib.hid ⟨_, HRT0.out⟩, Lib.hid (by repeat (first | with_reducible exact Grew.refl _ | apply Grew.more | apply Grew.alloc | apply Grew.drew | apply Grew.drewN)), Lib.hid fun i _ h => by omega⟩
  case round =>
    obtain ⟨j, hj, hgg, rfl, HEX, HG, HOK⟩ := hrel
    by_cases hlt : j < l.length
    · obtain ⟨f, hrt⟩ := HEX.out
      have HRT := Lib.hid hrt
      clear hrt
      obtain ⟨a', cap', e, -, hx⟩ := EntsAt.open6 (HV.out.grew HG.out)
      cases e
      obtain ⟨bq, off, rfl, hbq, c0, c1, c2, c3, c4, c5⟩ := hx j hlt
      have HKX : Hid (okEn l[j] = true → ∀ i (hi : i < l.length), i < j + 1 → okEn l[i] = true) := Lib.hid fun h i hi h2 => (Nat.lt_or_ge i j).elim (HOK.out i hi) fun h3 => by
        obtain rfl : i = j := by omega
        exact h
      clear hx
      generalize l[j] = x at *
      obtain ⟨nd, ky, ⟨p0, q0⟩, ⟨p1, q1⟩⟩ := x
      simp only at c0 c1 c2 c3 c4 c5
      have HRR := Lib.hid fun W2 => refRight07_any nd ky p0 q0 p1 q1 W2
      cases hok : okEn ⟨nd, ky, (p0, q0), (p1, q1)⟩
      · rw [hok] at HRR
        clear hok
        go_wp2_with (go_at_call 15; refine (HRR.out _).mono ?_; rintro e w8 ⟨rfl, R8, N8, rfl⟩)
        go_ret
        exact ⟨rfl, HG.out.trans (by repeat (first | with_reducible exact Grew.refl _ | apply Grew.more | apply Grew.alloc | apply Grew.drew | apply Grew.drewN))⟩
      · have HKX2 := Lib.hid (HKX.out hok)
        have hth := okEn_there hok
        unfold There at hth
        simp only at hth
        obtain ⟨⟨h1, h2⟩, h3, h4⟩ := hth
        obtain ⟨nn, rfl⟩ := Int.eq_ofNat_of_zero_le h1
        obtain ⟨kk, rfl⟩ := Int.eq_ofNat_of_zero_le h3
        have ptr := Pre.mk HRT.out.lt
        have f0 := HRT.out.frozen (o := nn * 256 + kk * 4)
        have f1 := HRT.out.frozen (o := nn * 256 + kk * 4 + 1)
        have f2 := HRT.out.frozen (o := nn * 256 + kk * 4 + 2)
        have f3 := HRT.out.frozen (o := nn * 256 + kk * 4 + 3)
        obtain ⟨d0, d1, d2, d3⟩ := HRT.out.cells (n := nn) (k := kk) (by omega) (by omega)
        have hR6 := HRT.out.set (n := nn) (k := kk) (by omega) (by omega) p0 q0 p1 q1
        have hk6 := (((Keep.set4 (w := wr) (B := tr) (o := nn * 256 + kk * 4) (.int .i64 p0)).trans (Keep.set4 (o := nn * 256 + kk * 4 + 1) (.int .i64 q0))).trans (Keep.set4 (o := nn * 256 + kk * 4 + 2) (.int .i64 p1))).trans (Keep.set4 (o := nn * 256 + kk * 4 + 3) (.int .i64 q1))
        have hg6 := (((HG.out.set HTR.out (o := nn * 256 + kk * 4) (.int .i64 p0)).set HTR.out (o := nn * 256 + kk * 4 + 1) (.int .i64 q0)).set HTR.out (o := nn * 256 + kk * 4 + 2) (.int .i64 p1)).set HTR.out (o := nn * 256 + kk * 4 + 3) (.int .i64 q1)
        have HR6 := Lib.hid hR6
        have HK6 := Lib.hid hk6
        have HG6 := Lib.hid hg6
        clear hR6 hk6 hg6
        rw [hok] at HRR
        clear hok
        go_upto_region 12 with (go_at_call 15; refine (HRR.out _).mono ?_; rintro e w8 ⟨rfl, R8, N8, rfl⟩)
        refine wp_region_seq 10 Tryz.mixed (by kernel_rfl) (by kernel_rfl) ?_
        iterate 10
          apply Seq.val
          focus
            rintro w1 u ⟨R1, n1, rfl⟩ hF
            simp [moreFacts, Fact.more, Oper.deps, Region.binds, List.filter_cons, World.more_drew] at hF
            simp [putFacts, Oper.deps, Region.binds, List.filter_cons, Region.dstOf, Fact.at, Act.put, World.more_drew]
            go_wp2
            exact ⟨by repeat (first | with_reducible exact Grew.refl _ | apply Grew.more | apply Grew.alloc | apply Grew.drew | apply Grew.drewN), rfl, _, _, rfl, rfl, rfl⟩
        rintro u w1 ⟨R1, n1, rfl⟩ hF
        clear hF
        simp [putFacts, Region.dstOf, Fact.at, Act.put, List.range_succ, World.more_drew]
        go_wp2
        go_roundg (l.length - (j + 1))
        case measure => omega
        case rel => exact ⟨j + 1, by omega, by omega, by go_num, Lib.hid ⟨_, HR6.out.grew (by repeat (first | with_reducible exact Grew.refl _ | apply Grew.more | apply Grew.alloc | apply Grew.drew | apply Grew.drewN))⟩, Lib.hid (HG6.out.trans (by repeat (first | with_reducible exact Grew.refl _ | apply Grew.more | apply Grew.alloc | apply Grew.drew | apply Grew.drewN))), HKX2⟩
    · obtain rfl : j = l.length := by omega
      have := newOk_of fun i hi => HOK.out i hi hi
      rw [HO.out] at this
      cases this
theorem ret7_end {w W : World} {a : Act} (h : Ret7 w a W) : bodyPost Tryz.prog Tryz.f7 (Gives (.bool true) w) .ret a W := by
  obtain ⟨t, d⟩ := a
  obtain ⟨h1, h2, h3⟩ := h
  simp only at h1 h2
  subst h2
  refine bodyPost_ret (v := .bool true) ?_ rfl ⟨rfl, h3⟩
  simp [results, Tryz.results7, go_sem]
  rw [← Array.getD_eq_getD_getElem?, h1]
set_option maxHeartbeats 16000000 in
theorem plays_ok (a : Option Addr) (cap : Nat) (u : Value) (l : List Tab.En) (lc : List OpC) (w : World) (hv : EntsAt w (.slice a l.length cap) l) (hm : l.length ≤ 9223372036854775807) (hu : OpsAt w u lc) (h : Env4 w) (h100 : l.length ≤ 100) (hlc : lc.length ≤ 100) (ho : newOk l = true) :
    Calls Tryz.prog 7 #[.slice a l.length cap, u] w (Gives (.bool true) w) := by
  obtain ⟨a2, cap2, rfl, hm2, -⟩ := hu.open
  have HV := Lib.hid hv
  have HU := Lib.hid hu
  have HE := Lib.hid h
  have HO := Lib.hid ho
  have hall : ∀ j (hj : j < l.length), okEn l[j] = true := fun j hj => by
    unfold newOk at ho
    rw [List.all_eq_true] at ho
    exact ho _ (List.getElem_mem hj)
  have HALL := Lib.hid hall
  have HOKT := Lib.hid (OkT.new ho)
  clear hv hu h ho hall
  go_enter Tryz.func7, Tryz.ntmps7
  go_wp2_with (first
    | (go_at_call 17; refine (awake07_any _ (HE.out.grew (by repeat (first | with_reducible exact Grew.refl _ | apply Grew.more | apply Grew.alloc | apply Grew.drew | apply Grew.drewN)))).mono ?_; rintro e w1 ⟨rfl, Ra, na, rfl⟩)
    | (go_at_call 18; refine (tabNew_any _ l _ (HV.out.grew (by repeat (first | with_reducible exact Grew.refl _ | apply Grew.more | apply Grew.alloc | apply Grew.drew | apply Grew.drewN))) (by omega)).mono ?_; rintro e w1 hN; obtain ⟨t, b, rfl, hT, ht, hb, R1, n1, rfl⟩ := hN.ok HO.out; (have HT := Lib.hid hT); (have HTB := Lib.hid (show w.heap.size ≤ t ∧ w.heap.size ≤ b from ⟨by simp [World.more_size] at ht; omega, by simp [World.more_size] at hb; omega⟩)); clear hT hN ht hb))
  obtain ⟨tr, htr⟩ : ∃ tr, tr = w.heap.size + Ra.size + R1.size := ⟨_, rfl⟩
  rw [← htr]
  have htl := heap_lt HT.out.1
  have hbl := HT.out.2.lt
  simp only [World.more_size] at htl hbl
  have HPL0 : Hid (PlAt w (((w.more Ra na).more R1 n1).alloc (.cells Tryz.zeroCells51 51)) t b l.length tr (Tab.newT l) (fun _ _ => zer)) := Lib.hid
    ⟨by repeat (first | with_reducible exact Grew.refl _ | apply Grew.more | apply Grew.alloc | apply Grew.drew | apply Grew.drewN), HT.out.grew (by repeat (first | with_reducible exact Grew.refl _ | apply Grew.more | apply Grew.alloc | apply Grew.drew | apply Grew.drewN)), RTabAt.made' _ _ (by simp [World.more_size]; exact htr), HOKT.out, HTB.out.1, HTB.out.2, by omega, by omega, by omega⟩
  have HTR : Hid (w.heap.size ≤ tr) := Lib.hid (by omega)
  clear htr htl hbl
  go_loopg [40] l.length (fun gg s40 wr => ∃ j : Nat, j ≤ l.length ∧ l.length - j ≤ gg ∧ s40 = .int .i64 j ∧ Hid (∃ f, PlAt w wr t b l.length tr (Tab.newT l) f ∧ RelT (Tab.newT (l.take j)) f))
  case atStart => exact ⟨0, by omega, by omega, rfl, Lib.hid ⟨_, HPL0.out, RelT.nil⟩⟩
  case round =>
    obtain ⟨j, hj, hgg, rfl, HEX⟩ := hrel
    obtain ⟨f, hpl, hrl⟩ := HEX.out
    have HPL := Lib.hid hpl
    have HRL := Lib.hid hrl
    have HG := Lib.hid hpl.g
    have HRT := Lib.hid hpl.r
    clear hpl hrl HEX
    by_cases hlt : j < l.length
    · have hok := HALL.out j hlt
      have hrs := HRL.out.set (okT_take fun i hi _ => HALL.out i hi) (okEn_there hok)
      rw [← newT_take hlt] at hrs
      obtain ⟨a', cap', e, -, hx⟩ := EntsAt.open6 (HV.out.grew HG.out)
      cases e
      obtain ⟨bq, off, rfl, hbq, c0, c1, c2, c3, c4, c5⟩ := hx j hlt
      clear hx
      generalize l[j] = x at *
      obtain ⟨nd, ky, ⟨p0, q0⟩, ⟨p1, q1⟩⟩ := x
      simp only at c0 c1 c2 c3 c4 c5 hrs
      have HRS := Lib.hid hrs
      have HRR := Lib.hid fun W2 => refRight07_any nd ky p0 q0 p1 q1 W2
      clear hrs
      have hjunk : True := trivial
      by_cases hj0 : True
      case neg => exact absurd trivial hj0
      · clear hj0 hjunk
        have hth := okEn_there hok
        unfold There at hth
        simp only at hth
        obtain ⟨⟨h1, h2⟩, h3, h4⟩ := hth
        obtain ⟨nn, rfl⟩ := Int.eq_ofNat_of_zero_le h1
        obtain ⟨kk, rfl⟩ := Int.eq_ofNat_of_zero_le h3
        have ptr := Pre.mk HRT.out.lt
        have f0 := HRT.out.frozen (o := nn * 256 + kk * 4)
        have f1 := HRT.out.frozen (o := nn * 256 + kk * 4 + 1)
        have f2 := HRT.out.frozen (o := nn * 256 + kk * 4 + 2)
        have f3 := HRT.out.frozen (o := nn * 256 + kk * 4 + 3)
        obtain ⟨d0, d1, d2, d3⟩ := HRT.out.cells (n := nn) (k := kk) (by omega) (by omega)
        have hR6 := HRT.out.set (n := nn) (k := kk) (by omega) (by omega) p0 q0 p1 q1
        have hk6 := (((Keep.set4 (w := wr) (B := tr) (o := nn * 256 + kk * 4) (.int .i64 p0)).trans (Keep.set4 (o := nn * 256 + kk * 4 + 1) (.int .i64 q0))).trans (Keep.set4 (o := nn * 256 + kk * 4 + 2) (.int .i64 p1))).trans (Keep.set4 (o := nn * 256 + kk * 4 + 3) (.int .i64 q1))
        have hg6 := (((HG.out.set HTR.out (o := nn * 256 + kk * 4) (.int .i64 p0)).set HTR.out (o := nn * 256 + kk * 4 + 1) (.int .i64 q0)).set HTR.out (o := nn * 256 + kk * 4 + 2) (.int .i64 p1)).set HTR.out (o := nn * 256 + kk * 4 + 3) (.int .i64 q1)
        have HR6 := Lib.hid hR6
        have HK6 := Lib.hid hk6
        have HG6 := Lib.hid hg6
        clear hR6 hk6 hg6
        rw [hok] at HRR
        clear hok
        go_upto_region 12 with (go_at_call 15; refine (HRR.out _).mono ?_; rintro e w8 ⟨rfl, R8, N8, rfl⟩)
        refine wp_region_seq 10 Tryz.mixed (by kernel_rfl) (by kernel_rfl) ?_
        iterate 10
          apply Seq.val
          focus
            rintro w1 u ⟨R1, n1, rfl⟩ hF
            simp [moreFacts, Fact.more, Oper.deps, Region.binds, List.filter_cons, World.more_drew] at hF
            simp [putFacts, Oper.deps, Region.binds, List.filter_cons, Region.dstOf, Fact.at, Act.put, World.more_drew]
            go_wp2
            exact ⟨by repeat (first | with_reducible exact Grew.refl _ | apply Grew.more | apply Grew.alloc | apply Grew.drew | apply Grew.drewN), rfl, _, _, rfl, rfl, rfl⟩
        rintro u w1 ⟨R1, n1, rfl⟩ hF
        clear hF
        simp [putFacts, Region.dstOf, Fact.at, Act.put, List.range_succ, World.more_drew]
        go_wp2
        go_roundg (l.length - (j + 1))
        case measure => omega
        case rel => exact ⟨j + 1, by omega, by omega, by go_num, Lib.hid ⟨_, (HPL.out.refs HR6.out HG6.out HK6.out).grew (by repeat (first | with_reducible exact Grew.refl _ | apply Grew.more | apply Grew.alloc | apply Grew.drew | apply Grew.drewN)), HRS.out⟩⟩
    · obtain rfl : j = l.length := by omega
      have hrl := HRL.out
      rw [List.take_length] at hrl
      have HRL9 := Lib.hid hrl
      clear hrl
      go_upto_block 2 with fail
      go_step
      refine pl_loop w _ a2 cap2 lc t b l.length tr (Tab.newT l) f _ _ HU.out hlc ⟨rfl, rfl, rfl, rfl, rfl, rfl, HPL.out, HRL9.out, by omega⟩ ?_ ?_
      · intro a' W' hfr hg
        rw [hfr]
        unfold frame7
        iterate 2 go_step
        go_wp2
        go_ret
        exact ⟨rfl, hg.trans (by repeat (first | with_reducible exact Grew.refl _ | apply Grew.more | apply Grew.alloc | apply Grew.drew | apply Grew.drewN))⟩
      · intro a' W' hr
        exact ret7_end hr
theorem cellPlays_any (v u : Value) (l : List Tab.En) (lc : List OpC) (w : World) (hv : EntsAt w v l) (hu : OpsAt w u lc) (h : Env4 w) :
    Calls Tryz.prog 7 #[v, u] w (Gives (.bool true) w) := by
  obtain ⟨a, cap, rfl, hm, -⟩ := EntsAt.open6 hv
  obtain ⟨a2, cap2, rfl, hm2, -⟩ := hu.open
  by_cases h100 : l.length ≤ 100
  case neg =>
    have HE := Lib.hid h
    clear hv hu h
    go_enter Tryz.func7, Tryz.ntmps7
    go_wp2_with (go_at_call 17; refine (awake07_any _ (HE.out.grew (by repeat (first | with_reducible exact Grew.refl _ | apply Grew.more | apply Grew.alloc | apply Grew.drew | apply Grew.drewN)))).mono ?_; rintro e w1 ⟨rfl, Ra, na, rfl⟩)
    go_ret
    refine ⟨rfl, ?_⟩
    repeat (first | with_reducible exact Grew.refl _ | apply Grew.more | apply Grew.alloc | apply Grew.drew | apply Grew.drewN)
  by_cases hlc : lc.length ≤ 100
  case neg =>
    have HE := Lib.hid h
    clear hv hu h
    go_enter Tryz.func7, Tryz.ntmps7
    go_wp2_with (go_at_call 17; refine (awake07_any _ (HE.out.grew (by repeat (first | with_reducible exact Grew.refl _ | apply Grew.more | apply Grew.alloc | apply Grew.drew | apply Grew.drewN)))).mono ?_; rintro e w1 ⟨rfl, Ra, na, rfl⟩)
    go_ret
    refine ⟨rfl, ?_⟩
    repeat (first | with_reducible exact Grew.refl _ | apply Grew.more | apply Grew.alloc | apply Grew.drew | apply Grew.drewN)
  cases ho : newOk l
  · exact plays_bad a cap _ l lc w hv hm hu h h100 hlc ho
  · exact plays_ok a cap _ l lc w hv hm hu h h100 hlc ho
end Go.Proofs.YtmdmbimfdpngaaaGreatDoor

/-! Values as arguments. -/
namespace Go.Proofs.YtmdmbimfdpngaaaGreatDoor
set_option linter.unusedSimpArgs false
set_option maxRecDepth 100000
set_option linter.unusedVariables false
open Go.RowKit Ga Go.ChangeShapes Go.WideShapes

theorem cells_int1 : Tryz.prog.cellsOf 3 = 1 := by kernel_rfl
theorem cells_val : Tryz.prog.cellsOf 47 = 2 := by kernel_rfl
theorem opens_val : Opens Tryz.prog 47 (fun _ cs (a : Ga.Val) => cs = [Value.int .i64 a.1, Value.int .i64 a.2] ∧ okVal a) := by
  intro H enc w fuel cs x hx
  obtain ⟨hl, hf⟩ := Opens.fields Tryz.underlying47 hx
  rw [cells_val] at hl
  match cs, hl with
  | [c0, c1], _ =>
    obtain ⟨n0, y0, h0⟩ := hf 0 _ rfl
    obtain ⟨n1, y1, h1⟩ := hf 1 _ rfl
    have h0' : DataW.trod enc Tryz.prog w 0 (fun _ => true) true n0 3 (([c0, c1].drop 0).take (Tryz.prog.cellsOf 3)) = some y0 := h0
    have h1' : DataW.trod enc Tryz.prog w 0 (fun _ => true) true n1 3 (([c0, c1].drop 1).take (Tryz.prog.cellsOf 3)) = some y1 := h1
    rw [cells_int1] at h0' h1'
    obtain ⟨i0, e0, b0⟩ := Opens.i64 Tryz.underlying3 H enc w n0 _ _ h0'
    obtain ⟨i1, e1, b1⟩ := Opens.i64 Tryz.underlying3 H enc w n1 _ _ h1'
    simp at e0 e1
    subst e0 e1
    exact ⟨(i0, i1), rfl, b0, b1⟩
theorem laidOut : laidOutB Tryz.prog = true := by kernel_rfl
theorem cells_ins : Tryz.prog.cellsOf 124 = 2 := by kernel_rfl
theorem opens_ins : Opens Tryz.prog 124 (fun _ cs (a : Ga.Val) => cs = [Value.int .i64 a.1, Value.int .i64 a.2] ∧ okVal a) := by
  intro H enc w fuel cs x hx
  obtain ⟨hl, hf⟩ := Opens.fields Tryz.underlying124 hx
  rw [cells_ins] at hl
  match cs, hl with
  | [c0, c1], _ =>
    obtain ⟨n0, y0, h0⟩ := hf 0 _ rfl
    obtain ⟨n1, y1, h1⟩ := hf 1 _ rfl
    have h0' : DataW.trod enc Tryz.prog w 0 (fun _ => true) true n0 3 (([c0, c1].drop 0).take (Tryz.prog.cellsOf 3)) = some y0 := h0
    have h1' : DataW.trod enc Tryz.prog w 0 (fun _ => true) true n1 3 (([c0, c1].drop 1).take (Tryz.prog.cellsOf 3)) = some y1 := h1
    rw [cells_int1] at h0' h1'
    obtain ⟨i0, e0, b0⟩ := Opens.i64 Tryz.underlying3 H enc w n0 _ _ h0'
    obtain ⟨i1, e1, b1⟩ := Opens.i64 Tryz.underlying3 H enc w n1 _ _ h1'
    simp at e0 e1
    subst e0 e1
    exact ⟨(i0, i1), rfl, b0, b1⟩
end Go.Proofs.YtmdmbimfdpngaaaGreatDoor

/-! Entries, records, numbers as arguments. -/
namespace Go.Proofs.YtmdmbimfdpngaaaGreatDoor
set_option linter.unusedSimpArgs false
set_option maxRecDepth 100000
set_option linter.unusedVariables false
open Go.RowKit Ga Go.ChangeShapes Go.WideShapes

theorem cellsO_arr : Tryz.prog.cellsOf 48 = 4 := by kernel_rfl
theorem cellsO_ent : Tryz.prog.cellsOf 53 = 6 := by kernel_rfl
theorem cellsO_rec : Tryz.prog.cellsOf 58 = 3 := by kernel_rfl
theorem opensI : Opens Tryz.prog 3 (fun _ cs (n : Int) => cs = [Value.int .i64 n] ∧ True) := (Opens.i64 Tryz.underlying3).mono fun _ _ n h => ⟨n, h.1, trivial⟩
theorem opensO_arr : Opens Tryz.prog 48 (fun _ cs (a : Ga.Val × Ga.Val) => cs = [Value.int .i64 a.1.1, Value.int .i64 a.1.2, Value.int .i64 a.2.1, Value.int .i64 a.2.2] ∧ True) := by
  intro H enc w fuel cs x hx
  obtain ⟨hl, hf⟩ := Opens.elems Tryz.underlying48 hx
  rw [cellsO_arr] at hl
  match cs, hl with
  | [c0, c1, c2, c3], _ =>
    obtain ⟨m0, y0, h0⟩ := hf 0 (by decide)
    obtain ⟨m1, y1, h1⟩ := hf 1 (by decide)
    rw [cells_val] at h0 h1
    obtain ⟨a, e0, -⟩ := opens_val H enc w m0 _ _ h0
    obtain ⟨b, e1, -⟩ := opens_val H enc w m1 _ _ h1
    simp at e0 e1
    obtain ⟨p0, p1⟩ := e0
    obtain ⟨p2, p3⟩ := e1
    subst p0 p1 p2 p3
    exact ⟨(a, b), rfl, trivial⟩
theorem opensO_ent : Opens Tryz.prog 53 (fun _ cs (x : Tab.En) => cs = encEn x ∧ True) := by
  intro H enc w fuel cs x hx
  obtain ⟨hl, hf⟩ := Opens.fields Tryz.underlying53 hx
  rw [cellsO_ent] at hl
  match cs, hl with
  | [c0, c1, c2, c3, c4, c5], _ =>
    obtain ⟨n0, y0, h0⟩ := hf 0 _ rfl
    obtain ⟨n1, y1, h1⟩ := hf 1 _ rfl
    obtain ⟨n2, y2, h2⟩ := hf 2 _ rfl
    have h0' : DataW.trod enc Tryz.prog w 0 (fun _ => true) true n0 3 (([c0, c1, c2, c3, c4, c5].drop 0).take (Tryz.prog.cellsOf 3)) = some y0 := h0
    rw [cells_int1] at h0'
    have h1' : DataW.trod enc Tryz.prog w 0 (fun _ => true) true n1 3 (([c0, c1, c2, c3, c4, c5].drop 1).take (Tryz.prog.cellsOf 3)) = some y1 := h1
    rw [cells_int1] at h1'
    have h2' : DataW.trod enc Tryz.prog w 0 (fun _ => true) true n2 48 (([c0, c1, c2, c3, c4, c5].drop 2).take (Tryz.prog.cellsOf 48)) = some y2 := h2
    rw [cellsO_arr] at h2'
    obtain ⟨i0, e0, -⟩ := opensI H enc w n0 _ _ h0'
    obtain ⟨i1, e1, -⟩ := opensI H enc w n1 _ _ h1'
    obtain ⟨⟨a, b⟩, e2, -⟩ := opensO_arr H enc w n2 _ _ h2'
    simp at e0 e1 e2
    obtain ⟨p0, p1, p2, p3⟩ := e2
    subst e0 e1 p0 p1 p2 p3
    exact ⟨⟨i0, i1, a, b⟩, rfl, trivial⟩
theorem opensO_rec : Opens Tryz.prog 58 (fun _ cs (x : Rc) => cs = encRc x ∧ True) := by
  intro H enc w fuel cs x hx
  obtain ⟨hl, hf⟩ := Opens.fields Tryz.underlying58 hx
  rw [cellsO_rec] at hl
  match cs, hl with
  | [c0, c1, c2], _ =>
    obtain ⟨n0, y0, h0⟩ := hf 0 _ rfl
    obtain ⟨n1, y1, h1⟩ := hf 1 _ rfl
    have h0' : DataW.trod enc Tryz.prog w 0 (fun _ => true) true n0 3 (([c0, c1, c2].drop 0).take (Tryz.prog.cellsOf 3)) = some y0 := h0
    rw [cells_int1] at h0'
    have h1' : DataW.trod enc Tryz.prog w 0 (fun _ => true) true n1 47 (([c0, c1, c2].drop 1).take (Tryz.prog.cellsOf 47)) = some y1 := h1
    rw [cells_val] at h1'
    obtain ⟨i0, e0, -⟩ := opensI H enc w n0 _ _ h0'
    obtain ⟨a, e1, -⟩ := opens_val H enc w n1 _ _ h1'
    simp at e0 e1
    obtain ⟨p0, p1⟩ := e1
    subst e0 p0 p1
    exact ⟨(i0, a), rfl, trivial⟩
theorem argO_ents {H : Type} {enc : TypeId × Value → H} {w : World} {v : Value} {d : DataW H} {ps : List MemPlace} {r : Reach} {b : Nat} (ho : Value.okWide Tryz.prog w r b 31 v) (h : DataW.Trod enc Tryz.prog w 0 (fun _ => true) true 31 v d ps) : ∃ l : List Tab.En, EntsAt w v l := by
  obtain ⟨l, u, h1, h2⟩ := (Opens.slice Tryz.underlying31 cellsO_ent (by decide) opensO_ent).arg h
  obtain rfl := cells_slice Tryz.underlying31 ho h1
  exact ⟨l, (SlAt.rows (enc := encEn) h2).1⟩
end Go.Proofs.YtmdmbimfdpngaaaGreatDoor
