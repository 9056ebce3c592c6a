import Derived.Test.YtmdmbimfdpngaaaGreatDoorMc42
import Derived.Test.YtmdmbimfdpngaaaGreatDoorMc43
import Derived.Test.YtmdmbimfdpngaaaGreatDoorMc44
import Derived.Deep.RegionHeld3
/-! cell: Run. -/
namespace Go.Proofs.YtmdmbimfdpngaaaGreatDoor
set_option linter.unusedSimpArgs false
set_option linter.unusedVariables false
open Go.RowKit Ga
set_option maxRecDepth 100000

/-- a program has run for a record -/
def RunTPost (w0 W : World) (t b n : Nat) (r : Int × List Val × List Tab.En) (ky : Int) (e : Ending) (W' : World) : Prop :=
  ∃ v, e = .returned (.tuple #[v, .int .i64 r.1]) ∧ RecsAt W' v (r.2.1.map fun x => (ky, x)) ∧ TableAt W' t b (n + 1) r.2.2 ∧ Grew w0 W' ∧ Keep b W W'
theorem infoRc : (Tryz.prog.info? 58).map (fun i => (i.zero, i.size, i.bytes)) = some (some (.agg #[.int .i64 0, .int .i64 0, .int .i64 0]), 3, 24) := by kernel_rfl
theorem rc_at (W : World) (x : Rc) (t : TypeId) (b : Nat) {c : Array Value} (hc : c = (encRc x).toArray) (hb : b = W.heap.size) : ∀ j u, (([x] : List Rc).flatMap encRc)[j]? = some u → (W.alloc (.cells c t)).cell? ⟨b, j, none⟩ = some u := by
  subst hc
  intro j u hu
  rw [new_cells W _ t b hb j]
  simpa using hu
set_option maxHeartbeats 8000000 in
theorem tabRun_any (w0 W : World) (t b n : Nat) (m : List Tab.En) (hT : TableAt W t b n m) (hO : OkT m) (hg : Grew w0 W) (hb : w0.heap.size ≤ b) (hn : n < maxLen) (nd : Int) (v : Value) (l : List Val) (hv : ValsAt W v l) (ky x y : Int) :
    Calls Tryz.prog 19 #[.pointer (some ⟨t, 0, none⟩), .int .i64 nd, v, .agg #[.int .i64 ky, .int .i64 x, .int .i64 y]] W (RunTPost w0 W t b n (runT m nd l ky (x, y)) ky) := by
  have HT := Lib.hid hT
  have HO := Lib.hid hO
  have HG := Lib.hid hg
  have HV := Lib.hid hv
  have HN := Lib.hid hn
  obtain ⟨av, cv, rfl⟩ := hv.len
  have HNE := Lib.hid hT.ne
  have hcd := runT_code m nd l ky (x, y)
  obtain ⟨r, hr⟩ : ∃ r, runT m nd l ky (x, y) = r := ⟨_, rfl⟩
  have HR := Lib.hid hr
  rw [hr] at hcd ⊢
  clear hT hO hg hv hn hr
  cases h1 : thereB nd ky
  case false =>
    have hrr : r = (1, [], m) := by rw [← HR.out]; unfold runT; rw [if_pos (by rw [h1]; rfl)]
    subst hrr
    have H1 := Lib.hid h1
    clear h1 hcd
    go_enter Tryz.func19, Tryz.ntmps19
    go_wp2_with (go_at_call 45; refine (there_any _ _ _).mono ?_; rintro e w1 ⟨rfl, rfl⟩; rw [H1.out])
    go_ret2
    exact ⟨_, rfl, RowsAt.nil, (HT.out.grew (by repeat (first | with_reducible exact Grew.refl _ | apply Grew.more | apply Grew.alloc | apply Grew.drew | apply Grew.drewN))).more (Nat.le_succ _), HG.out.trans (by repeat (first | with_reducible exact Grew.refl _ | apply Grew.more | apply Grew.alloc | apply Grew.drew | apply Grew.drewN)), Keep.ofGrew (by repeat (first | with_reducible exact Grew.refl _ | apply Grew.more | apply Grew.alloc | apply Grew.drew | apply Grew.drewN))⟩
  cases h2 : (thereB 0 ky && rightV (x, y))
  case false =>
    have hrr : r = (1, [], m) := by rw [← HR.out]; unfold runT; rw [if_pos (by rw [h1, h2]; rfl)]
    subst hrr
    have H1 := Lib.hid h1
    have H2 := Lib.hid h2
    clear h1 h2 hcd
    go_enter Tryz.func19, Tryz.ntmps19
    go_wp2_with (first
      | (go_at_call 45; refine (there_any _ _ _).mono ?_; rintro e w1 ⟨rfl, rfl⟩; rw [H1.out])
      | (go_at_call 46; refine (cellRight_any _ _ _ _).mono ?_; rintro e w1 ⟨rfl, R1, n1, rfl⟩; rw [H2.out]))
    go_ret2
    exact ⟨_, rfl, RowsAt.nil, (HT.out.grew (by repeat (first | with_reducible exact Grew.refl _ | apply Grew.more | apply Grew.alloc | apply Grew.drew | apply Grew.drewN))).more (Nat.le_succ _), HG.out.trans (by repeat (first | with_reducible exact Grew.refl _ | apply Grew.more | apply Grew.alloc | apply Grew.drew | apply Grew.drewN)), Keep.ofGrew (by repeat (first | with_reducible exact Grew.refl _ | apply Grew.more | apply Grew.alloc | apply Grew.drew | apply Grew.drewN))⟩
  have H1 := Lib.hid h1
  have H2 := Lib.hid h2
  obtain ⟨c, hc⟩ : ∃ c, getT m nd ky = c := ⟨_, rfl⟩
  obtain ⟨⟨p0, q0⟩, ⟨p1, q1⟩⟩ := c
  have HGET := Lib.hid fun W2 (g : Grew W W2) => tabGet_any W2 t b n m (HT.out.grew g) nd ky H1.out (p0, q0) (p1, q1) hc
  obtain ⟨r0, r1⟩ := getT_right HO.out nd ky
  rw [hc] at r0 r1
  simp only at r0 r1
  have hcode : Vm.codeOf l (p0, q0) (p1, q1) [(x, y)] = if Vm.safe l = false then 9 else 0 := by
    unfold Vm.codeOf
    simp only [Bool.and_eq_true] at h2
    simp [r0, r1, h2.2]
  have HCODE := Lib.hid hcode
  have HC := Lib.hid hc
  have HCD := Lib.hid hcd
  obtain ⟨cd, hce⟩ : ∃ cd, Vm.codeOf l (p0, q0) (p1, q1) [(x, y)] = cd := ⟨_, rfl⟩
  have HCE := Lib.hid hce
  clear h1 h2 hcd hc r0 r1 hcode hce
  go_enter Tryz.func19, Tryz.ntmps19
  go_upto_region 3 with (first
    | (go_at_call 45; refine (there_any _ _ _).mono ?_; rintro e w1 ⟨rfl, rfl⟩; rw [H1.out])
    | (go_at_call 46; refine (cellRight_any _ _ _ _).mono ?_; rintro e w1 ⟨rfl, R1, n1, rfl⟩; rw [H2.out]))
  go_cut [7, 10, 11] (fun s7 s10 s11 wx => ∃ (b10 : Nat) (ao : Option Addr) (no co : Nat) (n1 n2 n3 n4 n5 : Int), s7 = .pointer (some ⟨W.heap.size, 0, none⟩) ∧ s10 = .pointer (some ⟨b10, 0, none⟩) ∧ s11 = .int .i64 cd ∧ Grew (W.alloc (.cells #[.int .i64 ky, .int .i64 x, .int .i64 y] 58)) wx ∧ W.heap.size + 1 ≤ b10 ∧ wx.heap[b10]? = some (.cells #[.slice ao no co, .int .i64 n1, .int .i64 n2, .int .i64 n3, .int .i64 n4, .int .i64 n5] 110) ∧
    (cd = 0 → ValsAt wx (.slice ao no co) (Vm.each l ⟨[], (p0, q0), (p1, q1), 0⟩ [(x, y)]).out ∧ n1 = (Vm.each l ⟨[], (p0, q0), (p1, q1), 0⟩ [(x, y)]).c0.1 ∧ n2 = (Vm.each l ⟨[], (p0, q0), (p1, q1), 0⟩ [(x, y)]).c0.2 ∧ n3 = (Vm.each l ⟨[], (p0, q0), (p1, q1), 0⟩ [(x, y)]).c1.1 ∧ n4 = (Vm.each l ⟨[], (p0, q0), (p1, q1), 0⟩ [(x, y)]).c1.2))
  case first =>
    go_region_held3 (fun w' => w'.cell? ⟨W.heap.size, 0, none⟩ = some (.int .i64 ky) ∧ w'.cell? ⟨W.heap.size, 1, none⟩ = some (.int .i64 x) ∧ w'.cell? ⟨W.heap.size, 2, none⟩ = some (.int .i64 y)) ((refine ⟨?_, ?_, ?_⟩ <;> simp [go_sem])) (first
      | (go_simp; go_at_call 23; refine (HGET.out _ (by repeat (first | with_reducible exact Grew.refl _ | apply Grew.more | apply Grew.alloc | apply Grew.drew | apply Grew.drewN))).mono ?_; rintro e w1 ⟨rfl, R2, n2, rfl⟩)
      | (go_simp; go_at_call 47; refine (run1_any _ l x y p0 q0 p1 q1 _ (HV.out.grew (by repeat (first | with_reducible exact Grew.refl _ | apply Grew.more | apply Grew.alloc | apply Grew.drew | apply Grew.drewN)))).mono ?_; rintro e w1 hE; obtain ⟨ao2, no2, co2, m1, m2, m3, m4, m5, err2, rfl⟩ := hE.shape; (have hcd2 := hE.coded); obtain ⟨hq1, _, hq2⟩ := hcd2; (have HQ1 := Lib.hid hq1); (have HQ2 := Lib.hid hq2); clear hq1 hq2; obtain ⟨⟨R6, N6, hw⟩, _⟩ := hE; subst hw))
    · go_wp2_with fail
      go_meet
      refine ⟨_, ao2, no2, co2, m1, m2, m3, m4, m5, rfl, rfl, by rw [HQ1.out, HCE.out], by repeat (first | with_reducible exact Grew.refl _ | apply Grew.more | apply Grew.alloc | apply Grew.drew | apply Grew.drewN), by omega, grew_heap (by repeat (first | with_reducible exact Grew.refl _ | apply Grew.more | apply Grew.alloc | apply Grew.drew | apply Grew.drewN)) (heap_new_at _ _ _ (by simp [go_sem])), fun h0 => ?_⟩
      obtain ⟨u1, u2, u3, u4, u5, -⟩ := HQ2.out (by rw [HQ1.out, HCE.out]; exact h0)
      refine ⟨?_, u2, u3, u4, u5⟩
      exact (u1.rows encI_len).grew (by repeat (first | with_reducible exact Grew.refl _ | apply Grew.more | apply Grew.alloc | apply Grew.drew | apply Grew.drewN))
    all_goals
      go_wp2_with fail
      go_meet
      refine ⟨_, ao2, no2, co2, m1, m2, m3, m4, m5, rfl, rfl, by rw [HQ1.out, HCE.out], by repeat (first | with_reducible exact Grew.refl _ | apply Grew.more | apply Grew.alloc | apply Grew.drew | apply Grew.drewN), by omega, grew_heap (by repeat (first | with_reducible exact Grew.refl _ | apply Grew.more | apply Grew.alloc | apply Grew.drew | apply Grew.drewN)) (heap_new_at _ _ _ (by simp [go_sem])), fun h0 => ?_⟩
      obtain ⟨u1, u2, u3, u4, u5, -⟩ := HQ2.out (by rw [HQ1.out, HCE.out]; exact h0)
      refine ⟨?_, u2, u3, u4, u5⟩
      exact (OwnAt.same u1 fun b hb => heap_more_same (by simp [World.size_alloc, World.more_size]) _ _ _ (by have := u1.lt b hb; simp [World.size_alloc, World.more_size] at this ⊢; omega)).rows encI_len
  case rest =>
    obtain ⟨b10, ao, no, co, n1', n2', n3', n4', n5', rfl, rfl, rfl, hgw, hb10, hc10, hok⟩ := hcut
    have HGW := Lib.hid hgw
    have HC10 := Lib.hid hc10
    have HOK := Lib.hid hok
    have k0 := cell_of (o := 0) hc10
    have k1 := cell_of (o := 1) hc10
    have k2 := cell_of (o := 2) hc10
    have k3 := cell_of (o := 3) hc10
    have k4 := cell_of (o := 4) hc10
    simp at k0 k1 k2 k3 k4
    have pb := Pre.mk (heap_lt hc10)
    have hbx : wc.heap[W.heap.size]? = some (.cells #[.int .i64 ky, .int .i64 x, .int .i64 y] 58) := grew_heap hgw (heap_new_at _ _ _ rfl)
    have j0 := cell_of (o := 0) hbx
    simp at j0
    have pw := Pre.mk (heap_lt hbx)
    have HBX := Lib.hid hbx
    clear hgw hc10 hok hbx
    by_cases hz : cd = 0
    · subst hz
      obtain ⟨hvo, e1, e2, e3, e4⟩ := HOK.out rfl
      have hs : Vm.safe l = true := by
        cases hs : Vm.safe l
        · have := HCODE.out
          rw [HCE.out, hs] at this
          cases this
        · rfl
      have hrr : r = (0, (Vm.each l ⟨[], (p0, q0), (p1, q1), 0⟩ [(x, y)]).out, Tab.setT m ⟨nd, ky, (Vm.each l ⟨[], (p0, q0), (p1, q1), 0⟩ [(x, y)]).c0, (Vm.each l ⟨[], (p0, q0), (p1, q1), 0⟩ [(x, y)]).c1⟩) := by
        rw [← HR.out]; unfold runT; rw [if_neg (by rw [H1.out, H2.out]; simp), if_neg (by rw [hs]; simp), HC.out]; rfl
      have hfour := Vm.each1_four hs (p0, q0) (p1, q1) (x, y)
      have hok := runT_ok HO.out nd l ky (x, y)
      have hen : okEn ⟨nd, ky, (Vm.each l ⟨[], (p0, q0), (p1, q1), 0⟩ [(x, y)]).c0, (Vm.each l ⟨[], (p0, q0), (p1, q1), 0⟩ [(x, y)]).c1⟩ = true := by
        obtain ⟨r0, r1⟩ := getT_right HO.out nd ky
        rw [HC.out] at r0 r1
        have h2 := H2.out
        simp only [Bool.and_eq_true] at h2
        obtain ⟨q0', q1'⟩ := runC_right hs (c := ((p0, q0), (p1, q1))) r0 r1 h2.2
        unfold okEn
        unfold runC at q0' q1'
        rw [H1.out]
        simp only at q0' q1' ⊢
        rw [q0', q1']
        rfl
      generalize Vm.each l ⟨[], (p0, q0), (p1, q1), 0⟩ [(x, y)] = E at *
      obtain ⟨out, ⟨a0, b0⟩, ⟨a1, b1⟩, es⟩ := E
      simp only at hvo e1 e2 e3 e4 hrr hfour hen
      subst e1 e2 e3 e4 hrr
      have HVO := Lib.hid hvo
      have HGC := Lib.hid (((Grew.refl W).alloc (.cells #[.int .i64 ky, .int .i64 x, .int .i64 y] 58)).trans HGW.out)
      have HS := Lib.hid fun W9 (g : Grew wc W9) => tabSet_c w0 W9 t b n m nd ky n1' n2' n3' n4' (HT.out.grew (HGC.out.trans g)) (HG.out.trans (HGC.out.trans g)) hb HN.out
      have hsr : setR m ⟨nd, ky, (n1', n2'), (n3', n4')⟩ = (0, Tab.setT m ⟨nd, ky, (n1', n2'), (n3', n4')⟩) := by unfold setR; rw [if_pos hen]
      rw [hsr] at HS
      clear hvo hs hok hen hsr
      go_upto_region 8 with (go_at_call 26; refine (HS.out _ (by repeat (first | with_reducible exact Grew.refl _ | apply Grew.more | apply Grew.alloc | apply Grew.drew | apply Grew.drewN))).mono ?_; rintro e W5 ⟨rfl, h5, g5, k5⟩; (have HT5 := Lib.hid h5); (have HG5 := Lib.hid g5); (have HK5 := Lib.hid k5); clear h5 g5 k5; simp only)
      have hbB := HT.out.2.lt
      have hWs := HGC.out.below.size
      have hc5 : W5.heap[b10]? = some (.cells #[.slice ao no co, .int .i64 n1', .int .i64 n2', .int .i64 n3', .int .i64 n4', .int .i64 n5'] 110) := by rw [HK5.out.2 b10 (heap_lt HC10.out) (by omega)]; exact HC10.out
      have hb5 : W5.heap[W.heap.size]? = some (.cells #[.int .i64 ky, .int .i64 x, .int .i64 y] 58) := by rw [HK5.out.2 _ (heap_lt HBX.out) (by omega)]; exact HBX.out
      have f0 := cell_of (o := 0) hc5
      have g0 := cell_of (o := 0) hb5
      simp at f0 g0
      have pf := Pre.mk (heap_lt hc5)
      have pg := Pre.mk (heap_lt hb5)
      have HB5 := Lib.hid hb5
      have hvo5 : ValsAt W5 (.slice ao no co) out := rows_keepB HVO.out HK5.out (fun c t f => TabAt.nocells (HT.out.2.grew HGC.out) c t f)
      obtain ⟨ao', co', e, hmo, -⟩ := hvo5.open2
      cases e
      have HVO5 := Lib.hid hvo5
      clear hc5 hb5 hvo5 k0 k1 k2 k3 k4 j0
      go_wp2
      go_loopg [12, 54] out.length (fun gg s12 s54 wr => ∃ k : Nat, k ≤ out.length ∧ out.length - k ≤ gg ∧ s54 = .int .i64 k ∧ Hid (Grew W5 wr) ∧ Hid (OwnAt W5.heap.size 58 3 encRc wr s12 ((out.take k).map fun v => (ky, v))))
      case atStart => exact ⟨0, by omega, by omega, rfl, Lib.hid (Grew.refl _), Lib.hid (OwnAt.nil _)⟩
      case round =>
        obtain ⟨k, hk, hgg, rfl, HGR, HOW⟩ := hrel
        by_cases hlt : k < out.length
        · obtain ⟨a', cap', e, -, hx⟩ := (HVO5.out.grew HGR.out).open2
          cases e
          obtain ⟨bq, off, rfl, hbq, c0, c1⟩ := hx k hlt
          have HNX : Hid (((out.take (k + 1)).map fun v => (ky, v)) = ((out.take k).map fun v => (ky, v)) ++ [(ky, out[k])]) := Lib.hid (by rw [List.take_succ_eq_append_getElem hlt, List.map_append]; rfl)
          have gr := cell_of (o := 0) (grew_heap HGR.out HB5.out)
          simp at gr
          have pgr := Pre.mk (heap_lt (grew_heap HGR.out HB5.out))
          clear hx
          generalize out[k] = u at *
          obtain ⟨u0, u1⟩ := u
          simp only at c0 c1
          go_wp2_with (at_builtin; go_loud (refine wpList_ownK (w0 := W5) rfl (.tmp 58) (.tmp 63) 63 _ _ _ _ [(ky, (u0, u1))] rfl Tryz.underlying63 infoRc rfl (by decide) encRc_len encRc_one rfl (OwnAt.grew HOW.out (by repeat (first | with_reducible exact Grew.refl _ | apply Grew.more | apply Grew.alloc | apply Grew.drew | apply Grew.drewN))) (HGR.out.trans (by repeat (first | with_reducible exact Grew.refl _ | apply Grew.more | apply Grew.alloc | apply Grew.drew | apply Grew.drewN))) rfl (rc_at _ _ _ _ rfl (by simp [go_sem])) (by simp; omega) (by decide) (by simp) ?_; intro v7 W7 hA; (have HA := Lib.hid hA); clear hA))
          go_roundg (out.length - (k + 1))
          case measure => omega
          case rel => exact ⟨k + 1, by omega, by omega, by go_num, Lib.hid HA.out.1, Lib.hid (by rw [HNX.out]; exact HA.out.2.1)⟩
        · obtain rfl : k = out.length := by omega
          have how := HOW.out
          rw [List.take_length] at how
          have HOW9 := Lib.hid how
          obtain ⟨ak, ck, rfl⟩ := (OwnAt.rows how encRc_len).len
          clear how
          go_wp2
          go_ret2
          exact ⟨_, rfl, OwnAt.rows HOW9.out encRc_len, HT5.out.grew HGR.out, HG5.out.trans HGR.out, ((Keep.ofGrew HGC.out).trans HK5.out).trans (Keep.ofGrew HGR.out)⟩
    · have hs : Vm.safe l = false := by
        cases hs : Vm.safe l
        · rfl
        · have := HCODE.out
          rw [HCE.out, hs] at this
          exact absurd this hz
      have h9 : cd = 9 := by
        have := HCODE.out
        rw [HCE.out, hs] at this
        exact this
      subst h9
      have hrr : r = (9, [], m) := by rw [← HR.out]; unfold runT; rw [if_neg (by rw [H1.out, H2.out]; simp), if_pos hs]
      subst hrr
      clear hs hz
      go_wp2
      go_ret2
      exact ⟨_, rfl, RowsAt.nil, (HT.out.grew ((Grew.refl W).alloc _ |>.trans HGW.out)).more (Nat.le_succ _), HG.out.trans ((Grew.refl W).alloc _ |>.trans HGW.out), Keep.ofGrew ((Grew.refl W).alloc _ |>.trans HGW.out)⟩
end Go.Proofs.YtmdmbimfdpngaaaGreatDoor
