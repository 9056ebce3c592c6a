import Derived.Test.YtmdmbimfdpngaaaGreatDoorMp28
import Derived.Test.YtmdmbimfdpngaaaGreatDoorMp29
import Derived.Deep.RegionHeld3
import Derived.Test.YtmdmbimfdpngaaaGreatDoorMp19
/-! cell: Run. -/
namespace Go.Proofs.YtmdmbimfdpngaaaGreatDoor
set_option linter.unusedSimpArgs false
set_option linter.unusedVariables false
open Go.RowKit Ga
set_option maxRecDepth 100000

/-- a program has run for a record; what is put out lies in memory of the call's own -/
def RunTPostO (w0 W : World) (t b n : Nat) (r : Int × List Val × List Tab.En) (ky : Int) (e : Ending) (W' : World) : Prop :=
  ∃ v, e = .returned (.tuple #[v, .int .i64 r.1]) ∧ OwnAt W.heap.size 58 3 encRc W' v (r.2.1.map fun x => (ky, x)) ∧ TableAt W' t b (n + 1) r.2.2 ∧ Grew w0 W' ∧ Keep b W W'
theorem infoRc : (Tryz.prog.info? 58).map (fun i => (i.zero, i.size, i.bytes)) = some (some (.agg #[.int .i64 0, .int .i64 0, .int .i64 0]), 3, 24) := by kernel_rfl
theorem rc_at (W : World) (x : Rc) (t : TypeId) (b : Nat) {c : Array Value} (hc : c = (encRc x).toArray) (hb : b = W.heap.size) : ∀ j u, (([x] : List Rc).flatMap encRc)[j]? = some u → (W.alloc (.cells c t)).cell? ⟨b, j, none⟩ = some u := by
  subst hc
  intro j u hu
  rw [new_cells W _ t b hb j]
  simpa using hu
set_option maxHeartbeats 8000000 in
theorem tabRunO_any (w0 W : World) (t b n : Nat) (m : List Tab.En) (hT : TableAt W t b n m) (hO : OkT m) (hg : Grew w0 W) (hb : w0.heap.size ≤ b) (hn : n < maxLen) (nd : Int) (v : Value) (l : List Val) (hv : ValsAt W v l) (ky x y : Int) :
    Calls Tryz.prog 19 #[.pointer (some ⟨t, 0, none⟩), .int .i64 nd, v, .agg #[.int .i64 ky, .int .i64 x, .int .i64 y]] W (RunTPostO w0 W t b n (runT m nd l ky (x, y)) ky) := by
  have HT := Lib.hid hT
  have HO := Lib.hid hO
  have HG := Lib.hid hg
  have HV := Lib.hid hv
  have HN := Lib.hid hn
  obtain ⟨av, cv, rfl⟩ := hv.len
  have HNE := Lib.hid hT.ne
  have hcd := runT_code m nd l ky (x, y)
  obtain ⟨r, hr⟩ : ∃ r, runT m nd l ky (x, y) = r := ⟨_, rfl⟩
  have HR := Lib.hid hr
  rw [hr] at hcd ⊢
  clear hT hO hg hv hn hr
  cases h1 : thereB nd ky
  case false =>
    have hrr : r = (1, [], m) := by rw [← HR.out]; unfold runT; rw [if_pos (by rw [h1]; rfl)]
    subst hrr
    have H1 := Lib.hid h1
    clear h1 hcd
    go_enter Tryz.func19, Tryz.ntmps19
    go_wp2_with (go_at_call 45; refine (there_any _ _ _).mono ?_; rintro e w1 ⟨rfl, rfl⟩; rw [H1.out])
    go_ret2
    exact ⟨_, rfl, OwnAt.nil _, (HT.out.grew (by repeat (first | with_reducible exact Grew.refl _ | apply Grew.more | apply Grew.alloc | apply Grew.drew | apply Grew.drewN))).more (Nat.le_succ _), HG.out.trans (by repeat (first | with_reducible exact Grew.refl _ | apply Grew.more | apply Grew.alloc | apply Grew.drew | apply Grew.drewN)), Keep.ofGrew (by repeat (first | with_reducible exact Grew.refl _ | apply Grew.more | apply Grew.alloc | apply Grew.drew | apply Grew.drewN))⟩
  cases h2 : (thereB 0 ky && rightV (x, y))
  case false =>
    have hrr : r = (1, [], m) := by rw [← HR.out]; unfold runT; rw [if_pos (by rw [h1, h2]; rfl)]
    subst hrr
    have H1 := Lib.hid h1
    have H2 := Lib.hid h2
    clear h1 h2 hcd
    go_enter Tryz.func19, Tryz.ntmps19
    go_wp2_with (first
      | (go_at_call 45; refine (there_any _ _ _).mono ?_; rintro e w1 ⟨rfl, rfl⟩; rw [H1.out])
      | (go_at_call 46; refine (cellRight_any _ _ _ _).mono ?_; rintro e w1 ⟨rfl, R1, n1, rfl⟩; rw [H2.out]))
    go_ret2
    exact ⟨_, rfl, OwnAt.nil _, (HT.out.grew (by repeat (first | with_reducible exact Grew.refl _ | apply Grew.more | apply Grew.alloc | apply Grew.drew | apply Grew.drewN))).more (Nat.le_succ _), HG.out.trans (by repeat (first | with_reducible exact Grew.refl _ | apply Grew.more | apply Grew.alloc | apply Grew.drew | apply Grew.drewN)), Keep.ofGrew (by repeat (first | with_reducible exact Grew.refl _ | apply Grew.more | apply Grew.alloc | apply Grew.drew | apply Grew.drewN))⟩
  have H1 := Lib.hid h1
  have H2 := Lib.hid h2
  obtain ⟨c, hc⟩ : ∃ c, getT m nd ky = c := ⟨_, rfl⟩
  obtain ⟨⟨p0, q0⟩, ⟨p1, q1⟩⟩ := c
  have HGET := Lib.hid fun W2 (g : Grew W W2) => tabGet_any W2 t b n m (HT.out.grew g) nd ky H1.out (p0, q0) (p1, q1) hc
  obtain ⟨r0, r1⟩ := getT_right HO.out nd ky
  rw [hc] at r0 r1
  simp only at r0 r1
  have hcode : Vm.codeOf l (p0, q0) (p1, q1) [(x, y)] = if Vm.safe l = false then 9 else 0 := by
    unfold Vm.codeOf
    simp only [Bool.and_eq_true] at h2
    simp [r0, r1, h2.2]
  have HCODE := Lib.hid hcode
  have HC := Lib.hid hc
  have HCD := Lib.hid hcd
  obtain ⟨cd, hce⟩ : ∃ cd, Vm.codeOf l (p0, q0) (p1, q1) [(x, y)] = cd := ⟨_, rfl⟩
  have HCE := Lib.hid hce
  clear h1 h2 hcd hc r0 r1 hcode hce
  go_enter Tryz.func19, Tryz.ntmps19
  go_upto_region 3 with (first
    | (go_at_call 45; refine (there_any _ _ _).mono ?_; rintro e w1 ⟨rfl, rfl⟩; rw [H1.out])
    | (go_at_call 46; refine (cellRight_any _ _ _ _).mono ?_; rintro e w1 ⟨rfl, R1, n1, rfl⟩; rw [H2.out]))
  go_cut [7, 10, 11] (fun s7 s10 s11 wx => ∃ (b10 : Nat) (ao : Option Addr) (no co : Nat) (n1 n2 n3 n4 n5 : Int), s7 = .pointer (some ⟨W.heap.size, 0, none⟩) ∧ s10 = .pointer (some ⟨b10, 0, none⟩) ∧ s11 = .int .i64 cd ∧ Grew (W.alloc (.cells #[.int .i64 ky, .int .i64 x, .int .i64 y] 58)) wx ∧ W.heap.size + 1 ≤ b10 ∧ wx.heap[b10]? = some (.cells #[.slice ao no co, .int .i64 n1, .int .i64 n2, .int .i64 n3, .int .i64 n4, .int .i64 n5] 110) ∧
    (cd = 0 → ValsAt wx (.slice ao no co) (Vm.each l ⟨[], (p0, q0), (p1, q1), 0⟩ [(x, y)]).out ∧ n1 = (Vm.each l ⟨[], (p0, q0), (p1, q1), 0⟩ [(x, y)]).c0.1 ∧ n2 = (Vm.each l ⟨[], (p0, q0), (p1, q1), 0⟩ [(x, y)]).c0.2 ∧ n3 = (Vm.each l ⟨[], (p0, q0), (p1, q1), 0⟩ [(x, y)]).c1.1 ∧ n4 = (Vm.each l ⟨[], (p0, q0), (p1, q1), 0⟩ [(x, y)]).c1.2))
  case first =>
    go_region_held3 (fun w' => w'.cell? ⟨W.heap.size, 0, none⟩ = some (.int .i64 ky) ∧ w'.cell? ⟨W.heap.size, 1, none⟩ = some (.int .i64 x) ∧ w'.cell? ⟨W.heap.size, 2, none⟩ = some (.int .i64 y)) ((refine ⟨?_, ?_, ?_⟩ <;> simp [go_sem])) (first
      | (go_simp; go_at_call 23; refine (HGET.out _ (by repeat (first | with_reducible exact Grew.refl _ | apply Grew.more | apply Grew.alloc | apply Grew.drew | apply Grew.drewN))).mono ?_; rintro e w1 ⟨rfl, R2, n2, rfl⟩)
      | (go_simp; go_at_call 47; refine (run1_any _ l x y p0 q0 p1 q1 _ (HV.out.grew (by repeat (first | with_reducible exact Grew.refl _ | apply Grew.more | apply Grew.alloc | apply Grew.drew | apply Grew.drewN)))).mono ?_; rintro e w1 hE; obtain ⟨ao2, no2, co2, m1, m2, m3, m4, m5, err2, rfl⟩ := hE.shape; (have hcd2 := hE.coded); obtain ⟨hq1, _, hq2⟩ := hcd2; (have HQ1 := Lib.hid hq1); (have HQ2 := Lib.hid hq2); clear hq1 hq2; obtain ⟨⟨R6, N6, hw⟩, _⟩ := hE; subst hw))
    · go_wp2_with fail
      go_meet
      refine ⟨_, ao2, no2, co2, m1, m2, m3, m4, m5, rfl, rfl, by rw [HQ1.out, HCE.out], by repeat (first | with_reducible exact Grew.refl _ | apply Grew.more | apply Grew.alloc | apply Grew.drew | apply Grew.drewN), by omega, grew_heap (by repeat (first | with_reducible exact Grew.refl _ | apply Grew.more | apply Grew.alloc | apply Grew.drew | apply Grew.drewN)) (heap_new_at _ _ _ (by simp [go_sem])), fun h0 => ?_⟩
      obtain ⟨u1, u2, u3, u4, u5, -⟩ := HQ2.out (by rw [HQ1.out, HCE.out]; exact h0)
      refine ⟨?_, u2, u3, u4, u5⟩
      exact (u1.rows encI_len).grew (by repeat (first | with_reducible exact Grew.refl _ | apply Grew.more | apply Grew.alloc | apply Grew.drew | apply Grew.drewN))
    all_goals
      go_wp2_with fail
      go_meet
      refine ⟨_, ao2, no2, co2, m1, m2, m3, m4, m5, rfl, rfl, by rw [HQ1.out, HCE.out], by repeat (first | with_reducible exact Grew.refl _ | apply Grew.more | apply Grew.alloc | apply Grew.drew | apply Grew.drewN), by omega, grew_heap (by repeat (first | with_reducible exact Grew.refl _ | apply Grew.more | apply Grew.alloc | apply Grew.drew | apply Grew.drewN)) (heap_new_at _ _ _ (by simp [go_sem])), fun h0 => ?_⟩
      obtain ⟨u1, u2, u3, u4, u5, -⟩ := HQ2.out (by rw [HQ1.out, HCE.out]; exact h0)
      refine ⟨?_, u2, u3, u4, u5⟩
      exact (OwnAt.same u1 fun b hb => heap_more_same (by simp [World.size_alloc, World.more_size]) _ _ _ (by have := u1.lt b hb; simp [World.size_alloc, World.more_size] at this ⊢; omega)).rows encI_len
  case rest =>
    obtain ⟨b10, ao, no, co, n1', n2', n3', n4', n5', rfl, rfl, rfl, hgw, hb10, hc10, hok⟩ := hcut
    have HGW := Lib.hid hgw
    have HC10 := Lib.hid hc10
    have HOK := Lib.hid hok
    have k0 := cell_of (o := 0) hc10
    have k1 := cell_of (o := 1) hc10
    have k2 := cell_of (o := 2) hc10
    have k3 := cell_of (o := 3) hc10
    have k4 := cell_of (o := 4) hc10
    simp at k0 k1 k2 k3 k4
    have pb := Pre.mk (heap_lt hc10)
    have hbx : wc.heap[W.heap.size]? = some (.cells #[.int .i64 ky, .int .i64 x, .int .i64 y] 58) := grew_heap hgw (heap_new_at _ _ _ rfl)
    have j0 := cell_of (o := 0) hbx
    simp at j0
    have pw := Pre.mk (heap_lt hbx)
    have HBX := Lib.hid hbx
    clear hgw hc10 hok hbx
    by_cases hz : cd = 0
    · subst hz
      obtain ⟨hvo, e1, e2, e3, e4⟩ := HOK.out rfl
      have hs : Vm.safe l = true := by
        cases hs : Vm.safe l
        · have := HCODE.out
          rw [HCE.out, hs] at this
          cases this
        · rfl
      have hrr : r = (0, (Vm.each l ⟨[], (p0, q0), (p1, q1), 0⟩ [(x, y)]).out, Tab.setT m ⟨nd, ky, (Vm.each l ⟨[], (p0, q0), (p1, q1), 0⟩ [(x, y)]).c0, (Vm.each l ⟨[], (p0, q0), (p1, q1), 0⟩ [(x, y)]).c1⟩) := by
        rw [← HR.out]; unfold runT; rw [if_neg (by rw [H1.out, H2.out]; simp), if_neg (by rw [hs]; simp), HC.out]; rfl
      have hfour := Vm.each1_four hs (p0, q0) (p1, q1) (x, y)
      have hok := runT_ok HO.out nd l ky (x, y)
      have hen : okEn ⟨nd, ky, (Vm.each l ⟨[], (p0, q0), (p1, q1), 0⟩ [(x, y)]).c0, (Vm.each l ⟨[], (p0, q0), (p1, q1), 0⟩ [(x, y)]).c1⟩ = true := by
        obtain ⟨r0, r1⟩ := getT_right HO.out nd ky
        rw [HC.out] at r0 r1
        have h2 := H2.out
        simp only [Bool.and_eq_true] at h2
        obtain ⟨q0', q1'⟩ := runC_right hs (c := ((p0, q0), (p1, q1))) r0 r1 h2.2
        unfold okEn
        unfold runC at q0' q1'
        rw [H1.out]
        simp only at q0' q1' ⊢
        rw [q0', q1']
        rfl
      generalize Vm.each l ⟨[], (p0, q0), (p1, q1), 0⟩ [(x, y)] = E at *
      obtain ⟨out, ⟨a0, b0⟩, ⟨a1, b1⟩, es⟩ := E
      simp only at hvo e1 e2 e3 e4 hrr hfour hen
      subst e1 e2 e3 e4 hrr
      have HVO := Lib.hid hvo
      have HGC := Lib.hid (((Grew.refl W).alloc (.cells #[.int .i64 ky, .int .i64 x, .int .i64 y] 58)).trans HGW.out)
      have HS := Lib.hid fun W9 (g : Grew wc W9) => tabSet_c w0 W9 t b n m nd ky n1' n2' n3' n4' (HT.out.grew (HGC.out.trans g)) (HG.out.trans (HGC.out.trans g)) hb HN.out
      have hsr : setR m ⟨nd, ky, (n1', n2'), (n3', n4')⟩ = (0, Tab.setT m ⟨nd, ky, (n1', n2'), (n3', n4')⟩) := by unfold setR; rw [if_pos hen]
      rw [hsr] at HS
      clear hvo hs hok hen hsr
      go_upto_region 8 with (go_at_call 26; refine (HS.out _ (by repeat (first | with_reducible exact Grew.refl _ | apply Grew.more | apply Grew.alloc | apply Grew.drew | apply Grew.drewN))).mono ?_; rintro e W5 ⟨rfl, h5, g5, k5⟩; (have HT5 := Lib.hid h5); (have HG5 := Lib.hid g5); (have HK5 := Lib.hid k5); clear h5 g5 k5; simp only)
      have hbB := HT.out.2.lt
      have hWs := HGC.out.below.size
      have hc5 : W5.heap[b10]? = some (.cells #[.slice ao no co, .int .i64 n1', .int .i64 n2', .int .i64 n3', .int .i64 n4', .int .i64 n5'] 110) := by rw [HK5.out.2 b10 (heap_lt HC10.out) (by omega)]; exact HC10.out
      have hb5 : W5.heap[W.heap.size]? = some (.cells #[.int .i64 ky, .int .i64 x, .int .i64 y] 58) := by rw [HK5.out.2 _ (heap_lt HBX.out) (by omega)]; exact HBX.out
      have f0 := cell_of (o := 0) hc5
      have g0 := cell_of (o := 0) hb5
      simp at f0 g0
      have pf := Pre.mk (heap_lt hc5)
      have pg := Pre.mk (heap_lt hb5)
      have HB5 := Lib.hid hb5
      have hvo5 : ValsAt W5 (.slice ao no co) out := rows_keepB HVO.out HK5.out (fun c t f => TabAt.nocells (HT.out.2.grew HGC.out) c t f)
      obtain ⟨ao', co', e, hmo, -⟩ := hvo5.open2
      cases e
      have HVO5 := Lib.hid hvo5
      clear hc5 hb5 hvo5 k0 k1 k2 k3 k4 j0
      go_wp2
      go_loopg [12, 54] out.length (fun gg s12 s54 wr => ∃ k : Nat, k ≤ out.length ∧ out.length - k ≤ gg ∧ s54 = .int .i64 k ∧ Hid (Grew W5 wr) ∧ Hid (OwnAt W5.heap.size 58 3 encRc wr s12 ((out.take k).map fun v => (ky, v))))
      case atStart => exact ⟨0, by omega, by omega, rfl, Lib.hid (Grew.refl _), Lib.hid (OwnAt.nil _)⟩
      case round =>
        obtain ⟨k, hk, hgg, rfl, HGR, HOW⟩ := hrel
        by_cases hlt : k < out.length
        · obtain ⟨a', cap', e, -, hx⟩ := (HVO5.out.grew HGR.out).open2
          cases e
          obtain ⟨bq, off, rfl, hbq, c0, c1⟩ := hx k hlt
          have HNX : Hid (((out.take (k + 1)).map fun v => (ky, v)) = ((out.take k).map fun v => (ky, v)) ++ [(ky, out[k])]) := Lib.hid (by rw [List.take_succ_eq_append_getElem hlt, List.map_append]; rfl)
          have gr := cell_of (o := 0) (grew_heap HGR.out HB5.out)
          simp at gr
          have pgr := Pre.mk (heap_lt (grew_heap HGR.out HB5.out))
          clear hx
          generalize out[k] = u at *
          obtain ⟨u0, u1⟩ := u
          simp only at c0 c1
          go_wp2_with (at_builtin; go_loud (refine wpList_ownK (w0 := W5) rfl (.tmp 58) (.tmp 63) 63 _ _ _ _ [(ky, (u0, u1))] rfl Tryz.underlying63 infoRc rfl (by decide) encRc_len encRc_one rfl (OwnAt.grew HOW.out (by repeat (first | with_reducible exact Grew.refl _ | apply Grew.more | apply Grew.alloc | apply Grew.drew | apply Grew.drewN))) (HGR.out.trans (by repeat (first | with_reducible exact Grew.refl _ | apply Grew.more | apply Grew.alloc | apply Grew.drew | apply Grew.drewN))) rfl (rc_at _ _ _ _ rfl (by simp [go_sem])) (by simp; omega) (by decide) (by simp) ?_; intro v7 W7 hA; (have HA := Lib.hid hA); clear hA))
          go_roundg (out.length - (k + 1))
          case measure => omega
          case rel => exact ⟨k + 1, by omega, by omega, by go_num, Lib.hid HA.out.1, Lib.hid (by rw [HNX.out]; exact HA.out.2.1)⟩
        · obtain rfl : k = out.length := by omega
          have how := HOW.out
          rw [List.take_length] at how
          have HOW9 := Lib.hid how
          obtain ⟨ak, ck, rfl⟩ := (OwnAt.rows how encRc_len).len
          clear how
          go_wp2
          go_ret2
          exact ⟨_, rfl, OwnAt.low HOW9.out (Nat.le_trans hWs HK5.out.1), HT5.out.grew HGR.out, HG5.out.trans HGR.out, ((Keep.ofGrew HGC.out).trans HK5.out).trans (Keep.ofGrew HGR.out)⟩
    · have hs : Vm.safe l = false := by
        cases hs : Vm.safe l
        · rfl
        · have := HCODE.out
          rw [HCE.out, hs] at this
          exact absurd this hz
      have h9 : cd = 9 := by
        have := HCODE.out
        rw [HCE.out, hs] at this
        exact this
      subst h9
      have hrr : r = (9, [], m) := by rw [← HR.out]; unfold runT; rw [if_neg (by rw [H1.out, H2.out]; simp), if_pos hs]
      subst hrr
      clear hs hz
      go_wp2
      go_ret2
      exact ⟨_, rfl, OwnAt.nil _, (HT.out.grew ((Grew.refl W).alloc _ |>.trans HGW.out)).more (Nat.le_succ _), HG.out.trans ((Grew.refl W).alloc _ |>.trans HGW.out), Keep.ofGrew ((Grew.refl W).alloc _ |>.trans HGW.out)⟩
/-- .. -/
def RunTPost (w0 W : World) (t b n : Nat) (r : Int × List Val × List Tab.En) (ky : Int) (e : Ending) (W' : World) : Prop :=
  ∃ v, e = .returned (.tuple #[v, .int .i64 r.1]) ∧ RecsAt W' v (r.2.1.map fun x => (ky, x)) ∧ TableAt W' t b (n + 1) r.2.2 ∧ Grew w0 W' ∧ Keep b W W'
theorem tabRun_any (w0 W : World) (t b n : Nat) (m : List Tab.En) (hT : TableAt W t b n m) (hO : OkT m) (hg : Grew w0 W) (hb : w0.heap.size ≤ b) (hn : n < maxLen) (nd : Int) (v : Value) (l : List Val) (hv : ValsAt W v l) (ky x y : Int) :
    Calls Tryz.prog 19 #[.pointer (some ⟨t, 0, none⟩), .int .i64 nd, v, .agg #[.int .i64 ky, .int .i64 x, .int .i64 y]] W (RunTPost w0 W t b n (runT m nd l ky (x, y)) ky) :=
  (tabRunO_any w0 W t b n m hT hO hg hb hn nd v l hv ky x y).mono fun e W' ⟨v, h1, h2, h3⟩ => ⟨v, h1, h2.rows encRc_len, h3⟩
end Go.Proofs.YtmdmbimfdpngaaaGreatDoor

/-! The example of layer 7. -/
namespace Go.Proofs.YtmdmbimfdpngaaaGreatDoor
set_option linter.unusedSimpArgs false
set_option linter.unusedVariables false
open Go.RowKit Ga
set_option maxRecDepth 100000

theorem NewPost.ok {l : List Tab.En} {w : World} {e : Ending} {w' : World} (h : NewPost l w e w') (ho : newOk l = true) : ∃ t b, e = .returned (.tuple #[.pointer (some ⟨t, 0, none⟩), .int .i64 0]) ∧ TableAt w' t b l.length (Tab.newT l) ∧ w.heap.size ≤ t ∧ w.heap.size ≤ b ∧ Grew w w' := by
  rcases h with ⟨_, h⟩ | ⟨h, _⟩
  · exact h
  · rw [ho] at h; cases h
theorem NewPost.bad {l : List Tab.En} {w : World} {e : Ending} {w' : World} (h : NewPost l w e w') (ho : newOk l = false) : e = .returned (.tuple #[.pointer none, .int .i64 1]) ∧ Grew w w' := by
  rcases h with ⟨h, _⟩ | ⟨_, h⟩
  · rw [ho] at h; cases h
  · exact h
theorem run_eql_Rec (ky p0 q0 ky' p0' q0' : Int) (r : Bool) (h : decide (ky = ky' ∧ p0 = p0' ∧ q0 = q0') = r) (w : World) : (binOp .eql 58 (.agg #[.int .i64 ky, .int .i64 p0, .int .i64 q0]) (.agg #[.int .i64 ky', .int .i64 p0', .int .i64 q0'])).run Tryz.prog w = .ok (.bool r) w := by
  subst h
  simp [go_sem, valR_eq, Tryz.underlying58, Tryz.underlying3]
  by_cases h1 : ky = ky' <;> by_cases h2 : p0 = p0' <;> by_cases h3 : q0 = q0' <;> simp [h1, h2, h3]
open Classical in
theorem refSame07_yes (v u : Value) (l m : List Tab.En) (w : World) (hv : EntsAt w v l) (hu : EntsAt w u m) (h : l = m) : Calls Tryz.prog 21 #[v, u] w (Gives (.bool true) w) := by
  have := refSame07_any v u l m w hv hu
  rwa [decide_eq_true h] at this
open Classical in
theorem refRecs07_yes (v u : Value) (l m : List Rc) (w : World) (hv : RecsAt w v l) (hu : RecsAt w u m) (h : l = m) : Calls Tryz.prog 20 #[v, u] w (Gives (.bool true) w) := by
  have := refRecs07_any v u l m w hv hu
  rwa [decide_eq_true h] at this
/-- what is kept behind the first run -/
def aw7 : Int × List Val × List Tab.En := runT [] 3 Vm.exP 5 (1, 0)
theorem aw7_two : ((runT aw7.2.2 3 Vm.exP 5 (1, 0)).1, (runT aw7.2.2 3 Vm.exP 5 (1, 0)).2.1) = ((0 : Int), [((2, 0) : Val)]) := by decide +kernel
set_option maxHeartbeats 4000000 in
theorem awake07_any (w : World) (h : Env4 w) : Calls Tryz.prog 17 #[] w (Gives (.bool true) w) := by
  have HE := Lib.hid h
  clear h
  go_enter Tryz.func17, Tryz.ntmps17
  go_upto_region 6 with (first
    | (go_at_call 18; refine (tabNew_any _ [] _ RowsAt.nil (by decide)).mono ?_; rintro e w1 hN; obtain ⟨t, b, rfl, hT, ht, hb, R1, n1, rfl⟩ := hN.ok rfl; (have HT := Lib.hid hT); clear hT hN)
    | (go_at_call 44; refine (codeParse_env awake6S (by decide) _ (HE.out.grew (by repeat (first | with_reducible exact Grew.refl _ | apply Grew.more | apply Grew.alloc | apply Grew.drew | apply Grew.drewN)))).mono ?_; rintro e w1 ⟨v, rfl, hv, R3, n3, rfl⟩; rw [awake6_parse] at hv ⊢; obtain ⟨av, cv, rfl⟩ := hv.len; (have HV := Lib.hid hv); clear hv))
  have HX : Hid ((((w.more R1 n1).more R3 n3).alloc (.cells #[.int .i64 5, .int .i64 1, .int .i64 0] 58)).heap[w.heap.size + R1.size + R3.size]? = some (.cells #[.int .i64 5, .int .i64 1, .int .i64 0] 58)) := Lib.hid (heap_new_at _ _ _ (by simp [World.more_size]))
  obtain ⟨bx, hbx⟩ : ∃ bx, bx = w.heap.size + R1.size + R3.size := ⟨_, rfl⟩
  rw [← hbx] at HX
  rw [← hbx]
  have HB := Lib.hid hbx
  have hbt := HT.out.2.lt
  simp only [World.more_size] at hbt
  clear hbx
  have hO0 : OkT (Tab.newT []) := OkT.nil
  have HW : ∃ W, W = ((w.more R1 n1).more R3 n3).alloc (.cells #[.int .i64 5, .int .i64 1, .int .i64 0] 58) := ⟨_, rfl⟩
  obtain ⟨W, hW⟩ := HW
  rw [← hW] at HX ⊢
  have HGW : Hid (Grew w W) := Lib.hid (by rw [hW]; repeat (first | with_reducible exact Grew.refl _ | apply Grew.more | apply Grew.alloc | apply Grew.drew | apply Grew.drewN))
  have HTW : Hid (TableAt W t b 0 []) := Lib.hid (by rw [hW]; exact HT.out.grew (by repeat (first | with_reducible exact Grew.refl _ | apply Grew.more | apply Grew.alloc | apply Grew.drew | apply Grew.drewN)))
  have HVW : Hid (ValsAt W (.slice av Vm.exP.length cv) Vm.exP) := Lib.hid (by rw [hW]; exact HV.out.grew (by repeat (first | with_reducible exact Grew.refl _ | apply Grew.more | apply Grew.alloc | apply Grew.drew | apply Grew.drewN)))
  clear hW HT HV
  have k0 := cell_of (o := 0) HX.out
  have k1 := cell_of (o := 1) HX.out
  have k2 := cell_of (o := 2) HX.out
  simp at k0 k1 k2
  have pb := Pre.mk (heap_lt HX.out)
  go_wp2_with fail
  refine (tabRun_any w W t b 0 [] HTW.out OkT.nil HGW.out hb (by decide) 3 _ Vm.exP HVW.out 5 1 0).mono ?_
  rintro e W2 ⟨v2, rfl, -, hT2, hg2, hk2⟩
  have hne : bx ≠ b := by have := HB.out; omega
  have HX2 : Hid (W2.heap[bx]? = some (.cells #[.int .i64 5, .int .i64 1, .int .i64 0] 58)) := Lib.hid (by rw [hk2.2 bx (heap_lt HX.out) hne]; exact HX.out)
  have HV2 : Hid (ValsAt W2 (.slice av Vm.exP.length cv) Vm.exP) := Lib.hid (rows_keepB HVW.out hk2 fun c t f => TabAt.nocells HTW.out.2 c t f)
  have HT2 : Hid (TableAt W2 t b 1 aw7.2.2) := Lib.hid hT2
  have HG2 := Lib.hid hg2
  clear k0 k1 k2 pb hT2 hg2 hk2
  have k0 := cell_of (o := 0) HX2.out
  have k1 := cell_of (o := 1) HX2.out
  have k2 := cell_of (o := 2) HX2.out
  simp at k0 k1 k2
  have pb := Pre.mk (heap_lt HX2.out)
  have hok : OkT aw7.2.2 := runT_ok OkT.nil 3 Vm.exP 5 (1, 0)
  obtain ⟨vr, hvr⟩ : ∃ r, runT aw7.2.2 3 Vm.exP 5 (1, 0) = r := ⟨_, rfl⟩
  have htwo := aw7_two
  rw [hvr] at htwo
  obtain ⟨r0, r1, r2⟩ := vr
  simp only [Prod.mk.injEq] at htwo
  obtain ⟨rfl, rfl⟩ := htwo
  have HVR := Lib.hid hvr
  clear hvr
  go_wp2_with fail
  refine (tabRun_any w W2 t b 1 aw7.2.2 HT2.out hok HG2.out hb (by decide) 3 _ Vm.exP HV2.out 5 1 0).mono ?_
  rintro e W3 ⟨v3, rfl, hv3, hT3, hg3, hk3⟩
  rw [HVR.out] at hv3 ⊢
  obtain ⟨a3, c3, rfl, -, hx3⟩ := RecsAt.open3 hv3
  obtain ⟨b3, o3, rfl, p3, x0, x1, x2⟩ := hx3 0 (by simp)
  simp at x0 x1 x2
  have HG3 := Lib.hid hg3
  clear hv3 hx3 hT3 hg3 hk3 k0 k1 k2 pb
  have hq := run_eql_Rec 5 2 0 5 2 0 true (by decide)
  go_wp2
  go_ret
  exact ⟨rfl, HG3.out.trans (by repeat (first | with_reducible exact Grew.refl _ | apply Grew.more | apply Grew.alloc | apply Grew.drew | apply Grew.drewN))⟩
end Go.Proofs.YtmdmbimfdpngaaaGreatDoor
