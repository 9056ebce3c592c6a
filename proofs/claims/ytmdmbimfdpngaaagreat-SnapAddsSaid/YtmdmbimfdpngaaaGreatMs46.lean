import Derived.Test.YtmdmbimfdpngaaaGreatMs45
import Derived.Test.YtmdmbimfdpngaaaGreatMs20
/-! route.Parts. -/
namespace Go.Proofs.YtmdmbimfdpngaaaGreat
set_option linter.unusedSimpArgs false
set_option linter.unusedVariables false
open Go.RowKit Ga
set_option maxRecDepth 100000

theorem partE_snoc {n : Gr.Nd} {t : Int} {l : List Tab.En} {x : Tab.En} : Gr.partE n t (l ++ [x]) = Gr.partE n t l ++ (if x.node == n.id && Gr.taskOf n x.key == t then [x] else []) := by
  unfold Gr.partE
  rw [List.filter_append, List.filter_cons, List.filter_nil]
theorem partsN_len (n : Gr.Nd) (l : List Tab.En) : (Gr.partsN n l).length = n.par.toNat := by unfold Gr.partsN; simp
theorem partsN_get {n : Gr.Nd} {l : List Tab.En} {t : Nat} (h : t < n.par.toNat) : (Gr.partsN n l)[t]? = some (Gr.partE n t l) := by
  unfold Gr.partsN
  rw [List.getElem?_map, List.getElem?_range h]
  rfl
theorem partsN_skip {n : Gr.Nd} {l : List Tab.En} {x : Tab.En} (h : x.node ≠ n.id) : Gr.partsN n (l ++ [x]) = Gr.partsN n l := by
  unfold Gr.partsN
  refine List.map_congr_left fun t _ => ?_
  rw [partE_snoc, show (x.node == n.id) = false by simpa using h]
  simp
theorem partsN_put {n : Gr.Nd} {l : List Tab.En} {x : Tab.En} {t : Nat} (h : x.node = n.id) (ht : Gr.taskOf n x.key = (t : Int)) (hp : t < n.par.toNat) : Gr.partsN n (l ++ [x]) = (Gr.partsN n l).set t (Gr.partE n t l ++ [x]) := by
  refine List.ext_getElem? fun i => ?_
  by_cases hi : i < n.par.toNat
  · rw [partsN_get hi, List.getElem?_set]
    by_cases e : t = i
    · subst e
      rw [if_pos rfl, if_pos (by rw [partsN_len]; exact hi), partE_snoc, h, ht]
      simp
    · rw [if_neg e, partsN_get hi, partE_snoc, ht]
      have : ((t : Int) == (i : Int)) = false := by simpa using fun q => e (by omega)
      rw [this]
      simp
  · rw [List.getElem?_eq_none (by rw [partsN_len]; omega), List.getElem?_eq_none (by rw [List.length_set, partsN_len]; omega)]

/-- lists in memory of the call's own, side by side in a block -/
structure PartsIn (base : Nat) (W : World) (B : Nat) (vs : List Value) (ls : List (List Tab.En)) : Prop where
  blk : W.heap[B]? = some (.cells vs.toArray 24)
  len : vs.length = ls.length
  own : ∀ (i : Nat) (v : Value) (l : List Tab.En), vs[i]? = some v → ls[i]? = some l → OwnAt base 47 6 encEn W v l
  apart : ∀ (i j : Nat) (v u : Value) (b : Nat), i ≠ j → vs[i]? = some v → vs[j]? = some u → v.ownBlock = some b → u.ownBlock ≠ some b
theorem PartsIn.grew {base : Nat} {W W' : World} {B : Nat} {vs : List Value} {ls : List (List Tab.En)} (h : PartsIn base W B vs ls) (g : Grew W W') : PartsIn base W' B vs ls :=
  ⟨grew_heap g h.blk, h.len, fun i v l hi hl => (h.own i v l hi hl).grew g, h.apart⟩
theorem ownBlock_none : (Value.slice none 0 0).ownBlock = none := rfl
theorem PartsIn.start {base : Nat} {W : World} {B n : Nat} (h : W.heap[B]? = some (.cells (List.replicate n (.slice none 0 0)).toArray 24)) : PartsIn base W B (List.replicate n (.slice none 0 0)) (List.replicate n []) := by
  refine ⟨h, by simp, fun i v l hi hl => ?_, fun i j v u b _ hi _ hb => ?_⟩
  · rw [List.getElem?_replicate] at hi hl
    split at hi
    · cases hi
      rw [if_pos ‹_›] at hl
      cases hl
      exact OwnAt.nil _
    · cases hi
  · rw [List.getElem?_replicate] at hi
    split at hi
    · cases hi
      rw [ownBlock_none] at hb
      cases hb
    · cases hi
theorem PartsIn.put {w wr W2 W' : World} {B t : Nat} {vs : List Value} {ls : List (List Tab.En)} {v v' : Value} {l : List Tab.En} {x : Tab.En} (h : PartsIn w.heap.size wr B vs ls) (g : Grew wr W2) (ht : vs[t]? = some v)
    (hA : Appended w 47 6 encEn W2 v (l ++ [x]) v' W') : PartsIn w.heap.size (W'.setCell ⟨B, t, none⟩ v') B (vs.set t v') (ls.set t (l ++ [x])) := by
  obtain ⟨a1, a2, a3, a4, a5⟩ := hA
  have h2 := h.grew g
  obtain ⟨lt', hlt'⟩ : ∃ l0, ls[t]? = some l0 := by
    have := (List.getElem?_eq_some_iff.1 ht).1
    exact ⟨_, List.getElem?_eq_getElem (by have := h.len; omega)⟩
  have hov := h2.own t v lt' ht hlt'
  have hBne : v.ownBlock ≠ some B := OwnAt.other hov h2.blk (by decide)
  have hB' : W'.heap[B]? = some (.cells vs.toArray 24) := by rw [a4 B (heap_lt h2.blk) hBne]; exact h2.blk
  have keep : ∀ (u : Value) (q : List Tab.En), OwnAt w.heap.size 47 6 encEn W' u q → OwnAt w.heap.size 47 6 encEn (W'.setCell ⟨B, t, none⟩ v') u q := fun u q ho =>
    OwnAt.same ho fun b hb => set_other fun e => OwnAt.other ho hB' (by decide) (e ▸ hb)
  have hlt : t < vs.length := (List.getElem?_eq_some_iff.1 ht).1
  refine ⟨?_, by simp [h.len], fun i u q hi hq => ?_, fun i j u z b hij hi hj hb => ?_⟩
  · rw [set_self hB', List.setIfInBounds_toArray]
  · refine keep _ _ ?_
    rw [List.getElem?_set] at hi hq
    by_cases e : t = i
    · subst e
      rw [if_pos rfl, if_pos hlt] at hi
      rw [if_pos rfl, if_pos (by have := h.len; omega)] at hq
      cases hi
      cases hq
      exact a2
    · rw [if_neg e] at hi hq
      have ho := h2.own i u q hi hq
      exact OwnAt.same ho fun b hb => a4 b (by obtain ⟨-, c, hc⟩ := OwnAt.block ho hb; exact heap_lt hc) fun hv => h2.apart t i v u b e ht hi hv hb
  · rw [List.getElem?_set] at hi hj
    have lt_of : ∀ (p : Nat) (u : Value) (b : Nat), vs[p]? = some u → u.ownBlock = some b → b < W2.heap.size := fun p u b hp hb => by
      have hpl : p < ls.length := by have := (List.getElem?_eq_some_iff.1 hp).1; have := h.len; omega
      obtain ⟨-, c, hc⟩ := OwnAt.block (h2.own p u _ hp (List.getElem?_eq_getElem hpl)) hb
      exact heap_lt hc
    by_cases e : t = i
    · subst e
      rw [if_pos rfl, if_pos hlt] at hi
      rw [if_neg hij] at hj
      cases hi
      rcases a5 b hb with h5 | h5
      · exact h2.apart t j v z b hij ht hj h5
      · intro hz
        have := lt_of j z b hj hz
        omega
    · rw [if_neg e] at hi
      by_cases e2 : t = j
      · subst e2
        rw [if_pos rfl, if_pos hlt] at hj
        cases hj
        intro hz
        rcases a5 b hz with h5 | h5
        · exact h2.apart i t u v b hij hi ht hb h5
        · have := lt_of i u b hi hb
          omega
      · rw [if_neg e2] at hj
        exact h2.apart i j u z b hij hi hj hb
theorem PartsIn.after {w wr W2 W' : World} {B t : Nat} {vs : List Value} {ls : List (List Tab.En)} {v v' : Value} {l l' : List Tab.En} (h : PartsIn w.heap.size wr B vs ls) (ht : vs[t]? = some v) (hl : ls[t]? = some l) (g : Grew wr W2)
    (hA : Appended w 47 6 encEn W2 v l' v' W') : W'.heap[B]? = some (.cells vs.toArray 24) ∧ W'.cell? ⟨B, t, none⟩ = some v ∧ W'.frozen? ⟨B, t, none⟩ = false ∧ Pre B W' ∧ ∃ a c, v' = .slice a l'.length c := by
  obtain ⟨a1, a2, a3, a4, a5⟩ := hA
  have hb := grew_heap g h.blk
  have hb' : W'.heap[B]? = some (.cells vs.toArray 24) := by
    rw [a4 B (heap_lt hb) (OwnAt.other ((h.own t v l ht hl).grew g) hb (by decide))]
    exact hb
  refine ⟨hb', ?_, frozen_of hb', Pre.mk (heap_lt hb'), (OwnAt.rows a2 encEn_len).len⟩
  rw [cell_of hb']
  simpa using ht
def PartsPost (w : World) (n : Gr.Nd) (l : List Tab.En) (e : Ending) (w' : World) : Prop := ∃ (B : Nat) (vs : List Value), e = .returned (.slice (some ⟨B, 0, none⟩) n.par.toNat n.par.toNat) ∧ w.heap.size ≤ B ∧ PartsIn w.heap.size w' B vs (Gr.partsN n l) ∧ Grew w w'
theorem infoEnts : (Tryz.prog.info? 24).map (fun i => (i.zero, i.size, i.bytes)) = some (some (.slice none 0 0), 1, 24) := by kernel_rfl
theorem make_parts (p : Nat) (hp3 : p = 1 ∨ p = 2 ∨ p = 3) (W : World) : (Instr.makeSlice 85 (.int .i64 (p : Int)) (.int .i64 (p : Int))).run Tryz.prog W = .ok (.slice (some ⟨W.heap.size, 0, none⟩) p p) (W.alloc (.cells (List.replicate p (.slice none 0 0)).toArray 24)) := by
  obtain ⟨i, hi, hz0, hz1, hz2⟩ := info_parts infoEnts
  have h := run_makeSlice (P := Tryz.prog) W 85 24 i (.slice none 0 0) Tryz.underlying85 hi hz0 .i64 .i64 (p : Int) (p : Int) (by omega) (by omega) (by rw [hz1]; omega) (by rw [hz2]; omega) (by omega)
  rw [h, hz1]
  have hm : ∀ q : Nat, q = 1 ∨ q = 2 ∨ q = 3 → madeCells (Value.slice none 0 0).cells ((q : Int).toNat * 1) = (List.replicate q (Value.slice none 0 0)).toArray := fun q hq => by
    rcases hq with rfl | rfl | rfl <;> kernel_rfl
  rw [hm p hp3, Int.toNat_natCast]
set_option maxHeartbeats 16000000 in
theorem parts_go (c : NdC) (n : Gr.Nd) (a : Option Addr) (cap : Nat) (l : List Tab.En) (w : World) (hn : NodeIs w c n) (hv : EntsAt w (.slice a l.length cap) l) (hr : rtB n.par n.route = true) (hl : l.length ≤ 100000) (p : Nat) (hp : n.par = (p : Int)) (hp3 : p = 1 ∨ p = 2 ∨ p = 3) : Calls Tryz.prog 31 #[.agg #[.int .i64 c.id, .int .i64 c.kind, .slice c.af c.nf c.cf, .slice c.ap c.np c.cp, .int .i64 c.par, .int .i64 c.r0, .int .i64 c.r1, .int .i64 c.r2, .int .i64 c.r3, .int .i64 c.r4, .int .i64 c.r5, .int .i64 c.r6, .int .i64 c.r7], .slice a l.length cap] w (PartsPost w n l) := by
  have HV := Lib.hid hv
  have e1 := hn.id
  have e2 := hn.par
  have e3 := hn.route
  have htk : ∀ k : Int, ∃ t : Nat, Gr.taskOf n k = (t : Int) ∧ t < p := fun k => by
    have := Gr.taskOf_range (n := n) (by rw [e3]; rfl) (rtB_iff.1 hr).2 k
    exact ⟨(Gr.taskOf n k).toNat, by omega, by omega⟩
  obtain ⟨cid, kind, af, nf, cf, ap, np, cp, par, r0, r1, r2, r3, r4, r5, r6, r7⟩ := c
  simp only at e1 e2 e3
  have htd : ∀ k : Int, Gr.taskOf n k = [r0, r1, r2, r3, r4, r5, r6, r7].getD (k % 8).toNat 0 := fun k => by unfold Gr.taskOf; rw [e3]
  have hpp : par = (p : Int) := by omega
  subst hpp
  rw [hp, e3] at hr
  have HR := Lib.hid fun W => routeRight_any (p : Int) r0 r1 r2 r3 r4 r5 r6 r7 W
  rw [hr] at HR
  have HT := Lib.hid fun k W => routeTask_any r0 r1 r2 r3 r4 r5 r6 r7 k W
  have HTK2 := Lib.hid htk
  have HTD := Lib.hid htd
  have hpn : n.par.toNat = p := by omega
  have HPN := Lib.hid hpn
  have HE1 := Lib.hid e1
  clear hv hn e2 e3 hr htk htd hp hpn e1
  show Calls Tryz.prog 31 #[.agg #[.int .i64 cid, .int .i64 kind, .slice af nf cf, .slice ap np cp, .int .i64 (p : Int), .int .i64 r0, .int .i64 r1, .int .i64 r2, .int .i64 r3, .int .i64 r4, .int .i64 r5, .int .i64 r6, .int .i64 r7], .slice a l.length cap] w _
  have hmk := make_parts p hp3
  have hp9 : p ≤ 3 := by omega
  have hp1 : 1 ≤ p := by omega
  clear hp3
  go_enter Tryz.func31, Tryz.ntmps31
  go_wp2_with (go_at_call 67; refine (HR.out _).mono ?_; rintro e w1 ⟨rfl, R1, n1, rfl⟩)
  have hst0 : Gr.partsN n [] = List.replicate p [] := by
    have := HPN.out
    unfold Gr.partsN
    rw [this]
    refine List.ext_getElem? fun i => ?_
    rw [List.getElem?_map, List.getElem?_replicate]
    by_cases hi : i < p
    · rw [List.getElem?_range hi, if_pos hi]; rfl
    · rw [List.getElem?_eq_none (by simpa using hi), if_neg hi]; rfl
  have HST0 := Lib.hid hst0
  clear hst0
  obtain ⟨B, hB⟩ : ∃ B, w.heap.size + 1 + R1.size = B := ⟨_, rfl⟩
  rw [hB]
  have hBw : w.heap.size + 1 ≤ B := by omega
  have HB := Lib.hid hB
  clear hB
  go_loopg [20] l.length (fun gg s20 wr => ∃ (k : Nat) (vs : List Value), k ≤ l.length ∧ l.length - k ≤ gg ∧ s20 = .int .i64 k ∧ Hid (Grew w wr) ∧ Hid (wr.heap[w.heap.size]? = some (.cells #[.int .i64 cid, .int .i64 kind, .slice af nf cf, .slice ap np cp, .int .i64 (p : Int), .int .i64 r0, .int .i64 r1, .int .i64 r2, .int .i64 r3, .int .i64 r4, .int .i64 r5, .int .i64 r6, .int .i64 r7] 42)) ∧ Hid (PartsIn w.heap.size wr B vs (Gr.partsN n (l.take k))))
  case atStart => exact ⟨0, _, by omega, by omega, rfl, Lib.hid (by repeat (first | with_reducible exact Grew.refl _ | apply Grew.more | apply Grew.alloc | apply Grew.drew | apply Grew.drewN)), Lib.hid (grew_heap (by repeat (first | with_reducible exact Grew.refl _ | apply Grew.more | apply Grew.alloc | apply Grew.drew | apply Grew.drewN)) (heap_new_at _ _ _ rfl)), Lib.hid (by rw [List.take_zero, HST0.out]; exact PartsIn.start (by rw [List.toArray_replicate]; exact heap_new_at _ _ _ (by rw [← HB.out]; simp [go_sem])))⟩
  case round =>
    obtain ⟨k, vs, hk, hgg, rfl, HG, HBX, HPI⟩ := hrel
    by_cases hlt : k < l.length
    · obtain ⟨a', cap', e, -, hx⟩ := EntsAt.open6 (HV.out.grew HG.out)
      cases e
      obtain ⟨b, off, rfl, hb, c0, c1, c2, c3, c4, c5⟩ := hx k hlt
      have HTK := Lib.hid (List.take_succ_eq_append_getElem hlt)
      clear hx
      have n0 := cell_of (o := 0) HBX.out
      have n5 := cell_of (o := 5) HBX.out
      have n6 := cell_of (o := 6) HBX.out
      have n7 := cell_of (o := 7) HBX.out
      have n8 := cell_of (o := 8) HBX.out
      have n9 := cell_of (o := 9) HBX.out
      have n10 := cell_of (o := 10) HBX.out
      have n11 := cell_of (o := 11) HBX.out
      have n12 := cell_of (o := 12) HBX.out
      simp at n0 n5 n6 n7 n8 n9 n10 n11 n12
      have pn := Pre.mk (heap_lt HBX.out)
      generalize l[k] = x at *
      obtain ⟨xn, ky, ⟨p0, q0⟩, ⟨p1, q1⟩⟩ := x
      simp only at c0 c1 c2 c3 c4 c5
      by_cases hid : xn = cid
      case neg =>
        have hne : (xn == cid) = false := by simpa using hid
        have HS : Hid (Gr.partsN n (l.take (k + 1)) = Gr.partsN n (l.take k)) := Lib.hid (by rw [HTK.out]; exact partsN_skip (by rw [HE1.out]; exact hid))
        clear hid
        go_wp2
        go_roundg (l.length - (k + 1))
        case measure => omega
        case rel => exact ⟨k + 1, vs, by omega, by omega, by go_num, Lib.hid (HG.out.trans (by repeat (first | with_reducible exact Grew.refl _ | apply Grew.more | apply Grew.alloc | apply Grew.drew | apply Grew.drewN))), Lib.hid (grew_heap (by repeat (first | with_reducible exact Grew.refl _ | apply Grew.more | apply Grew.alloc | apply Grew.drew | apply Grew.drewN)) HBX.out), Lib.hid (by rw [HS.out]; exact HPI.out.grew (by repeat (first | with_reducible exact Grew.refl _ | apply Grew.more | apply Grew.alloc | apply Grew.drew | apply Grew.drewN)))⟩
      subst hid
      obtain ⟨t, ht, htp⟩ := HTK2.out ky
      have HTT : Hid (∀ W : World, Calls Tryz.prog 68 #[.agg #[.int .i64 r0, .int .i64 r1, .int .i64 r2, .int .i64 r3, .int .i64 r4, .int .i64 r5, .int .i64 r6, .int .i64 r7], .int .i64 ky] W (Gives (.int .i64 (t : Int)) W)) := Lib.hid fun W => by
        have := HT.out ky W
        rw [← HTD.out ky, ht] at this
        exact this
      have htn : t < n.par.toNat := by rw [HPN.out]; exact htp
      have hls := partsN_get (n := n) (l := l.take k) htn
      have hvl : t < vs.length := by rw [HPI.out.len, partsN_len]; exact htn
      obtain ⟨v, hv⟩ : ∃ v, vs[t]? = some v := ⟨_, List.getElem?_eq_getElem hvl⟩
      have HS : Hid (Gr.partsN n (l.take (k + 1)) = (Gr.partsN n (l.take k)).set t (Gr.partE n (t : Int) (l.take k) ++ [⟨xn, ky, (p0, q0), (p1, q1)⟩])) := Lib.hid (by rw [HTK.out]; exact partsN_put (by rw [HE1.out]) ht htn)
      have hov := HPI.out.own t v _ hv hls
      have hlen : (Gr.partE n (t : Int) (l.take k)).length ≤ 100000 := Nat.le_trans (List.length_filter_le _ _) (by rw [List.length_take]; omega)
      obtain ⟨av, cv, hvv⟩ := (OwnAt.rows hov encEn_len).len
      have cB := cell_of (o := t) HPI.out.blk
      rw [List.getElem?_toArray, hv] at cB
      have pB := Pre.mk (heap_lt HPI.out.blk)
      have HV1 := Lib.hid hv
      have HLS := Lib.hid hls
      have HOV := Lib.hid hov
      have HVV := Lib.hid hvv
      rw [hvv] at cB
      have HTN := Lib.hid htn
      generalize Gr.partE n (t : Int) (l.take k) = q at *
      clear hv hls hov hvv htn ht hvl
      have hvv := HVV.out
      subst hvv
      go_wp2_with (go_at_call 68; refine (HTT.out _).mono ?_; rintro e w1 ⟨rfl, R2, n2, rfl⟩)
      refine wp_region_noPanic ?_
      go_region_law (refine step_ownK (w0 := w) (v := .slice av q.length cv) rfl (.tmp 39) (.tmp 41) 24 _ _ _ _ [⟨xn, ky, (p0, q0), (p1, q1)⟩] rfl Tryz.underlying24 infoEn rfl (by decide) encEn_len encEn_one rfl (OwnAt.grew HOV.out (by repeat (first | with_reducible exact Grew.refl _ | apply Grew.more | apply Grew.alloc | apply Grew.drew | apply Grew.drewN))) (HG.out.trans (by repeat (first | with_reducible exact Grew.refl _ | apply Grew.more | apply Grew.alloc | apply Grew.drew | apply Grew.drewN))) rfl (en_at _ _ _ _ rfl (by simp [go_sem])) (by simp; omega) (by decide) Nat.one_pos ?_; intro v7 W7 hA; obtain ⟨hb7, cb7, fb7, pb7, a7, c7, rfl⟩ := HPI.out.after HV1.out HLS.out (by repeat (first | with_reducible exact Grew.refl _ | apply Grew.more | apply Grew.alloc | apply Grew.drew | apply Grew.drewN)) hA; (have HA := Lib.hid hA); (have HB7 := Lib.hid hb7); clear hA hb7)
      all_goals
        refine NoPanic.normal ?_
        go_wp2
        go_roundg (l.length - (k + 1))
        case measure => omega
        case rel =>
          refine ⟨k + 1, _, by omega, by omega, by go_num, Lib.hid (Grew.set HA.out.1 (by omega) _), Lib.hid ?_, Lib.hid (by have hA := HA.out; rw [List.length_append, List.length_singleton] at hA; rw [HS.out]; exact HPI.out.put (by repeat (first | with_reducible exact Grew.refl _ | apply Grew.more | apply Grew.alloc | apply Grew.drew | apply Grew.drewN)) HV1.out hA)⟩
          rw [set_other (by omega), HA.out.2.2.2.1 _ (by have := heap_lt HBX.out; simp [go_sem]; omega) (OwnAt.other HOV.out HBX.out (by decide))]
          exact grew_heap (by repeat (first | with_reducible exact Grew.refl _ | apply Grew.more | apply Grew.alloc | apply Grew.drew | apply Grew.drewN)) HBX.out
    · obtain rfl : k = l.length := by omega
      have hpi := HPI.out
      rw [List.take_length] at hpi
      have HP9 := Lib.hid hpi
      clear hpi
      go_wp2
      go_ret
      exact ⟨B, vs, by rw [HPN.out]; rfl, by omega, HP9.out, HG.out⟩
theorem parts_any (c : NdC) (n : Gr.Nd) (a : Option Addr) (cap : Nat) (l : List Tab.En) (w : World) (hn : NodeIs w c n) (hv : EntsAt w (.slice a l.length cap) l) (hr : rtB n.par n.route = true) (hl : l.length ≤ 100000) : Calls Tryz.prog 31 #[.agg #[.int .i64 c.id, .int .i64 c.kind, .slice c.af c.nf c.cf, .slice c.ap c.np c.cp, .int .i64 c.par, .int .i64 c.r0, .int .i64 c.r1, .int .i64 c.r2, .int .i64 c.r3, .int .i64 c.r4, .int .i64 c.r5, .int .i64 c.r6, .int .i64 c.r7], .slice a l.length cap] w (PartsPost w n l) := by
  have h := (rtB_iff.1 hr).1
  exact parts_go c n a cap l w hn hv hr hl n.par.toNat (by omega) (by omega)
end Go.Proofs.YtmdmbimfdpngaaaGreat
