import Derived.Test.YtmdmbimfdpngaaaGreatDoorMp44
/-! CellPlays: Of. -/
namespace Go.Proofs.YtmdmbimfdpngaaaGreatDoor
set_option linter.unusedSimpArgs false
set_option linter.unusedVariables false
open Go.RowKit Ga
set_option maxRecDepth 100000

theorem filter_succ {l : List Tab.En} {P : Tab.En → Bool} {j : Nat} (h : j < l.length) : (l.take (j + 1)).filter P = (l.take j).filter P ++ (if P l[j] then [l[j]] else []) := by
  rw [List.take_succ_eq_append_getElem h, List.filter_append]
  congr 1
  simp [List.filter_cons]
set_option maxHeartbeats 16000000 in
theorem pl_3 (w W : World) (vo : Value) (len k t b n tr ob : Nat) (m : List Tab.En) (f : FTab) (c : OpC) (p : List Val) (gs : List Int) (Q : Exit → Act → World → Prop) (a0 : Act)
    (h0 : Live7 w vo len k 0 t b n tr m f a0 W) (hb : Box7 w ob c a0 W) (hi : OpIs w c p gs) (hk : c.k = 3) (hlen : k < len ∧ len ≤ 100) (hpl : p.length ≤ 24) (hgl : gs.length ≤ 20)
    (hnext : ∀ a' W' t' b' n' m' f', Live7 w vo len k 1 t' b' n' tr m' f' a' W' → Box7 w ob c a' W' → Code.wp Tryz.prog (tail7 61) Q a' W') :
    Code.wp Tryz.prog (tail7 21) Q a0 W := by
  obtain ⟨hfr, h5, h7, h70, h71, h72, hs, hrel, hn⟩ := h0
  obtain ⟨h11, hbx, hlo⟩ := hb
  obtain ⟨u, hu⟩ : ∃ u : Nat → Value, u = fun i => a0.tmps.getD i undef := ⟨_, rfl⟩
  rw [← hu] at hfr
  have u5 : u 5 = _ := (congrFun hu 5).trans h5
  have u7 : u 7 = _ := (congrFun hu 7).trans h7
  have u11 : u 11 = _ := (congrFun hu 11).trans h11
  have u70 : u 70 = _ := (congrFun hu 70).trans h70
  have u71 : u 71 = _ := (congrFun hu 71).trans h71
  have u72 : u 72 = _ := (congrFun hu 72).trans h72
  clear hu h5 h7 h11 h70 h71 h72
  subst hfr
  conv => arg 2; whnf
  unfold frame7
  rw [u5, u7, u11, u70, u71, u72]
  clear u5 u7 u11 u70 u71 u72
  obtain ⟨l1, l2⟩ := hi.lens
  obtain ⟨ck, nd, ky, p0, q0, p1, q1, ap, np, cp, rk, rx, ry, al, nl, cl⟩ := c
  simp only at hk l1 l2
  subst l1 l2
  have x0 := cell_of (o := 0) hbx
  have x1 := cell_of (o := 1) hbx
  have x11 := cell_of (o := 11) hbx
  simp [encOp] at x0 x1 x11
  have px := Pre.mk (heap_lt hbx)
  have HBX := Lib.hid hbx
  have HS := Lib.hid hs
  have HREL := Lib.hid hrel
  have HN := Lib.hid hn
  have HI := Lib.hid hi
  have HNX := Lib.hid hnext
  clear hs hrel hn hi hbx hnext
  subst hk
  have HB11 := Lib.hid HBX.out
  have hc512 := cellsT_len f 512
  go_wp2_with fail
  refine (refAll07_any _ tr f (HS.out.r.grew (by repeat (first | with_reducible exact Grew.refl _ | apply Grew.more | apply Grew.alloc | apply Grew.drew | apply Grew.drewN)))).mono ?_
  rintro e w5 ⟨v5, rfl, ho5, R5, N5, rfl⟩
  obtain ⟨a5, c5, rfl⟩ := (OwnAt.rows ho5 encEn_len).len
  have HR5 := Lib.hid (OwnAt.rows ho5 encEn_len)
  have HALL := Lib.hid fun (s : List Tab.En) (h1 : s.Perm (m.filter (ofP nd gs))) (h2 : SoE s) => of_all HS.out.ok HREL.out h1 h2
  have HTH := Lib.hid (HREL.out.cells HS.out.ok).there
  generalize cellsT f 512 = L at *
  clear ho5
  go_wp2
  go_loopg [17, 239] L.length (fun gg s17 s239 wr => ∃ j : Nat, j ≤ L.length ∧ L.length - j ≤ gg ∧ s239 = .int .i64 j ∧ Hid (Grew (W.more R5 N5) wr) ∧ Hid (OwnAt (W.more R5 N5).heap.size 53 6 encEn wr s17 ((L.take j).filter (ofP nd gs))))
  case atStart => exact ⟨0, by omega, by omega, rfl, Lib.hid (by repeat (first | with_reducible exact Grew.refl _ | apply Grew.more | apply Grew.alloc | apply Grew.drew | apply Grew.drewN)), Lib.hid (OwnAt.nil _)⟩
  case round =>
    obtain ⟨j, hj, hgg, rfl, HG, HO⟩ := hrel
    have HGW : Hid (Grew W wr) := Lib.hid (Grew.trans (by repeat (first | with_reducible exact Grew.refl _ | apply Grew.more | apply Grew.alloc | apply Grew.drew | apply Grew.drewN)) HG.out)
    have hbr := grew_heap HGW.out HBX.out
    by_cases hlt : j < L.length
    · obtain ⟨a', cap', e, -, hx⟩ := EntsAt.open6 (HR5.out.grew HG.out)
      cases e
      obtain ⟨bq, off, rfl, hbq, c0, c1, c2, c3, c4, c6⟩ := hx j hlt
      have HSUC := Lib.hid (filter_succ (P := ofP nd gs) hlt)
      have hfl : ((L.take j).filter (ofP nd gs)).length ≤ 512 := Nat.le_trans (List.length_filter_le _ _) (by rw [List.length_take]; omega)
      clear hx x0 x1 x11 px
      have x1 := cell_of (o := 1) hbr
      have x11 := cell_of (o := 11) hbr
      simp [encOp] at x1 x11
      have px := Pre.mk (heap_lt hbr)
      clear hbr
      have hth := HTH.out L[j] (List.getElem_mem hlt)
      generalize L[j] = z at *
      obtain ⟨zn, zk, ⟨p0', q0'⟩, ⟨p1', q1'⟩⟩ := z
      simp only at c0 c1 c2 c3 c4 c6
      unfold There at hth
      have hmod : zk.tmod 8 = zk % 8 := Int.tmod_eq_emod_of_nonneg hth.2.1
      have HIN := Lib.hid fun W2 (g : Grew wr W2) => in07_any _ gs (zk % 8) W2 (HI.out.l.grew (Grew.trans HS.out.g (HGW.out.trans g)))
      clear hth
      have hofp : ofP nd gs ⟨zn, zk, (p0', q0'), (p1', q1')⟩ = (decide (zn = nd) && decide (zk % 8 ∈ gs)) := rfl
      by_cases he : zn = nd
      · subst he
        by_cases hin : zk % 8 ∈ gs
        · have hyes : (if ofP zn gs ⟨zn, zk, (p0', q0'), (p1', q1')⟩ = true then [(⟨zn, zk, (p0', q0'), (p1', q1')⟩ : Tab.En)] else []) = [⟨zn, zk, (p0', q0'), (p1', q1')⟩] := by rw [hofp, decide_eq_true rfl, decide_eq_true hin]; rfl
          rw [hyes] at HSUC
          rw [decide_eq_true hin] at HIN
          clear hin hofp hyes
          go_wp2_with (first
            | (go_at_call 30; refine (HIN.out _ (by repeat (first | with_reducible exact Grew.refl _ | apply Grew.more | apply Grew.alloc | apply Grew.drew | apply Grew.drewN))).mono ?_; rintro e w7 ⟨rfl, rfl⟩)
            | (at_builtin; go_loud (refine wpList_ownK (w0 := W.more R5 N5) rfl (.tmp 257) (.tmp 259) 31 _ _ _ _ [⟨zn, zk, (p0', q0'), (p1', q1')⟩] rfl Tryz.underlying31 infoEn rfl (by decide) encEn_len encEn_one rfl (OwnAt.grew HO.out (by repeat (first | with_reducible exact Grew.refl _ | apply Grew.more | apply Grew.alloc | apply Grew.drew | apply Grew.drewN))) (HG.out.trans (by repeat (first | with_reducible exact Grew.refl _ | apply Grew.more | apply Grew.alloc | apply Grew.drew | apply Grew.drewN))) rfl (en_at _ _ _ _ rfl (by simp [go_sem])) (by simp; omega) (by decide) (by simp) ?_; intro v9 W9 hA; (have HA := Lib.hid hA); clear hA)))
          go_roundg (L.length - (j + 1))
          case measure => omega
          case rel => exact ⟨j + 1, by omega, by omega, by go_num, Lib.hid HA.out.1, Lib.hid (by rw [HSUC.out]; exact HA.out.2.1)⟩
        · have hno : (if ofP zn gs ⟨zn, zk, (p0', q0'), (p1', q1')⟩ = true then [(⟨zn, zk, (p0', q0'), (p1', q1')⟩ : Tab.En)] else []) = [] := by rw [hofp, decide_eq_true rfl, decide_eq_false hin]; rfl
          rw [hno, List.append_nil] at HSUC
          rw [decide_eq_false hin] at HIN
          clear hin hofp hno
          go_wp2_with (go_at_call 30; refine (HIN.out _ (by repeat (first | with_reducible exact Grew.refl _ | apply Grew.more | apply Grew.alloc | apply Grew.drew | apply Grew.drewN))).mono ?_; rintro e w7 ⟨rfl, rfl⟩)
          go_roundg (L.length - (j + 1))
          case measure => omega
          case rel => exact ⟨j + 1, by omega, by omega, by go_num, Lib.hid (HG.out.trans (by repeat (first | with_reducible exact Grew.refl _ | apply Grew.more | apply Grew.alloc | apply Grew.drew | apply Grew.drewN))), Lib.hid (by rw [HSUC.out]; exact OwnAt.grew HO.out (by repeat (first | with_reducible exact Grew.refl _ | apply Grew.more | apply Grew.alloc | apply Grew.drew | apply Grew.drewN)))⟩
      · have hno : (if ofP nd gs ⟨zn, zk, (p0', q0'), (p1', q1')⟩ = true then [(⟨zn, zk, (p0', q0'), (p1', q1')⟩ : Tab.En)] else []) = [] := by rw [hofp, decide_eq_false he]; rfl
        rw [hno, List.append_nil] at HSUC
        have heb : (zn == nd) = false := by simpa using he
        clear he hofp hno HIN
        go_wp2
        go_roundg (L.length - (j + 1))
        case measure => omega
        case rel => exact ⟨j + 1, by omega, by omega, by go_num, Lib.hid (HG.out.trans (by repeat (first | with_reducible exact Grew.refl _ | apply Grew.more | apply Grew.alloc | apply Grew.drew | apply Grew.drewN))), Lib.hid (by rw [HSUC.out]; exact OwnAt.grew HO.out (by repeat (first | with_reducible exact Grew.refl _ | apply Grew.more | apply Grew.alloc | apply Grew.drew | apply Grew.drewN)))⟩
    · obtain rfl : j = L.length := by omega
      have ho := HO.out
      rw [List.take_length] at ho
      have HO9 := Lib.hid ho
      obtain ⟨ak, ck, rfl⟩ := (OwnAt.rows ho encEn_len).len
      clear ho x0 x1 x11 px
      have x1 := cell_of (o := 1) hbr
      have x11 := cell_of (o := 11) hbr
      simp [encOp] at x1 x11
      have px := Pre.mk (heap_lt hbr)
      clear hbr
      go_wp2_with fail
      refine (tabOf_any _ t b n m (HS.out.a.grew (HGW.out.trans (by repeat (first | with_reducible exact Grew.refl _ | apply Grew.more | apply Grew.alloc | apply Grew.drew | apply Grew.drewN)))) nd gs _ (HI.out.l.grew (Grew.trans HS.out.g (HGW.out.trans (by repeat (first | with_reducible exact Grew.refl _ | apply Grew.more | apply Grew.alloc | apply Grew.drew | apply Grew.drewN)))))).mono ?_
      rintro e w8 ⟨v8, s8, rfl, hr8, hp8, hs8, ⟨R8, N8, hw8⟩⟩
      subst hw8
      obtain ⟨a8, c8, rfl⟩ := (OwnAt.rows hr8 encEn_len).len
      have HR8 := Lib.hid (OwnAt.rows hr8 encEn_len)
      have h89 := HALL.out s8 hp8 hs8
      have H89 := Lib.hid h89
      clear hr8 hp8 hs8 h89
      go_wp2_with fail
      refine (refSame07_yes _ _ s8 _ _ (HR8.out.grew (by repeat (first | with_reducible exact Grew.refl _ | apply Grew.more | apply Grew.alloc | apply Grew.drew | apply Grew.drewN))) ((OwnAt.rows HO9.out encEn_len).grew (by repeat (first | with_reducible exact Grew.refl _ | apply Grew.more | apply Grew.alloc | apply Grew.drew | apply Grew.drewN))) H89.out).mono ?_
      rintro e w9 ⟨rfl, R9, N9, rfl⟩
      go_upto_if 271 with fail
      iterate 4 go_step
      refine HNX.out _ _ t b n m f ?_ ?_
      · exact ⟨rfl, rfl, rfl, rfl, rfl, rfl, HS.out.grew (HGW.out.trans (by repeat (first | with_reducible exact Grew.refl _ | apply Grew.more | apply Grew.alloc | apply Grew.drew | apply Grew.drewN))), HREL.out, by have := HN.out; omega⟩
      · exact ⟨rfl, grew_heap (HGW.out.trans (by repeat (first | with_reducible exact Grew.refl _ | apply Grew.more | apply Grew.alloc | apply Grew.drew | apply Grew.drewN))) HBX.out, hlo⟩
end Go.Proofs.YtmdmbimfdpngaaaGreatDoor

/-! CellPlays: Drop. -/
namespace Go.Proofs.YtmdmbimfdpngaaaGreatDoor
set_option linter.unusedSimpArgs false
set_option linter.unusedVariables false
open Go.RowKit Ga
set_option maxRecDepth 100000

/-- some keys' cells are dropped -/
def dropK (f : FTab) (nd : Int) (gs : List Int) (j : Nat) : FTab := fun a b => if a = nd ∧ b < j ∧ b % 8 ∈ gs then zer else f a b
theorem dropK_zero (f : FTab) (nd : Int) (gs : List Int) {a b : Nat} : f a b = dropK f nd gs 0 a b := by
  unfold dropK
  rw [if_neg (fun h => by omega)]
theorem dropK_all (f : FTab) (nd : Int) (gs : List Int) {a b : Nat} (hb : b < 64) : dropK f nd gs 64 a b = dropF f nd gs a b := by
  unfold dropK dropF
  have h : ((b : Int) < ((64 : Nat) : Int)) := by omega
  simp only [h, true_and]
theorem dropK_out {f : FTab} {nd : Int} {gs : List Int} {j a b : Nat} (h : nd < 0 ∨ 8 ≤ nd) (ha : a < 8) : dropK f nd gs j a b = dropK f nd gs (j + 1) a b := by
  unfold dropK
  rw [if_neg (fun q => by omega), if_neg (fun q => by omega)]
theorem dropK_no {f : FTab} {nd : Int} {gs : List Int} {j a b : Nat} (h : (j : Int) % 8 ∉ gs) : dropK f nd gs j a b = dropK f nd gs (j + 1) a b := by
  unfold dropK
  by_cases hb : b = j
  · subst hb
    rw [if_neg (fun q => h q.2.2), if_neg (fun q => h q.2.2)]
  · have e : ((b : Int) < (j : Int)) ↔ ((b : Int) < ((j + 1 : Nat) : Int)) := by omega
    simp only [e]
theorem dropK_yes {f : FTab} {nn : Nat} {gs : List Int} {j a b : Nat} (h : (j : Int) % 8 ∈ gs) (ha : a < 8) (hb : b < 64) : setF (dropK f nn gs j) nn j ((0, 0), (0, 0)) a b = dropK f nn gs (j + 1) a b := by
  unfold setF dropK
  by_cases e : (a : Int) = nn ∧ (b : Int) = j
  · obtain ⟨e1, e2⟩ := e
    rw [if_pos ⟨e1, e2⟩, if_pos ⟨e1, by omega, by rw [e2]; exact h⟩]
  · rw [if_neg e]
    by_cases ha2 : (a : Int) = nn
    · have hb2 : (b : Int) ≠ j := fun q => e ⟨ha2, q⟩
      have e3 : ((b : Int) < (j : Int)) ↔ ((b : Int) < ((j + 1 : Nat) : Int)) := by omega
      simp only [e3]
    · rw [if_neg (fun q => ha2 q.1), if_neg (fun q => ha2 q.1)]
set_option maxHeartbeats 16000000 in
theorem pl_2 (w W : World) (vo : Value) (len k t b n tr ob : Nat) (m : List Tab.En) (f : FTab) (c : OpC) (p : List Val) (gs : List Int) (Q : Exit → Act → World → Prop) (a0 : Act)
    (h0 : Live7 w vo len k 0 t b n tr m f a0 W) (hb : Box7 w ob c a0 W) (hi : OpIs w c p gs) (hk : c.k = 2) (hlen : k < len ∧ len ≤ 100) (hpl : p.length ≤ 24) (hgl : gs.length ≤ 20)
    (hnext : ∀ a' W' t' b' n' m' f', Live7 w vo len k 1 t' b' n' tr m' f' a' W' → Box7 w ob c a' W' → Code.wp Tryz.prog (tail7 61) Q a' W') :
    Code.wp Tryz.prog (tail7 21) Q a0 W := by
  obtain ⟨hfr, h5, h7, h70, h71, h72, hs, hrel, hn⟩ := h0
  obtain ⟨h11, hbx, hlo⟩ := hb
  obtain ⟨u, hu⟩ : ∃ u : Nat → Value, u = fun i => a0.tmps.getD i undef := ⟨_, rfl⟩
  rw [← hu] at hfr
  have u5 : u 5 = _ := (congrFun hu 5).trans h5
  have u7 : u 7 = _ := (congrFun hu 7).trans h7
  have u11 : u 11 = _ := (congrFun hu 11).trans h11
  have u70 : u 70 = _ := (congrFun hu 70).trans h70
  have u71 : u 71 = _ := (congrFun hu 71).trans h71
  have u72 : u 72 = _ := (congrFun hu 72).trans h72
  clear hu h5 h7 h11 h70 h71 h72
  subst hfr
  conv => arg 2; whnf
  unfold frame7
  rw [u5, u7, u11, u70, u71, u72]
  clear u5 u7 u11 u70 u71 u72
  obtain ⟨l1, l2⟩ := hi.lens
  obtain ⟨ck, nd, ky, p0, q0, p1, q1, ap, np, cp, rk, rx, ry, al, nl, cl⟩ := c
  simp only at hk l1 l2
  subst l1 l2
  have x0 := cell_of (o := 0) hbx
  have x1 := cell_of (o := 1) hbx
  have x11 := cell_of (o := 11) hbx
  simp [encOp] at x0 x1 x11
  have px := Pre.mk (heap_lt hbx)
  have HBX := Lib.hid hbx
  have HS := Lib.hid hs
  have HREL := Lib.hid hrel
  have HN := Lib.hid hn
  have HI := Lib.hid hi
  have HNX := Lib.hid hnext
  clear hs hrel hn hi hbx hnext
  subst hk
  go_wp2_with fail
  refine (tabDrop_any w _ t b n m (HS.out.a.grew (by repeat (first | with_reducible exact Grew.refl _ | apply Grew.more | apply Grew.alloc | apply Grew.drew | apply Grew.drewN))) HS.out.ok (HS.out.g.trans (by repeat (first | with_reducible exact Grew.refl _ | apply Grew.more | apply Grew.alloc | apply Grew.drew | apply Grew.drewN))) HS.out.bb nd gs _ (HI.out.l.grew (Grew.trans HS.out.g (by repeat (first | with_reducible exact Grew.refl _ | apply Grew.more | apply Grew.alloc | apply Grew.drew | apply Grew.drewN))))).mono ?_
  rintro e W5 ⟨rfl, hT5, hg5, hk5⟩
  have hdr := HREL.out.drop HS.out.ok nd gs
  have hok5 := HS.out.ok.filter fun x => !ofP nd gs x
  generalize (m.filter fun x => !ofP nd gs x) = m5 at *
  have HDR := Lib.hid hdr
  have HS5 : Hid (PlAt w W5 t b n tr m5 (dropK f nd gs 0)) := Lib.hid (let q := HS.out.prog hT5 hg5 hk5 hok5; { q with r := q.r.congr fun a b _ _ => dropK_zero f nd gs })
  have HB5 : Hid (W5.heap[ob]? = _) := Lib.hid ((hk5.2 ob (heap_lt HBX.out) (box_ne HS.out HBX.out)).trans HBX.out)
  clear hT5 hg5 hk5 hdr hok5 x0 x1 x11 px
  go_wp2
  go_loopg [16] 64 (fun gg s16 wr => ∃ j : Nat, j ≤ 64 ∧ 64 - j ≤ gg ∧ s16 = .int .i64 j ∧ Hid (PlAt w wr t b n tr m5 (dropK f nd gs j)) ∧ Hid (wr.heap[ob]? = some (.cells (encOp ⟨2, nd, ky, p0, q0, p1, q1, ap, p.length, cp, rk, rx, ry, al, gs.length, cl⟩).toArray 76)))
  case atStart => exact ⟨0, by omega, by omega, rfl, HS5, HB5⟩
  case round =>
    obtain ⟨j, hj, hgg, rfl, HT, HB⟩ := hrel
    by_cases hlt : j < 64
    · have hbj : (j : Int) < 64 := by omega
      have x1 := cell_of (o := 1) HB.out
      have x11 := cell_of (o := 11) HB.out
      simp [encOp] at x1 x11
      have px := Pre.mk (heap_lt HB.out)
      have hmod : (j : Int).tmod 8 = (j : Int) % 8 := Int.tmod_eq_emod_of_nonneg (by omega)
      have HIN := Lib.hid fun W2 (g : Grew wr W2) => in07_any _ gs ((j : Int) % 8) W2 (HI.out.l.grew (HT.out.g.trans g))
      by_cases hin : (j : Int) % 8 ∈ gs
      · rw [decide_eq_true hin] at HIN
        have HINN := Lib.hid hin
        clear hin
        by_cases h0 : 0 ≤ nd
        · by_cases h8 : nd < 8
          · obtain ⟨nn, rfl⟩ := Int.eq_ofNat_of_zero_le h0
            have hin := HINN.out
            have ptr := Pre.mk HT.out.r.lt
            have f0 := HT.out.r.frozen (o := nn * 256 + j * 4)
            have f1 := HT.out.r.frozen (o := nn * 256 + j * 4 + 1)
            have f2 := HT.out.r.frozen (o := nn * 256 + j * 4 + 2)
            have f3 := HT.out.r.frozen (o := nn * 256 + j * 4 + 3)
            obtain ⟨d0, d1, d2, d3⟩ := HT.out.r.cells (n := nn) (k := j) (by omega) (by omega)
            have hR6 := HT.out.r.set (n := nn) (k := j) (by omega) hlt 0 0 0 0
            have hk6 := (((Keep.set4 (w := wr) (B := tr) (o := nn * 256 + j * 4) (.int .i64 0)).trans (Keep.set4 (o := nn * 256 + j * 4 + 1) (.int .i64 0))).trans (Keep.set4 (o := nn * 256 + j * 4 + 2) (.int .i64 0))).trans (Keep.set4 (o := nn * 256 + j * 4 + 3) (.int .i64 0))
            have hg6 := (((HT.out.g.set HT.out.br (o := nn * 256 + j * 4) (.int .i64 0)).set HT.out.br (o := nn * 256 + j * 4 + 1) (.int .i64 0)).set HT.out.br (o := nn * 256 + j * 4 + 2) (.int .i64 0)).set HT.out.br (o := nn * 256 + j * 4 + 3) (.int .i64 0)
            have hs6 := HT.out.refs (f' := dropK f nn gs (j + 1)) (hR6.congr fun a b ha hb => dropK_yes hin ha hb) hg6 hk6
            have hb6 := (hk6.2 ob (heap_lt HB.out) (box_ner HT.out HB.out)).trans HB.out
            have HS6 := Lib.hid hs6
            have HB6 := Lib.hid hb6
            clear hin hR6 hk6 hg6 hs6 hb6
            go_upto_region 45 with (go_at_call 30; refine (HIN.out _ (by repeat (first | with_reducible exact Grew.refl _ | apply Grew.more | apply Grew.alloc | apply Grew.drew | apply Grew.drewN))).mono ?_; rintro e w7 ⟨rfl, rfl⟩)
            refine wp_region_seq 9 Tryz.mixed (by kernel_rfl) (by kernel_rfl) ?_
            iterate 9
              apply Seq.val
              focus
                rintro w1 u ⟨R1, n1, rfl⟩ hF
                simp [moreFacts, Fact.more, Oper.deps, Region.binds, List.filter_cons, World.more_drew] at hF
                simp [putFacts, Oper.deps, Region.binds, List.filter_cons, Region.dstOf, Fact.at, Act.put, World.more_drew]
                go_wp2
                exact ⟨by repeat (first | with_reducible exact Grew.refl _ | apply Grew.more | apply Grew.alloc | apply Grew.drew | apply Grew.drewN), rfl, _, _, rfl, rfl, rfl⟩
            rintro u w1 ⟨R1, n1, rfl⟩ hF
            clear hF
            simp [putFacts, Region.dstOf, Fact.at, Act.put, List.range_succ, World.more_drew]
            go_wp2
            go_roundg (64 - (j + 1))
            case measure => omega
            case rel => exact ⟨j + 1, by omega, by omega, by go_num, Lib.hid (HS6.out.grew (by repeat (first | with_reducible exact Grew.refl _ | apply Grew.more | apply Grew.alloc | apply Grew.drew | apply Grew.drewN))), Lib.hid (grew_heap (by repeat (first | with_reducible exact Grew.refl _ | apply Grew.more | apply Grew.alloc | apply Grew.drew | apply Grew.drewN)) HB6.out)⟩
          · have hgg8 : ¬ nd < 8 := h8
            go_wp2_with (go_at_call 30; refine (HIN.out _ (by repeat (first | with_reducible exact Grew.refl _ | apply Grew.more | apply Grew.alloc | apply Grew.drew | apply Grew.drewN))).mono ?_; rintro e w7 ⟨rfl, rfl⟩)
            go_roundg (64 - (j + 1))
            case measure => omega
            case rel => exact ⟨j + 1, by omega, by omega, by go_num, Lib.hid (let q := HT.out.grew (by repeat (first | with_reducible exact Grew.refl _ | apply Grew.more | apply Grew.alloc | apply Grew.drew | apply Grew.drewN)); { q with r := q.r.congr fun a b ha _ => dropK_out (by omega) ha }), Lib.hid (grew_heap (by repeat (first | with_reducible exact Grew.refl _ | apply Grew.more | apply Grew.alloc | apply Grew.drew | apply Grew.drewN)) HB.out)⟩
        · go_wp2_with (go_at_call 30; refine (HIN.out _ (by repeat (first | with_reducible exact Grew.refl _ | apply Grew.more | apply Grew.alloc | apply Grew.drew | apply Grew.drewN))).mono ?_; rintro e w7 ⟨rfl, rfl⟩)
          go_roundg (64 - (j + 1))
          case measure => omega
          case rel => exact ⟨j + 1, by omega, by omega, by go_num, Lib.hid (let q := HT.out.grew (by repeat (first | with_reducible exact Grew.refl _ | apply Grew.more | apply Grew.alloc | apply Grew.drew | apply Grew.drewN)); { q with r := q.r.congr fun a b ha _ => dropK_out (by omega) ha }), Lib.hid (grew_heap (by repeat (first | with_reducible exact Grew.refl _ | apply Grew.more | apply Grew.alloc | apply Grew.drew | apply Grew.drewN)) HB.out)⟩
      · rw [decide_eq_false hin] at HIN
        have HINN := Lib.hid hin
        clear hin
        go_wp2_with (go_at_call 30; refine (HIN.out _ (by repeat (first | with_reducible exact Grew.refl _ | apply Grew.more | apply Grew.alloc | apply Grew.drew | apply Grew.drewN))).mono ?_; rintro e w7 ⟨rfl, rfl⟩)
        go_roundg (64 - (j + 1))
        case measure => omega
        case rel => exact ⟨j + 1, by omega, by omega, by go_num, Lib.hid (let q := HT.out.grew (by repeat (first | with_reducible exact Grew.refl _ | apply Grew.more | apply Grew.alloc | apply Grew.drew | apply Grew.drewN)); { q with r := q.r.congr fun a b _ _ => dropK_no HINN.out }), Lib.hid (grew_heap (by repeat (first | with_reducible exact Grew.refl _ | apply Grew.more | apply Grew.alloc | apply Grew.drew | apply Grew.drewN)) HB.out)⟩
    · obtain rfl : j = 64 := by omega
      go_upto_if 205 with fail
      iterate 4 go_step
      refine HNX.out _ _ t b n m5 (dropF f nd gs) ?_ ?_
      · exact ⟨rfl, rfl, rfl, rfl, rfl, rfl, (let q := HT.out.grew (by repeat (first | with_reducible exact Grew.refl _ | apply Grew.more | apply Grew.alloc | apply Grew.drew | apply Grew.drewN)); { q with r := q.r.congr fun a b _ hb => dropK_all f nd gs hb }), HDR.out, by have := HN.out; omega⟩
      · exact ⟨rfl, grew_heap (by repeat (first | with_reducible exact Grew.refl _ | apply Grew.more | apply Grew.alloc | apply Grew.drew | apply Grew.drewN)) HB.out, hlo⟩
end Go.Proofs.YtmdmbimfdpngaaaGreatDoor
