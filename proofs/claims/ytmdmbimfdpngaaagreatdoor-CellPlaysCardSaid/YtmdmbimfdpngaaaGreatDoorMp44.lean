import Derived.Test.YtmdmbimfdpngaaaGreatDoorMp39
import Derived.Test.YtmdmbimfdpngaaaGreatDoorMp43
import Derived.Deep.QuietTactic
import Derived.BigQuiet
import Derived.Deep.LoopGhost
import Derived.Deep.RegionHeld3
import Derived.Deep.DeepCutAuto
import Derived.Test.YtmdmbimfdpngaaaGreatDoorMp30
/-! What is asked of a table: in memory; the frame of CellPlays. -/
namespace Go.Proofs.YtmdmbimfdpngaaaGreatDoor
set_option linter.unusedSimpArgs false
set_option linter.unusedVariables false
open Go.RowKit Ga
set_option maxRecDepth 100000

/-- what is asked, as it lies -/
structure OpC where
  k : Int
  nd : Int
  ky : Int
  p0 : Int
  q0 : Int
  p1 : Int
  q1 : Int
  ap : Option Addr
  np : Nat
  cp : Nat
  rk : Int
  rx : Int
  ry : Int
  al : Option Addr
  nl : Nat
  cl : Nat
def encOp (c : OpC) : List Value := [.int .i64 c.k, .int .i64 c.nd, .int .i64 c.ky, .int .i64 c.p0, .int .i64 c.q0, .int .i64 c.p1, .int .i64 c.q1, .slice c.ap c.np c.cp, .int .i64 c.rk, .int .i64 c.rx, .int .i64 c.ry, .slice c.al c.nl c.cl]
/-- its program and its groups -/
structure OpIs (w : World) (c : OpC) (p : List Val) (gs : List Int) : Prop where
  p : ValsAt w (.slice c.ap c.np c.cp) p
  l : IntsAt w (.slice c.al c.nl c.cl) gs
theorem OpIs.grew {w w' : World} {c : OpC} {p : List Val} {gs : List Int} (h : OpIs w c p gs) (g : Grew w w') : OpIs w' c p gs := ⟨h.p.grew g, h.l.grew g⟩
theorem OpIs.lens {w : World} {c : OpC} {p : List Val} {gs : List Int} (h : OpIs w c p gs) : c.np = p.length ∧ c.nl = gs.length := by
  obtain ⟨a, b, e⟩ := h.p.len
  obtain ⟨a2, b2, e2⟩ := h.l.len
  injection e with _ e _
  injection e2 with _ e2 _
  exact ⟨e, e2⟩
def OpsAt (w : World) (v : Value) (lc : List OpC) : Prop := RowsAt 12 encOp w v lc ∧ ∀ c ∈ lc, ∃ p gs, OpIs w c p gs
theorem OpsAt.open {w : World} {v : Value} {lc : List OpC} (h : OpsAt w v lc) : ∃ a cap, v = .slice a lc.length cap ∧ lc.length ≤ 9223372036854775807 ∧ ∀ i (hi : i < lc.length), ∃ b off, a = some ⟨b, off, none⟩ ∧ Pre b w ∧ ∀ j u, (encOp lc[i])[j]? = some u → w.cell? ⟨b, off + i * 12 + j, none⟩ = some u := by
  obtain ⟨⟨a, cap, rfl, hm, hx⟩, _⟩ := h
  refine ⟨a, cap, rfl, by unfold maxLen at hm; omega, fun i hi => ?_⟩
  obtain ⟨b, off, rfl, hc⟩ := hx (by intro e; subst e; simp at hi)
  have hj : ∀ j u, (encOp lc[i])[j]? = some u → w.cell? ⟨b, off + i * 12 + j, none⟩ = some u := fun j u => hc i lc[i] (List.getElem?_eq_getElem hi) j u
  exact ⟨b, off, rfl, Pre.mk (World.block_lt_of_cell? w _ (hj 0 _ rfl)), hj⟩
/-- both tables in memory -/
structure PlAt (w W : World) (t b n tr : Nat) (m : List Tab.En) (f : FTab) : Prop where
  g : Grew w W
  a : TableAt W t b n m
  r : RTabAt W tr f
  ok : OkT m
  bt : w.heap.size ≤ t
  bb : w.heap.size ≤ b
  br : w.heap.size ≤ tr
  n1 : tr ≠ t
  n2 : tr ≠ b
section
variable {w W W' : World} {t b n n' tr : Nat} {m m' : List Tab.En} {f f' : FTab}
theorem PlAt.grew (h : PlAt w W t b n tr m f) (g : Grew W W') : PlAt w W' t b n tr m f := { h with g := h.g.trans g, a := h.a.grew g, r := h.r.grew g }
theorem PlAt.prog (h : PlAt w W t b n tr m f) (hT : TableAt W' t b n' m') (hg : Grew w W') (hk : Keep b W W') (ho : OkT m') : PlAt w W' t b n' tr m' f :=
  { h with g := hg, a := hT, r := h.r.same (hk.2 tr h.r.lt h.n2), ok := ho }
theorem PlAt.refs (h : PlAt w W t b n tr m f) (hR : RTabAt W' tr f') (hg : Grew w W') (hk : Keep tr W W') : PlAt w W' t b n tr m f' :=
  { h with g := hg, a := h.a.keep hk (fun e => h.n1 e.symm) (fun e => h.n2 e.symm), r := hR }
theorem RTabAt.congr (h : RTabAt W t f) (he : ∀ n k : Nat, n < 8 → k < 64 → f n k = f' n k) : RTabAt W t f' := by
  obtain ⟨C, h1, h2, h3⟩ := h
  refine ⟨C, h1, h2, fun n k hn hk => ?_⟩
  rw [← he n k hn hk]
  exact h3 n k hn hk
end
def frame7 (u : Nat → Value) : Act := { tmps := #[u 0, u 1, u 2, u 3, u 4, u 5, u 6, u 7, u 8, u 9, u 10, u 11, u 12, u 13, u 14, u 15, u 16, u 17, u 18, u 19, u 20, u 21, u 22, u 23, u 24, u 25, u 26, u 27, u 28, u 29, u 30, u 31, u 32, u 33, u 34, u 35, u 36, u 37, u 38, u 39, u 40, u 41, u 42, u 43, u 44, u 45, u 46, u 47, u 48, u 49, u 50, u 51, u 52, u 53, u 54, u 55, u 56, u 57, u 58, u 59, u 60, u 61, u 62, u 63, u 64, u 65, u 66, u 67, u 68, u 69, u 70, u 71, u 72, u 73, u 74, u 75, u 76, u 77, u 78, u 79, u 80, u 81, u 82, u 83, u 84, u 85, u 86, u 87, u 88, u 89, u 90, u 91, u 92, u 93, u 94, u 95, u 96, u 97, u 98, u 99, u 100, u 101, u 102, u 103, u 104, u 105, u 106, u 107, u 108, u 109, u 110, u 111, u 112, u 113, u 114, u 115, u 116, u 117, u 118, u 119, u 120, u 121, u 122, u 123, u 124, u 125, u 126, u 127, u 128, u 129, u 130, u 131, u 132, u 133, u 134, u 135, u 136, u 137, u 138, u 139, u 140, u 141, u 142, u 143, u 144, u 145, u 146, u 147, u 148, u 149, u 150, u 151, u 152, u 153, u 154, u 155, u 156, u 157, u 158, u 159, u 160, u 161, u 162, u 163, u 164, u 165, u 166, u 167, u 168, u 169, u 170, u 171, u 172, u 173, u 174, u 175, u 176, u 177, u 178, u 179, u 180, u 181, u 182, u 183, u 184, u 185, u 186, u 187, u 188, u 189, u 190, u 191, u 192, u 193, u 194, u 195, u 196, u 197, u 198, u 199, u 200, u 201, u 202, u 203, u 204, u 205, u 206, u 207, u 208, u 209, u 210, u 211, u 212, u 213, u 214, u 215, u 216, u 217, u 218, u 219, u 220, u 221, u 222, u 223, u 224, u 225, u 226, u 227, u 228, u 229, u 230, u 231, u 232, u 233, u 234, u 235, u 236, u 237, u 238, u 239, u 240, u 241, u 242, u 243, u 244, u 245, u 246, u 247, u 248, u 249, u 250, u 251, u 252, u 253, u 254, u 255, u 256, u 257, u 258, u 259, u 260, u 261, u 262, u 263, u 264, u 265, u 266, u 267, u 268, u 269, u 270, u 271, u 272, u 273, u 274, u 275, u 276, u 277, u 278, u 279, u 280, u 281, u 282, u 283, u 284, u 285, u 286, u 287, u 288, u 289, u 290, u 291, u 292, u 293, u 294, u 295, u 296, u 297, u 298, u 299, u 300, u 301, u 302, u 303, u 304, u 305, u 306, u 307, u 308, u 309, u 310, u 311, u 312, u 313, u 314, u 315, u 316, u 317, u 318], defers := [] }
noncomputable def tail7 (n : Nat) : Code := (Tryz.f7.body.bind (from9 n)).getD .skip
/-- what lives from round to round -/
structure Live7 (w : World) (vo : Value) (len k e : Nat) (t b n tr : Nat) (m : List Tab.En) (f : FTab) (a : Act) (W : World) : Prop where
  fr : a = frame7 fun i => a.tmps.getD i undef
  t5 : a.tmps.getD 5 undef = .pointer (some ⟨t, 0, none⟩)
  t7 : a.tmps.getD 7 undef = .pointer (some ⟨tr, 0, none⟩)
  t70 : a.tmps.getD 70 undef = vo
  t71 : a.tmps.getD 71 undef = .int .i64 len
  t72 : a.tmps.getD 72 undef = .int .i64 k
  s : PlAt w W t b n tr m f
  rel : RelT m f
  hn : n ≤ 100 + k + e
/-- .. with what is asked, in a box -/
structure Box7 (w : World) (ob : Nat) (c : OpC) (a : Act) (W : World) : Prop where
  t11 : a.tmps.getD 11 undef = .pointer (some ⟨ob, 0, none⟩)
  bx : W.heap[ob]? = some (.cells (encOp c).toArray 76)
  lo : w.heap.size ≤ ob
end Go.Proofs.YtmdmbimfdpngaaaGreatDoor

/-! CellPlays: other kinds. -/
namespace Go.Proofs.YtmdmbimfdpngaaaGreatDoor
set_option linter.unusedSimpArgs false
set_option linter.unusedVariables false
open Go.RowKit Ga
set_option maxRecDepth 100000

set_option maxHeartbeats 16000000 in
theorem pl_other (w W : World) (vo : Value) (len k t b n tr ob : Nat) (m : List Tab.En) (f : FTab) (c : OpC) (p : List Val) (gs : List Int) (Q : Exit → Act → World → Prop) (a0 : Act)
    (h0 : Live7 w vo len k 0 t b n tr m f a0 W) (hb : Box7 w ob c a0 W) (hi : OpIs w c p gs) (hk : c.k ≠ 0 ∧ c.k ≠ 1 ∧ c.k ≠ 2 ∧ c.k ≠ 3 ∧ c.k ≠ 4) (hlen : k < len ∧ len ≤ 100) (hpl : p.length ≤ 24) (hgl : gs.length ≤ 20)
    (hnext : ∀ a' W' t' b' n' m' f', Live7 w vo len k 1 t' b' n' tr m' f' a' W' → Box7 w ob c a' W' → Code.wp Tryz.prog (tail7 61) Q a' W') :
    Code.wp Tryz.prog (tail7 21) Q a0 W := by
  obtain ⟨hfr, h5, h7, h70, h71, h72, hs, hrel, hn⟩ := h0
  obtain ⟨h11, hbx, hlo⟩ := hb
  obtain ⟨u, hu⟩ : ∃ u : Nat → Value, u = fun i => a0.tmps.getD i undef := ⟨_, rfl⟩
  rw [← hu] at hfr
  have u5 : u 5 = _ := (congrFun hu 5).trans h5
  have u7 : u 7 = _ := (congrFun hu 7).trans h7
  have u11 : u 11 = _ := (congrFun hu 11).trans h11
  have u70 : u 70 = _ := (congrFun hu 70).trans h70
  have u71 : u 71 = _ := (congrFun hu 71).trans h71
  have u72 : u 72 = _ := (congrFun hu 72).trans h72
  clear hu h5 h7 h11 h70 h71 h72
  subst hfr
  conv => arg 2; whnf
  unfold frame7
  rw [u5, u7, u11, u70, u71, u72]
  clear u5 u7 u11 u70 u71 u72
  obtain ⟨l1, l2⟩ := hi.lens
  obtain ⟨ck, nd, ky, p0, q0, p1, q1, ap, np, cp, rk, rx, ry, al, nl, cl⟩ := c
  simp only at hk l1 l2
  subst l1 l2
  have x0 := cell_of (o := 0) hbx
  simp [encOp] at x0
  have px := Pre.mk (heap_lt hbx)
  have HBX := Lib.hid hbx
  have HS := Lib.hid hs
  have HREL := Lib.hid hrel
  have HN := Lib.hid hn
  have HI := Lib.hid hi
  have HNX := Lib.hid hnext
  clear hs hrel hn hi hbx hnext
  obtain ⟨k0, k1, k2, k3, k4⟩ := hk
  have b0 : (ck == 0) = false := by simpa using k0
  have b1 : (ck == 1) = false := by simpa using k1
  have b2 : (ck == 2) = false := by simpa using k2
  have b3 : (ck == 3) = false := by simpa using k3
  have b4 : (ck == 4) = false := by simpa using k4
  clear k0 k1 k2 k3 k4
  go_upto_if 272 with fail
  iterate 4 go_step
  refine HNX.out _ _ t b n m f ?_ ?_
  · exact ⟨rfl, rfl, rfl, rfl, rfl, rfl, HS.out, HREL.out, by have := HN.out; omega⟩
  · exact ⟨rfl, HBX.out, hlo⟩
end Go.Proofs.YtmdmbimfdpngaaaGreatDoor

/-! CellPlays: Set. -/
namespace Go.Proofs.YtmdmbimfdpngaaaGreatDoor
set_option linter.unusedSimpArgs false
set_option linter.unusedVariables false
open Go.RowKit Ga
set_option maxRecDepth 100000

theorem box_ne {w W : World} {t b n tr ob : Nat} {m : List Tab.En} {f : FTab} {c : Array Value} (h : PlAt w W t b n tr m f) (hb : W.heap[ob]? = some (.cells c 76)) : ob ≠ b := fun e => TabAt.nocells h.a.2 _ _ _ (e ▸ hb)
theorem box_ner {w W : World} {t b n tr ob : Nat} {m : List Tab.En} {f : FTab} {c : Array Value} (h : PlAt w W t b n tr m f) (hb : W.heap[ob]? = some (.cells c 76)) : ob ≠ tr := fun e => by
  obtain ⟨C, h1, _⟩ := h.r
  rw [← e, hb] at h1
  cases h1
set_option maxHeartbeats 16000000 in
theorem pl_0 (w W : World) (vo : Value) (len k t b n tr ob : Nat) (m : List Tab.En) (f : FTab) (c : OpC) (p : List Val) (gs : List Int) (Q : Exit → Act → World → Prop) (a0 : Act)
    (h0 : Live7 w vo len k 0 t b n tr m f a0 W) (hb : Box7 w ob c a0 W) (hi : OpIs w c p gs) (hk : c.k = 0) (hlen : k < len ∧ len ≤ 100) (hpl : p.length ≤ 24) (hgl : gs.length ≤ 20)
    (hnext : ∀ a' W' t' b' n' m' f', Live7 w vo len k 1 t' b' n' tr m' f' a' W' → Box7 w ob c a' W' → Code.wp Tryz.prog (tail7 61) Q a' W') :
    Code.wp Tryz.prog (tail7 21) Q a0 W := by
  obtain ⟨hfr, h5, h7, h70, h71, h72, hs, hrel, hn⟩ := h0
  obtain ⟨h11, hbx, hlo⟩ := hb
  obtain ⟨u, hu⟩ : ∃ u : Nat → Value, u = fun i => a0.tmps.getD i undef := ⟨_, rfl⟩
  rw [← hu] at hfr
  have u5 : u 5 = _ := (congrFun hu 5).trans h5
  have u7 : u 7 = _ := (congrFun hu 7).trans h7
  have u11 : u 11 = _ := (congrFun hu 11).trans h11
  have u70 : u 70 = _ := (congrFun hu 70).trans h70
  have u71 : u 71 = _ := (congrFun hu 71).trans h71
  have u72 : u 72 = _ := (congrFun hu 72).trans h72
  clear hu h5 h7 h11 h70 h71 h72
  subst hfr
  conv => arg 2; whnf
  unfold frame7
  rw [u5, u7, u11, u70, u71, u72]
  clear u5 u7 u11 u70 u71 u72
  obtain ⟨l1, l2⟩ := hi.lens
  obtain ⟨ck, nd, ky, p0, q0, p1, q1, ap, np, cp, rk, rx, ry, al, nl, cl⟩ := c
  simp only at hk l1 l2
  subst l1 l2
  have x0 := cell_of (o := 0) hbx
  have x1 := cell_of (o := 1) hbx
  have x2 := cell_of (o := 2) hbx
  have x3 := cell_of (o := 3) hbx
  have x4 := cell_of (o := 4) hbx
  have x5 := cell_of (o := 5) hbx
  have x6 := cell_of (o := 6) hbx
  simp [encOp] at x0 x1 x2 x3 x4 x5 x6
  have px := Pre.mk (heap_lt hbx)
  have HBX := Lib.hid hbx
  have HS := Lib.hid hs
  have HREL := Lib.hid hrel
  have HN := Lib.hid hn
  have HI := Lib.hid hi
  have HNX := Lib.hid hnext
  clear hs hrel hn hi hbx hnext
  subst hk
  have HSET := Lib.hid fun W2 (g : Grew W W2) => tabSet_c w W2 t b n m nd ky p0 q0 p1 q1 (HS.out.a.grew g) (HS.out.g.trans g) HS.out.bb (by have := HN.out; unfold maxLen; omega)
  have HRT := Lib.hid fun W2 => refRight07_any nd ky p0 q0 p1 q1 W2
  cases hok : okEn ⟨nd, ky, (p0, q0), (p1, q1)⟩
  · have hsr : setR m ⟨nd, ky, (p0, q0), (p1, q1)⟩ = (1, m) := by unfold setR; rw [hok]; rfl
    rw [hsr] at HSET
    rw [hok] at HRT
    clear hok hsr
    go_wp2_with fail
    refine (HSET.out _ (by repeat (first | with_reducible exact Grew.refl _ | apply Grew.more | apply Grew.alloc | apply Grew.drew | apply Grew.drewN))).mono ?_
    rintro e W5 ⟨rfl, hT5, hg5, hk5⟩
    have hne := box_ne HS.out HBX.out
    have HBX5 : Hid (W5.heap[ob]? = some (.cells (encOp ⟨0, nd, ky, p0, q0, p1, q1, ap, p.length, cp, rk, rx, ry, al, gs.length, cl⟩).toArray 76)) := Lib.hid (by rw [hk5.2 ob (heap_lt HBX.out) hne]; exact HBX.out)
    have HS5 := Lib.hid (HS.out.prog hT5 hg5 hk5 HS.out.ok)
    clear hT5 hg5 hk5 hne x0 x1 x2 x3 x4 x5 x6 px
    have x1 := cell_of (o := 1) HBX5.out
    have x2 := cell_of (o := 2) HBX5.out
    have x3 := cell_of (o := 3) HBX5.out
    have x4 := cell_of (o := 4) HBX5.out
    have x5 := cell_of (o := 5) HBX5.out
    have x6 := cell_of (o := 6) HBX5.out
    simp [encOp] at x1 x2 x3 x4 x5 x6
    have px := Pre.mk (heap_lt HBX5.out)
    go_upto_if 116 with (go_at_call 15; refine (HRT.out _).mono ?_; rintro e w6 ⟨rfl, R6, N6, rfl⟩)
    iterate 4 go_step
    refine HNX.out _ _ t b (n + 1) m f ?_ ?_
    · exact ⟨rfl, rfl, rfl, rfl, rfl, rfl, HS5.out.grew (by repeat (first | with_reducible exact Grew.refl _ | apply Grew.more | apply Grew.alloc | apply Grew.drew | apply Grew.drewN)), HREL.out, by have := HN.out; omega⟩
    · exact ⟨rfl, grew_heap (by repeat (first | with_reducible exact Grew.refl _ | apply Grew.more | apply Grew.alloc | apply Grew.drew | apply Grew.drewN)) HBX5.out, hlo⟩
  · have hsr : setR m ⟨nd, ky, (p0, q0), (p1, q1)⟩ = (0, Tab.setT m ⟨nd, ky, (p0, q0), (p1, q1)⟩) := by unfold setR; rw [hok]; rfl
    have hth := okEn_there hok
    have hset := HS.out.ok.set hok
    have hrl := HREL.out.set HS.out.ok hth
    rw [hsr] at HSET
    rw [hok] at HRT
    unfold There at hth
    simp only at hth hrl
    obtain ⟨⟨h1, h2⟩, h3, h4⟩ := hth
    obtain ⟨nn, rfl⟩ := Int.eq_ofNat_of_zero_le h1
    obtain ⟨kk, rfl⟩ := Int.eq_ofNat_of_zero_le h3
    have HSETM := Lib.hid hset
    have HRL := Lib.hid hrl
    clear hok hsr hset hrl
    go_wp2_with fail
    refine (HSET.out _ (by repeat (first | with_reducible exact Grew.refl _ | apply Grew.more | apply Grew.alloc | apply Grew.drew | apply Grew.drewN))).mono ?_
    rintro e W5 ⟨rfl, hT5, hg5, hk5⟩
    have hne := box_ne HS.out HBX.out
    have HBX5 : Hid (W5.heap[ob]? = some (.cells (encOp ⟨0, nn, kk, p0, q0, p1, q1, ap, p.length, cp, rk, rx, ry, al, gs.length, cl⟩).toArray 76)) := Lib.hid (by rw [hk5.2 ob (heap_lt HBX.out) hne]; exact HBX.out)
    have HS5 := Lib.hid (HS.out.prog hT5 hg5 hk5 HSETM.out)
    clear hT5 hg5 hk5 hne x0 x1 x2 x3 x4 x5 x6 px
    have x1 := cell_of (o := 1) HBX5.out
    have x2 := cell_of (o := 2) HBX5.out
    have x3 := cell_of (o := 3) HBX5.out
    have x4 := cell_of (o := 4) HBX5.out
    have x5 := cell_of (o := 5) HBX5.out
    have x6 := cell_of (o := 6) HBX5.out
    simp [encOp] at x1 x2 x3 x4 x5 x6
    have px := Pre.mk (heap_lt HBX5.out)
    have ptr := Pre.mk HS5.out.r.lt
    have f0 := HS5.out.r.frozen (o := nn * 256 + kk * 4)
    have f1 := HS5.out.r.frozen (o := nn * 256 + kk * 4 + 1)
    have f2 := HS5.out.r.frozen (o := nn * 256 + kk * 4 + 2)
    have f3 := HS5.out.r.frozen (o := nn * 256 + kk * 4 + 3)
    obtain ⟨d0, d1, d2, d3⟩ := HS5.out.r.cells (n := nn) (k := kk) (by omega) (by omega)
    go_upto_region 27 with (go_at_call 15; refine (HRT.out _).mono ?_; rintro e w6 ⟨rfl, R6, N6, rfl⟩)
    refine wp_region_seq 13 Tryz.mixed (by kernel_rfl) (by kernel_rfl) ?_
    iterate 13
      apply Seq.val
      focus
        rintro w1 u ⟨R1, n1, rfl⟩ hF
        simp [moreFacts, Fact.more, Oper.deps, Region.binds, List.filter_cons, World.more_drew] at hF
        simp [putFacts, Oper.deps, Region.binds, List.filter_cons, Region.dstOf, Fact.at, Act.put, World.more_drew]
        go_wp2
        exact ⟨by repeat (first | with_reducible exact Grew.refl _ | apply Grew.more | apply Grew.alloc | apply Grew.drew | apply Grew.drewN), rfl, _, _, rfl, rfl, rfl⟩
    rintro u w1 ⟨R1, n1, rfl⟩ hF
    clear hF
    simp [putFacts, Region.dstOf, Fact.at, Act.put, List.range_succ, World.more_drew]
    iterate 6 go_step
    have hg6 : Grew w ((((W5.setCell ⟨tr, nn * 256 + kk * 4, none⟩ (.int .i64 p0)).setCell ⟨tr, nn * 256 + kk * 4 + 1, none⟩ (.int .i64 q0)).setCell ⟨tr, nn * 256 + kk * 4 + 2, none⟩ (.int .i64 p1)).setCell ⟨tr, nn * 256 + kk * 4 + 3, none⟩ (.int .i64 q1)) := (((HS5.out.g.set HS.out.br _).set HS.out.br _).set HS.out.br _).set HS.out.br _
    have hk6 := (((Keep.set4 (w := W5) (B := tr) (o := nn * 256 + kk * 4) (.int .i64 p0)).trans (Keep.set4 (o := nn * 256 + kk * 4 + 1) (.int .i64 q0))).trans (Keep.set4 (o := nn * 256 + kk * 4 + 2) (.int .i64 p1))).trans (Keep.set4 (o := nn * 256 + kk * 4 + 3) (.int .i64 q1))
    have hs6 := HS5.out.refs (HS5.out.r.set (n := nn) (k := kk) (by omega) (by omega) p0 q0 p1 q1) hg6 hk6
    have hb6 := (hk6.2 ob (heap_lt HBX5.out) (box_ner HS5.out HBX5.out)).trans HBX5.out
    refine HNX.out _ _ t b (n + 1) (Tab.setT m ⟨nn, kk, (p0, q0), (p1, q1)⟩) (setF f nn kk ((p0, q0), (p1, q1))) ?_ ?_
    · exact ⟨rfl, rfl, rfl, rfl, rfl, rfl, hs6.grew (by repeat (first | with_reducible exact Grew.refl _ | apply Grew.more | apply Grew.alloc | apply Grew.drew | apply Grew.drewN)), HRL.out, by have := HN.out; omega⟩
    · exact ⟨rfl, grew_heap (by repeat (first | with_reducible exact Grew.refl _ | apply Grew.more | apply Grew.alloc | apply Grew.drew | apply Grew.drewN)) hb6, hlo⟩
end Go.Proofs.YtmdmbimfdpngaaaGreatDoor

/-! The law CellGroups, walked. -/
namespace Go.Proofs.YtmdmbimfdpngaaaGreatDoor
set_option linter.unusedSimpArgs false
set_option linter.unusedVariables false
open Go.RowKit Ga
set_option maxRecDepth 100000

end Go.Proofs.YtmdmbimfdpngaaaGreatDoor

/-! CellPlays: Copy. -/
namespace Go.Proofs.YtmdmbimfdpngaaaGreatDoor
set_option linter.unusedSimpArgs false
set_option linter.unusedVariables false
open Go.RowKit Ga
set_option maxRecDepth 100000

theorem PlAt.other {w W W' : World} {t b b1 n tr : Nat} {m : List Tab.En} {f : FTab} (h : PlAt w W t b n tr m f) (hg : Grew w W') (hk : Keep b1 W W') (h1 : t ≠ b1) (h2 : b ≠ b1) (h3 : tr ≠ b1) : PlAt w W' t b n tr m f :=
  { h with g := hg, a := h.a.keep hk h1 h2, r := h.r.same (hk.2 tr h.r.lt h3) }
theorem eight_at (W : World) (t : TypeId) (b : Nat) (hb : b = W.heap.size) : IntsAt (W.alloc (.cells #[.int .i64 0, .int .i64 1, .int .i64 2, .int .i64 3, .int .i64 4, .int .i64 5, .int .i64 6, .int .i64 7] t)) (.slice (some ⟨b, 0, none⟩) 8 8) [0, 1, 2, 3, 4, 5, 6, 7] := by
  refine RowsAt.fresh (l := [0, 1, 2, 3, 4, 5, 6, 7]) (c := [.int .i64 0, .int .i64 1, .int .i64 2, .int .i64 3, .int .i64 4, .int .i64 5, .int .i64 6, .int .i64 7]) rfl (by simp [maxLen]) (fun _ => rfl) hb ?_
  simp
set_option maxHeartbeats 16000000 in
theorem pl_4 (w W : World) (vo : Value) (len k t b n tr ob : Nat) (m : List Tab.En) (f : FTab) (c : OpC) (p : List Val) (gs : List Int) (Q : Exit → Act → World → Prop) (a0 : Act)
    (h0 : Live7 w vo len k 0 t b n tr m f a0 W) (hb : Box7 w ob c a0 W) (hi : OpIs w c p gs) (hk : c.k = 4) (hlen : k < len ∧ len ≤ 100) (hpl : p.length ≤ 24) (hgl : gs.length ≤ 20)
    (hnext : ∀ a' W' t' b' n' m' f', Live7 w vo len k 1 t' b' n' tr m' f' a' W' → Box7 w ob c a' W' → Code.wp Tryz.prog (tail7 61) Q a' W') :
    Code.wp Tryz.prog (tail7 21) Q a0 W := by
  obtain ⟨hfr, h5, h7, h70, h71, h72, hs, hrel, hn⟩ := h0
  obtain ⟨h11, hbx, hlo⟩ := hb
  obtain ⟨u, hu⟩ : ∃ u : Nat → Value, u = fun i => a0.tmps.getD i undef := ⟨_, rfl⟩
  rw [← hu] at hfr
  have u5 : u 5 = _ := (congrFun hu 5).trans h5
  have u7 : u 7 = _ := (congrFun hu 7).trans h7
  have u11 : u 11 = _ := (congrFun hu 11).trans h11
  have u70 : u 70 = _ := (congrFun hu 70).trans h70
  have u71 : u 71 = _ := (congrFun hu 71).trans h71
  have u72 : u 72 = _ := (congrFun hu 72).trans h72
  clear hu h5 h7 h11 h70 h71 h72
  subst hfr
  conv => arg 2; whnf
  unfold frame7
  rw [u5, u7, u11, u70, u71, u72]
  clear u5 u7 u11 u70 u71 u72
  obtain ⟨l1, l2⟩ := hi.lens
  obtain ⟨ck, nd, ky, p0, q0, p1, q1, ap, np, cp, rk, rx, ry, al, nl, cl⟩ := c
  simp only at hk l1 l2
  subst l1 l2
  have x0 := cell_of (o := 0) hbx
  have x1 := cell_of (o := 1) hbx
  have x2 := cell_of (o := 2) hbx
  simp [encOp] at x0 x1 x2
  have px := Pre.mk (heap_lt hbx)
  have HBX := Lib.hid hbx
  have HS := Lib.hid hs
  have HREL := Lib.hid hrel
  have HN := Lib.hid hn
  have HI := Lib.hid hi
  have HNX := Lib.hid hnext
  clear hs hrel hn hi hbx hnext
  subst hk
  go_wp2_with fail
  refine (tabCopy_any _ t b n m (HS.out.a.grew (by repeat (first | with_reducible exact Grew.refl _ | apply Grew.more | apply Grew.alloc | apply Grew.drew | apply Grew.drewN)))).mono ?_
  rintro e w5 ⟨t2, b2, rfl, hT2, ht2, hb2, R5, N5, rfl⟩
  have HS5 := Lib.hid (HS.out.grew (by repeat (first | with_reducible exact Grew.refl _ | apply Grew.more | apply Grew.alloc | apply Grew.drew | apply Grew.drewN) : Grew W (W.more R5 N5)))
  have hbW := HS.out.a.2.lt
  have htW := heap_lt HS.out.a.1
  have hrW := HS.out.r.lt
  have hw := HS.out.g.below.size
  have HC5 : Hid (PlAt w (W.more R5 N5) t2 b2 n tr m f) := Lib.hid ⟨HS5.out.g, hT2, HS5.out.r, HS.out.ok, by omega, by omega, HS.out.br, by omega, by omega⟩
  have HNE : Hid (t2 ≠ b ∧ b2 ≠ b ∧ tr ≠ b ∧ ob ≠ b) := Lib.hid ⟨by omega, by omega, HS.out.n2, box_ne HS.out HBX.out⟩
  clear hT2 ht2 hb2 hbW htW hrW hw
  go_wp2_with fail
  refine (tabDrop_any w _ t b n m (HS5.out.a.grew (by repeat (first | with_reducible exact Grew.refl _ | apply Grew.more | apply Grew.alloc | apply Grew.drew | apply Grew.drewN))) HS.out.ok (HS5.out.g.trans (by repeat (first | with_reducible exact Grew.refl _ | apply Grew.more | apply Grew.alloc | apply Grew.drew | apply Grew.drewN))) HS.out.bb nd [0, 1, 2, 3, 4, 5, 6, 7] _ (eight_at _ _ _ (by simp [go_sem]))).mono ?_
  rintro e W6 ⟨rfl, hT6, hg6, hk6⟩
  have HC6 := Lib.hid ((HC5.out.grew (by repeat (first | with_reducible exact Grew.refl _ | apply Grew.more | apply Grew.alloc | apply Grew.drew | apply Grew.drewN))).other hg6 hk6 HNE.out.1 HNE.out.2.1 HNE.out.2.2.1)
  have HT6 := Lib.hid hT6
  have HG6 := Lib.hid hg6
  have HBX6 := Lib.hid ((hk6.2 ob (Nat.lt_of_lt_of_le (heap_lt HBX.out) (by simp [go_sem]; omega)) HNE.out.2.2.2).trans (grew_heap (by repeat (first | with_reducible exact Grew.refl _ | apply Grew.more | apply Grew.alloc | apply Grew.drew | apply Grew.drewN)) HBX.out))
  clear hT6 hg6 hk6 x0 x1 x2 px
  go_wp2_with fail
  refine (tabSet_c w _ t b n _ 0 0 9 0 0 0 (HT6.out.grew (by repeat (first | with_reducible exact Grew.refl _ | apply Grew.more | apply Grew.alloc | apply Grew.drew | apply Grew.drewN))) (HG6.out.trans (by repeat (first | with_reducible exact Grew.refl _ | apply Grew.more | apply Grew.alloc | apply Grew.drew | apply Grew.drewN))) HS.out.bb (by have := HN.out; unfold maxLen; omega)).mono ?_
  rintro e W7 ⟨rfl, hT7, hg7, hk7⟩
  have HC7 := Lib.hid ((HC6.out.grew (by repeat (first | with_reducible exact Grew.refl _ | apply Grew.more | apply Grew.alloc | apply Grew.drew | apply Grew.drewN))).other hg7 hk7 HNE.out.1 HNE.out.2.1 HNE.out.2.2.1)
  have HBX7 := Lib.hid ((hk7.2 ob (heap_lt HBX6.out) HNE.out.2.2.2).trans HBX6.out)
  clear hT7 hg7 hk7
  go_upto_region 60 with fail
  iterate 10 go_step
  refine HNX.out _ _ t2 b2 n m f ?_ ?_
  · exact ⟨rfl, rfl, rfl, rfl, rfl, rfl, HC7.out.grew (by repeat (first | with_reducible exact Grew.refl _ | apply Grew.more | apply Grew.alloc | apply Grew.drew | apply Grew.drewN)), HREL.out, by have := HN.out; omega⟩
  · exact ⟨rfl, grew_heap (by repeat (first | with_reducible exact Grew.refl _ | apply Grew.more | apply Grew.alloc | apply Grew.drew | apply Grew.drewN)) HBX7.out, hlo⟩
end Go.Proofs.YtmdmbimfdpngaaaGreatDoor
