import Derived.Test.YtmdmbimfdpngaaaGreatMs32
import Derived.Test.YtmdmbimfdpngaaaGreatMs26
import Derived.Deep.LoopGhost
/-! slices.EqualFunc at steps: with pack.same, with pack.exact; pack.kept. -/
namespace Go.Proofs.YtmdmbimfdpngaaaGreat
set_option linter.unusedSimpArgs false
set_option linter.unusedVariables false
open Go.RowKit Ga
set_option maxRecDepth 100000

/-- two lists are one by R, element by element -/
def eqBy (R : Gr.Stp → Gr.Stp → Bool) : List Gr.Stp → List Gr.Stp → Bool
  | [], [] => true
  | x :: l, y :: m => R x y && eqBy R l m
  | _, _ => false
theorem eqBy_iff (R : Gr.Stp → Gr.Stp → Bool) : ∀ (l m : List Gr.Stp), eqBy R l m = true ↔ l.length = m.length ∧ ∀ (i : Nat) (h : i < l.length) (h2 : i < m.length), R l[i] m[i] = true
  | [], [] => by simp [eqBy]
  | [], y :: m => by simp [eqBy]
  | x :: l, [] => by simp [eqBy]
  | x :: l, y :: m => by
    rw [eqBy, Bool.and_eq_true, eqBy_iff R l m]
    constructor
    · rintro ⟨h1, h2, h3⟩
      refine ⟨by simp [h2], fun i hi hi2 => ?_⟩
      cases i with
      | zero => exact h1
      | succ i => exact h3 i (by simpa using hi) (by simpa using hi2)
    · rintro ⟨h1, h2⟩
      refine ⟨h2 0 (by simp) (by simp), by simpa using h1, fun i hi hi2 => ?_⟩
      exact h2 (i + 1) (by simpa using hi) (by simpa using hi2)
def UptoBy (R : Gr.Stp → Gr.Stp → Bool) (l m : List Gr.Stp) (g : Nat) : Prop := ∀ (i : Nat) (h : i < l.length) (h2 : i < m.length), i < g → R l[i] m[i] = true
theorem UptoBy.succ {R : Gr.Stp → Gr.Stp → Bool} {l m : List Gr.Stp} {g : Nat} (h : UptoBy R l m g) (h1 : g < l.length) (h2 : g < m.length) (h3 : R l[g] m[g] = true) : UptoBy R l m (g + 1) := fun i hi hi2 hg => by
  rcases Nat.lt_or_ge i g with h4 | h4
  · exact h i hi hi2 h4
  · obtain rfl : i = g := by omega
    exact h3
theorem UptoBy.eqBy {R : Gr.Stp → Gr.Stp → Bool} {l m : List Gr.Stp} (h : UptoBy R l m l.length) (hl : l.length = m.length) : eqBy R l m = true := (eqBy_iff R l m).2 ⟨hl, fun i h1 h2 => h i h1 h2 h1⟩
theorem eqBy_no (R : Gr.Stp → Gr.Stp → Bool) {l m : List Gr.Stp} {g : Nat} (h1 : g < l.length) (h2 : g < m.length) (h3 : R l[g] m[g] = false) : eqBy R l m = false := by
  rw [Bool.eq_false_iff]
  intro h
  have := ((eqBy_iff R l m).1 h).2 g h1 h2
  rw [h3] at this
  cases this
theorem eqBy_len (R : Gr.Stp → Gr.Stp → Bool) {l m : List Gr.Stp} (h : l.length ≠ m.length) : eqBy R l m = false := by
  rw [Bool.eq_false_iff]
  intro h1
  exact h ((eqBy_iff R l m).1 h1).1
noncomputable def sameSt (s t : Gr.Stp) : Bool := eqSt (Gr.cleanS s) (Gr.cleanS t)
theorem packSameS_any (c d : StC) (s t : Gr.Stp) (w : World) (hn : StepIs w c s) (hm : StepIs w d t) (hs : s.nd.frm.length ≤ 1000 ∧ s.nd.prog.length ≤ 1000) (ht : t.nd.frm.length ≤ 1000 ∧ t.nd.prog.length ≤ 1000) : Calls Tryz.prog 149 #[.agg #[.int .i64 c.kind, .int .i64 c.c.id, .int .i64 c.c.kind, .slice c.c.af c.c.nf c.c.cf, .slice c.c.ap c.c.np c.c.cp, .int .i64 c.c.par, .int .i64 c.c.r0, .int .i64 c.c.r1, .int .i64 c.c.r2, .int .i64 c.c.r3, .int .i64 c.c.r4, .int .i64 c.c.r5, .int .i64 c.c.r6, .int .i64 c.c.r7, .bool c.reset], .agg #[.int .i64 d.kind, .int .i64 d.c.id, .int .i64 d.c.kind, .slice d.c.af d.c.nf d.c.cf, .slice d.c.ap d.c.np d.c.cp, .int .i64 d.c.par, .int .i64 d.c.r0, .int .i64 d.c.r1, .int .i64 d.c.r2, .int .i64 d.c.r3, .int .i64 d.c.r4, .int .i64 d.c.r5, .int .i64 d.c.r6, .int .i64 d.c.r7, .bool d.reset]] w (Gives (.bool (sameSt s t)) w) := packSame_any c d s t w hn hm hs ht
theorem eqSt_true {s t : Gr.Stp} : eqSt s t = true ↔ s = t := by unfold eqSt; simp only [decide_eq_true_eq]
theorem same_iff (l m : List Gr.Stp) : eqBy sameSt l m = true ↔ l.map Gr.cleanS = m.map Gr.cleanS := by
  rw [eqBy_iff]
  constructor
  · rintro ⟨h1, h2⟩
    refine List.ext_getElem (by simpa using h1) fun i hi hi2 => ?_
    simp only [List.getElem_map]
    exact eqSt_true.1 (h2 i (by simpa using hi) (by simpa using hi2))
  · intro h
    have hl : l.length = m.length := by have := congrArg List.length h; simpa using this
    refine ⟨hl, fun i hi hi2 => eqSt_true.2 ?_⟩
    have h1 : (l.map Gr.cleanS)[i]? = (m.map Gr.cleanS)[i]? := by rw [h]
    rw [List.getElem?_map, List.getElem?_map, List.getElem?_eq_getElem hi, List.getElem?_eq_getElem hi2] at h1
    simpa using h1
theorem exact_iff (l m : List Gr.Stp) : eqBy eqSt l m = true ↔ l = m := by
  rw [eqBy_iff]
  constructor
  · rintro ⟨h1, h2⟩
    exact List.ext_getElem h1 fun i hi hi2 => eqSt_true.1 (h2 i hi hi2)
  · rintro rfl
    exact ⟨rfl, fun i _ _ => eqSt_true.2 rfl⟩
set_option maxHeartbeats 8000000 in
theorem eqFnSame_any (v u : Value) (l m : List Gr.Stp) (w : World) (hv : StepsAt w v l) (hu : StepsAt w u m) (hs : ∀ s ∈ l, s.nd.frm.length ≤ 1000 ∧ s.nd.prog.length ≤ 1000) (ht : ∀ s ∈ m, s.nd.frm.length ≤ 1000 ∧ s.nd.prog.length ≤ 1000) : Calls Tryz.prog 65 #[v, u, .func (.func 149) #[] #[]] w (Gives (.bool (eqBy sameSt l m)) w) := by
  have HV := Lib.hid hv
  have HU := Lib.hid hu
  have HSS := Lib.hid hs
  have HTT := Lib.hid ht
  obtain ⟨a, cap, rfl, hm, -⟩ := hv.openC
  obtain ⟨a2, cap2, rfl, hm2, -⟩ := hu.openC
  clear hv hu hs ht
  by_cases hlen : l.length = m.length
  · have hD2 : ((l.length : Int) != (m.length : Int)) = false := by rw [hlen]; simp
    have HLEN := Lib.hid hlen
    clear hlen
    go_enter Tryz.func65, Tryz.ntmps65
    go_wp2
    go_loopg [17] l.length (fun gg s17 wr => ∃ g : Nat, g ≤ l.length ∧ l.length - g ≤ gg ∧ s17 = .int .i64 g ∧ Hid (Grew w wr) ∧ Hid (UptoBy sameSt l m g))
    case atStart => exact ⟨0, by omega, by omega, rfl, Lib.hid (by repeat (first | with_reducible exact Grew.refl _ | apply Grew.more | apply Grew.alloc | apply Grew.drew | apply Grew.drewN)), Lib.hid fun i _ _ h => by omega⟩
    case round =>
      obtain ⟨g, hg8, hgg, rfl, HGR, HNO⟩ := hrel
      by_cases hlt : g < l.length
      · have hlt2 : g < m.length := by have := HLEN.out; omega
        obtain ⟨av, cv, e, -, hx⟩ := (HV.out.grew HGR.out).openC
        cases e
        obtain ⟨av2, cv2, e, -, hx2⟩ := (HU.out.grew HGR.out).openC
        cases e
        obtain ⟨b, off, c, rfl, hb, hn, c0, c1, c2, c3, c4, c5, c6, c7, c8, c9, c10, c11, c12, c13, c14⟩ := hx g hlt
        obtain ⟨b2, off2, d, rfl, hb2, hn2, d0, d1, d2, d3, d4, d5, d6, d7, d8, d9, d10, d11, d12, d13, d14⟩ := hx2 g hlt2
        have HS := Lib.hid fun h => HNO.out.succ hlt hlt2 h
        have HF := Lib.hid fun h => eqBy_no sameSt hlt hlt2 h
        have hy := HSS.out _ (List.getElem_mem hlt)
        have hz := HTT.out _ (List.getElem_mem hlt2)
        clear hx hx2
        generalize l[g] = y at *
        generalize m[g] = z at *
        have HA := Lib.hid fun W (g : Grew wr W) => packSameS_any c d y z W (hn.grew g) (hn2.grew g) hy hz
        obtain ⟨kd, rs, cid, kind, af, cf, ap, cp, par, r0, r1, r2, r3, r4, r5, r6, r7, rfl⟩ := hn.lit
        obtain ⟨kd2, rs2, cid2, kind2, af2, cf2, ap2, cp2, par2, s0, s1, s2, s3, s4, s5, s6, s7, rfl⟩ := hn2.lit
        simp only at c0 c1 c2 c3 c4 c5 c6 c7 c8 c9 c10 c11 c12 c13 c14 d0 d1 d2 d3 d4 d5 d6 d7 d8 d9 d10 d11 d12 d13 d14
        clear hn hn2 hy hz
        cases hq : sameSt y z
        · have HQ := Lib.hid hq
          have HFIN := Lib.hid (HF.out hq)
          clear hq
          go_wp2_with (go_at_call 149; refine (HA.out _ (by repeat (first | with_reducible exact Grew.refl _ | apply Grew.more | apply Grew.alloc | apply Grew.drew | apply Grew.drewN))).mono ?_; rintro e w1 ⟨rfl, R1, n1, rfl⟩; rw [HQ.out])
          go_ret
          exact ⟨by rw [HFIN.out]; rfl, HGR.out.trans (by repeat (first | with_reducible exact Grew.refl _ | apply Grew.more | apply Grew.alloc | apply Grew.drew | apply Grew.drewN))⟩
        · have HQ := Lib.hid hq
          have HS2 := Lib.hid (HS.out hq)
          clear hq
          go_wp2_with (go_at_call 149; refine (HA.out _ (by repeat (first | with_reducible exact Grew.refl _ | apply Grew.more | apply Grew.alloc | apply Grew.drew | apply Grew.drewN))).mono ?_; rintro e w1 ⟨rfl, R1, n1, rfl⟩; rw [HQ.out])
          go_roundg (l.length - (g + 1))
          case measure => omega
          case rel => exact ⟨g + 1, by omega, by omega, by go_num, Lib.hid (HGR.out.trans (by repeat (first | with_reducible exact Grew.refl _ | apply Grew.more | apply Grew.alloc | apply Grew.drew | apply Grew.drewN))), HS2⟩
      · obtain rfl : g = l.length := by omega
        have HFIN := Lib.hid (HNO.out.eqBy HLEN.out)
        go_wp2
        go_ret
        exact ⟨by rw [HFIN.out]; rfl, HGR.out⟩
  · have hD2 : ((l.length : Int) != (m.length : Int)) = true := by rw [bne_iff_ne]; omega
    have HFIN := Lib.hid (eqBy_len sameSt hlen)
    clear hlen
    go_enter Tryz.func65, Tryz.ntmps65
    go_wp2
    go_ret
    exact ⟨by rw [HFIN.out]; rfl, by repeat (first | with_reducible exact Grew.refl _ | apply Grew.more | apply Grew.alloc | apply Grew.drew | apply Grew.drewN)⟩
set_option maxHeartbeats 8000000 in
theorem eqFnExact_any (v u : Value) (l m : List Gr.Stp) (w : World) (hv : StepsAt w v l) (hu : StepsAt w u m) (hs : ∀ s ∈ l, s.nd.frm.length ≤ 1000 ∧ s.nd.prog.length ≤ 1000) (ht : ∀ s ∈ m, s.nd.frm.length ≤ 1000 ∧ s.nd.prog.length ≤ 1000) : Calls Tryz.prog 65 #[v, u, .func (.func 66) #[] #[]] w (Gives (.bool (eqBy eqSt l m)) w) := by
  have HV := Lib.hid hv
  have HU := Lib.hid hu
  have HSS := Lib.hid hs
  have HTT := Lib.hid ht
  obtain ⟨a, cap, rfl, hm, -⟩ := hv.openC
  obtain ⟨a2, cap2, rfl, hm2, -⟩ := hu.openC
  clear hv hu hs ht
  by_cases hlen : l.length = m.length
  · have hD2 : ((l.length : Int) != (m.length : Int)) = false := by rw [hlen]; simp
    have HLEN := Lib.hid hlen
    clear hlen
    go_enter Tryz.func65, Tryz.ntmps65
    go_wp2
    go_loopg [17] l.length (fun gg s17 wr => ∃ g : Nat, g ≤ l.length ∧ l.length - g ≤ gg ∧ s17 = .int .i64 g ∧ Hid (Grew w wr) ∧ Hid (UptoBy eqSt l m g))
    case atStart => exact ⟨0, by omega, by omega, rfl, Lib.hid (by repeat (first | with_reducible exact Grew.refl _ | apply Grew.more | apply Grew.alloc | apply Grew.drew | apply Grew.drewN)), Lib.hid fun i _ _ h => by omega⟩
    case round =>
      obtain ⟨g, hg8, hgg, rfl, HGR, HNO⟩ := hrel
      by_cases hlt : g < l.length
      · have hlt2 : g < m.length := by have := HLEN.out; omega
        obtain ⟨av, cv, e, -, hx⟩ := (HV.out.grew HGR.out).openC
        cases e
        obtain ⟨av2, cv2, e, -, hx2⟩ := (HU.out.grew HGR.out).openC
        cases e
        obtain ⟨b, off, c, rfl, hb, hn, c0, c1, c2, c3, c4, c5, c6, c7, c8, c9, c10, c11, c12, c13, c14⟩ := hx g hlt
        obtain ⟨b2, off2, d, rfl, hb2, hn2, d0, d1, d2, d3, d4, d5, d6, d7, d8, d9, d10, d11, d12, d13, d14⟩ := hx2 g hlt2
        have HS := Lib.hid fun h => HNO.out.succ hlt hlt2 h
        have HF := Lib.hid fun h => eqBy_no eqSt hlt hlt2 h
        have hy := HSS.out _ (List.getElem_mem hlt)
        have hz := HTT.out _ (List.getElem_mem hlt2)
        clear hx hx2
        generalize l[g] = y at *
        generalize m[g] = z at *
        have HA := Lib.hid fun W (g : Grew wr W) => exact_any c d y z W (hn.grew g) (hn2.grew g) hy hz
        obtain ⟨kd, rs, cid, kind, af, cf, ap, cp, par, r0, r1, r2, r3, r4, r5, r6, r7, rfl⟩ := hn.lit
        obtain ⟨kd2, rs2, cid2, kind2, af2, cf2, ap2, cp2, par2, s0, s1, s2, s3, s4, s5, s6, s7, rfl⟩ := hn2.lit
        simp only at c0 c1 c2 c3 c4 c5 c6 c7 c8 c9 c10 c11 c12 c13 c14 d0 d1 d2 d3 d4 d5 d6 d7 d8 d9 d10 d11 d12 d13 d14
        clear hn hn2 hy hz
        cases hq : eqSt y z
        · have HQ := Lib.hid hq
          have HFIN := Lib.hid (HF.out hq)
          clear hq
          go_wp2_with (go_at_call 66; refine (HA.out _ (by repeat (first | with_reducible exact Grew.refl _ | apply Grew.more | apply Grew.alloc | apply Grew.drew | apply Grew.drewN))).mono ?_; rintro e w1 ⟨rfl, R1, n1, rfl⟩; rw [HQ.out])
          go_ret
          exact ⟨by rw [HFIN.out]; rfl, HGR.out.trans (by repeat (first | with_reducible exact Grew.refl _ | apply Grew.more | apply Grew.alloc | apply Grew.drew | apply Grew.drewN))⟩
        · have HQ := Lib.hid hq
          have HS2 := Lib.hid (HS.out hq)
          clear hq
          go_wp2_with (go_at_call 66; refine (HA.out _ (by repeat (first | with_reducible exact Grew.refl _ | apply Grew.more | apply Grew.alloc | apply Grew.drew | apply Grew.drewN))).mono ?_; rintro e w1 ⟨rfl, R1, n1, rfl⟩; rw [HQ.out])
          go_roundg (l.length - (g + 1))
          case measure => omega
          case rel => exact ⟨g + 1, by omega, by omega, by go_num, Lib.hid (HGR.out.trans (by repeat (first | with_reducible exact Grew.refl _ | apply Grew.more | apply Grew.alloc | apply Grew.drew | apply Grew.drewN))), HS2⟩
      · obtain rfl : g = l.length := by omega
        have HFIN := Lib.hid (HNO.out.eqBy HLEN.out)
        go_wp2
        go_ret
        exact ⟨by rw [HFIN.out]; rfl, HGR.out⟩
  · have hD2 : ((l.length : Int) != (m.length : Int)) = true := by rw [bne_iff_ne]; omega
    have HFIN := Lib.hid (eqBy_len eqSt hlen)
    clear hlen
    go_enter Tryz.func65, Tryz.ntmps65
    go_wp2
    go_ret
    exact ⟨by rw [HFIN.out]; rfl, by repeat (first | with_reducible exact Grew.refl _ | apply Grew.more | apply Grew.alloc | apply Grew.drew | apply Grew.drewN)⟩
set_option maxHeartbeats 8000000 in
theorem kept_any (v : Value) (p : List Gr.Stp) (t : List UInt8) (w : World) (hv : StepsAt w v p) (hs : ∀ s ∈ p, s.nd.frm.length ≤ 1000 ∧ s.nd.prog.length ≤ 1000) (ht : t.length ≤ 100000) : Calls Tryz.prog 124 #[v, .string ⟨t.toArray⟩] w (Gives (.bool (eqBy sameSt p (Gr.getPl getL t).1)) w) := by
  have HV := Lib.hid hv
  have HS := Lib.hid hs
  have HG := Lib.hid fun W => getPlan_any t W ht
  have HT := Lib.hid (getPl_small t)
  obtain ⟨a, cap, rfl, hm, -⟩ := hv.openC
  clear hv hs
  generalize Gr.getPl getL t = r at *
  obtain ⟨q, er⟩ := r
  simp only at HG HT ⊢
  go_enter Tryz.func124, Tryz.ntmps124
  go_wp2_with (first
    | (go_at_call 96; refine (HG.out _).mono ?_; rintro e w1 ⟨v1, rfl, h1, hg1⟩; simp only at h1; obtain ⟨a1, cap1, rfl, hm1, -⟩ := h1.openC; (have H1 := Lib.hid h1); obtain ⟨R1, n1, rfl⟩ := hg1; clear h1)
    | (go_at_call 65; refine (eqFnSame_any _ _ p q _ (HV.out.grew (by repeat (first | with_reducible exact Grew.refl _ | apply Grew.more | apply Grew.alloc | apply Grew.drew | apply Grew.drewN))) (H1.out.grew (by repeat (first | with_reducible exact Grew.refl _ | apply Grew.more | apply Grew.alloc | apply Grew.drew | apply Grew.drewN))) HS.out HT.out).mono ?_; rintro e w1 ⟨rfl, R2, n2, rfl⟩))
  go_ret
  refine ⟨rfl, ?_⟩
  repeat (first | with_reducible exact Grew.refl _ | apply Grew.more | apply Grew.alloc | apply Grew.drew | apply Grew.drewN)
end Go.Proofs.YtmdmbimfdpngaaaGreat

/-! octet.Writer.Num where a number does not fit: nothing is written. -/
namespace Go.Proofs.YtmdmbimfdpngaaaGreat
set_option linter.unusedSimpArgs false
set_option linter.unusedVariables false
open Go.RowKit Ga
set_option maxRecDepth 100000

set_option maxHeartbeats 4000000 in
theorem writerNum_bad (base : Nat) (W : World) (B : Nat) (vb : Value) (bs : List UInt8) (v : Value) (l : List Int) (_hw : WriterAt base B W vb bs) (hv : RowsAt 1 encN W v l) (hok : l.all Oc.fitsN = false) :
    Calls Tryz.prog 146 #[.pointer (some ⟨B, 0, none⟩), v] W fun e W' => e = .returned (.int .i64 2) ∧ W' = W := by
  obtain ⟨a, cap, rfl, hm, hl⟩ := hv.open1
  have HL := Lib.hid hl
  have HOK := Lib.hid hok
  clear hv hok hl _hw
  go_enter Tryz.func146, Tryz.ntmps146
  go_wp2
  go_loopg [14] l.length (fun gg i wr => ∃ (k : Nat), k ≤ l.length ∧ l.length - k ≤ gg ∧ i = .int .i64 k ∧ wr = W ∧ Hid (∀ x ∈ l.take k, Oc.fitsN x = true))
  case atStart => exact ⟨0, Nat.zero_le _, by omega, rfl, rfl, Lib.hid fun x hx => by simp at hx⟩
  case round =>
    obtain ⟨k, hk, hgg, rfl, rfl, HNO⟩ := hrel
    by_cases hlt : k < l.length
    · obtain ⟨b, off, rfl, hb, hx⟩ := HL.out k hlt
      have HTK := Lib.hid (List.take_succ_eq_append_getElem hlt)
      generalize l[k] = x at *
      cases hf : Oc.fitsN x
      · have HF := Lib.hid hf
        clear hf
        go_wp2_with (go_at_call 180; refine (octFits_any _ _).mono ?_; rintro e w1 ⟨rfl, rfl⟩; rw [HF.out])
        go_ret
        exact ⟨rfl, rfl⟩
      · have HF := Lib.hid hf
        clear hf
        go_wp2_with (go_at_call 180; refine (octFits_any _ _).mono ?_; rintro e w1 ⟨rfl, rfl⟩; rw [HF.out])
        go_roundg (l.length - (k + 1))
        case measure => omega
        case rel => exact ⟨k + 1, by omega, by omega, by go_num, rfl, Lib.hid fun y hy => by
          rw [HTK.out, List.mem_append, List.mem_singleton] at hy
          rcases hy with hy | rfl
          · exact HNO.out y hy
          · exact HF.out⟩
    · obtain rfl : k = l.length := by omega
      have h1 := HNO.out
      rw [List.take_length] at h1
      have h2 := HOK.out
      rw [List.all_eq_true.2 h1] at h2
      cases h2
set_option maxHeartbeats 4000000 in
theorem codePut_bad (W : World) (B : Nat) (v : Value) (l : List Val) (hv : ValsAt W v l) (hf : Co.fitsI l = false) : Calls Tryz.prog 181 #[.pointer (some ⟨B, 0, none⟩), v] W (Gives (.int .i64 1) W) := by
  obtain ⟨a, cap, rfl, hm, -⟩ := hv.open2
  have HV := Lib.hid hv
  have HF := Lib.hid hf
  clear hv hf
  go_enter Tryz.func181, Tryz.ntmps181
  go_wp2_with (go_at_call 184; refine (codeFits_any _ l _ (HV.out.grew (by repeat (first | with_reducible exact Grew.refl _ | apply Grew.more | apply Grew.alloc | apply Grew.drew | apply Grew.drewN)))).mono ?_; rintro e w1 ⟨rfl, R3, n3, rfl⟩; rw [HF.out])
  go_ret
  refine ⟨rfl, ?_⟩
  repeat (first | with_reducible exact Grew.refl _ | apply Grew.more | apply Grew.alloc | apply Grew.drew | apply Grew.drewN)
/-- whatever the numbers: some bytes, or none -/
def PutSome (w0 W : World) (B : Nat) (bs : List UInt8) (n : Nat) (e : Ending) (W' : World) : Prop := ∃ x, e = .returned (.int .i64 x) ∧ Grew w0 W' ∧ KeptW w0.heap.size B W W' ∧ ∃ vb' zs, zs.length ≤ n ∧ WriterAt w0.heap.size B W' vb' (bs ++ zs)
theorem writerNum_some (w0 W : World) (B : Nat) (vb : Value) (bs : List UInt8) (v : Value) (l : List Int) (hw : WriterAt w0.heap.size B W vb bs) (hg : Grew w0 W) (hv : RowsAt 1 encN W v l)
    (hs : ∀ b off, (∃ n c, v = .slice (some ⟨b, off, none⟩) n c) → Safe w0.heap.size b W ∧ b ≠ B) (hlen : bs.length + l.length * 4 ≤ 100000) :
    Calls Tryz.prog 146 #[.pointer (some ⟨B, 0, none⟩), v] W (PutSome w0 W B bs (l.length * 4)) := by
  cases hok : l.all Oc.fitsN
  · refine (writerNum_bad _ W B vb bs v l hw hv hok).mono ?_
    rintro e W' ⟨rfl, rfl⟩
    exact ⟨2, rfl, hg, KeptW.refl _ _ _, vb, [], Nat.zero_le _, by rw [List.append_nil]; exact hw⟩
  · refine (writerNum_keep w0 W B vb bs v l hw hg hv hs hok hlen).mono ?_
    rintro e W' ⟨rfl, h1, h2, vb', h3⟩
    exact ⟨0, rfl, h1, h2, vb', Oc.bes l, by rw [Oc.bes_len]; omega, h3⟩
theorem codePut_some (w0 W : World) (B : Nat) (vb : Value) (bs : List UInt8) (v : Value) (l : List Val) (hw : WriterAt w0.heap.size B W vb bs) (hg : Grew w0 W) (hv : ValsAt W v l) (hs : ∀ b off, (∃ n c, v = .slice (some ⟨b, off, none⟩) n c) → Safe w0.heap.size b W ∧ b ≠ B) (hlen : bs.length ≤ 10000) :
    Calls Tryz.prog 181 #[.pointer (some ⟨B, 0, none⟩), v] W (PutSome w0 W B bs 300) := by
  cases hf : Co.fitsI l
  · refine (codePut_bad W B v l hv hf).mono ?_
    rintro e W' ⟨rfl, g⟩
    exact ⟨1, rfl, hg.trans g, KeptW.ofGrew g, vb, [], Nat.zero_le _, by rw [List.append_nil]; exact hw.grew g⟩
  · refine (codePut_keep w0 W B vb bs v l hw hg hv hs hf hlen).mono ?_
    rintro e W' ⟨rfl, h1, h2, vb', h3⟩
    exact ⟨0, rfl, h1, h2, vb', putI l, by have := putI_len l hf; omega, h3⟩
end Go.Proofs.YtmdmbimfdpngaaaGreat

/-! pack.putNode, whatever the node. -/
namespace Go.Proofs.YtmdmbimfdpngaaaGreat
set_option linter.unusedSimpArgs false
set_option linter.unusedVariables false
open Go.RowKit Ga
set_option maxRecDepth 100000

def PutSomeN (w0 W : World) (B : Nat) (ys : List UInt8) (n : Nat) (e : Ending) (W' : World) : Prop := e = .returned (.tuple #[]) ∧ Grew w0 W' ∧ KeptW w0.heap.size B W W' ∧ ∃ vb' zs, zs.length ≤ n ∧ WriterAt w0.heap.size B W' vb' (ys ++ zs)
theorem writerNum_freshS (w0 W : World) (B : Nat) (vb : Value) (bs : List UInt8) (l : List Int) (c : List Value) (b n cap : Nat) (hw : WriterAt w0.heap.size B W vb bs) (hg : Grew w0 W) (hc : c = l.map (Value.int .i64)) (hb : b = W.heap.size) (hn : n = l.length) (hlen : bs.length + l.length * 4 ≤ 100000) :
    Calls Tryz.prog 146 #[.pointer (some ⟨B, 0, none⟩), .slice (some ⟨b, 0, none⟩) n cap] (W.alloc (.cells c.toArray 3)) (PutSome w0 W B bs (l.length * 4)) := by
  have hB := (Array.getElem?_eq_some_iff.1 hw.2.1).1
  refine (writerNum_some w0 _ B vb bs _ l (hw.grew ((Grew.refl W).alloc _)) (hg.alloc _) ?_ ?_ hlen).mono fun e W' ⟨x, h1, h2, h3, h4⟩ => ⟨x, h1, h2, (KeptW.ofGrew ((Grew.refl W).alloc _)).trans h3, h4⟩
  · refine RowsAt.fresh hn (by unfold maxLen; omega) encN_len hb ?_
    rw [hc]
    clear hc hlen hn
    induction l with
    | nil => rfl
    | cons x l ih => rw [List.map_cons, List.flatMap_cons, ih]; rfl
  · rintro b2 off ⟨n2, c2, e⟩
    cases e
    subst hb
    exact ⟨.inr ⟨_, _, _, heap_new_at W _ _ rfl, by decide⟩, by omega⟩
set_option maxHeartbeats 8000000 in
theorem putNode_some (w0 W : World) (B : Nat) (vb : Value) (ys : List UInt8) (c : NdC) (n : Gr.Nd) (hw : WriterAt w0.heap.size B W vb ys) (hg : Grew w0 W) (hn : NodeIs W c n) (hsf : Apart w0.heap.size B W c.vf) (hsp : Apart w0.heap.size B W c.vp) (hok : n.frm.length ≤ 100) (hlen : ys.length ≤ 8000) :
    Calls Tryz.prog 147 #[.pointer (some ⟨B, 0, none⟩), .agg #[.int .i64 c.id, .int .i64 c.kind, .slice c.af c.nf c.cf, .slice c.ap c.np c.cp, .int .i64 c.par, .int .i64 c.r0, .int .i64 c.r1, .int .i64 c.r2, .int .i64 c.r3, .int .i64 c.r4, .int .i64 c.r5, .int .i64 c.r6, .int .i64 c.r7]] W (PutSomeN w0 W B ys 1000) := by
  obtain ⟨id, kind, af, cf, ap, cp, par, r0, r1, r2, r3, r4, r5, r6, r7, rfl⟩ := hn.lit
  have hr8 := hn.route
  simp only at hr8
  have HW := Lib.hid hw
  have HG := Lib.hid hg
  have HN := Lib.hid hn
  have HSF := Lib.hid hsf
  have HSP := Lib.hid hsp
  have HOK := Lib.hid hok
  have HR8 := Lib.hid hr8
  have hBlt := (Array.getElem?_eq_some_iff.1 hw.2.1).1
  have hneB : W.heap.size ≠ B := by omega
  clear hw hg hn hsf hsp hok hr8
  have hbx0 : (W.alloc (.cells #[.int .i64 id, .int .i64 kind, .slice af n.frm.length cf, .slice ap n.prog.length cp, .int .i64 par, .int .i64 r0, .int .i64 r1, .int .i64 r2, .int .i64 r3, .int .i64 r4, .int .i64 r5, .int .i64 r6, .int .i64 r7] 42)).heap[W.heap.size]? = some (.cells #[.int .i64 id, .int .i64 kind, .slice af n.frm.length cf, .slice ap n.prog.length cp, .int .i64 par, .int .i64 r0, .int .i64 r1, .int .i64 r2, .int .i64 r3, .int .i64 r4, .int .i64 r5, .int .i64 r6, .int .i64 r7] 42) := heap_new_at W _ _ rfl
  have HBX0 := Lib.hid hbx0
  clear hbx0
  show Calls Tryz.prog 147 #[.pointer (some ⟨B, 0, none⟩), .agg #[.int .i64 id, .int .i64 kind, .slice af n.frm.length cf, .slice ap n.prog.length cp, .int .i64 par, .int .i64 r0, .int .i64 r1, .int .i64 r2, .int .i64 r3, .int .i64 r4, .int .i64 r5, .int .i64 r6, .int .i64 r7]] W _
  go_enter Tryz.func147, Tryz.ntmps147
  go_wp2_with fail
  refine (writerNum_freshS w0 (W.alloc (.cells #[.int .i64 id, .int .i64 kind, .slice af n.frm.length cf, .slice ap n.prog.length cp, .int .i64 par, .int .i64 r0, .int .i64 r1, .int .i64 r2, .int .i64 r3, .int .i64 r4, .int .i64 r5, .int .i64 r6, .int .i64 r7] 42)) B vb ys [id, kind, n.frm.length] [.int .i64 id, .int .i64 kind, .int .i64 n.frm.length] _ _ _ (HW.out.grew (by repeat (first | with_reducible exact Grew.refl _ | apply Grew.more | apply Grew.alloc | apply Grew.drew | apply Grew.drewN))) (HG.out.alloc _) rfl (by simp [go_sem]) rfl (by simp only [List.length_append, List.length_cons, List.length_nil] at *; omega)).mono ?_
  rintro e W1 ⟨xx1, rfl, hg1, hk1, vb1, zs1, hz1, hw1⟩
  have HW1 := Lib.hid hw1
  have HG1 := Lib.hid hg1
  have HK1 := Lib.hid ((KeptW.ofGrew ((Grew.refl W).alloc _)).trans hk1)
  have hbx1 := hk1.cells HBX0.out hneB (by decide)
  have HBX1 := Lib.hid hbx1
  clear hw1 hg1 hk1
  have x2 := cell_of (o := 2) HBX1.out
  simp at x2
  have px2 := Pre.mk (heap_lt HBX1.out)
  have hfl := HOK.out
  go_wp2_with fail
  refine (writerNum_some w0 W1 B vb1 _ _ n.frm HW1.out HG1.out (HSF.out.kept HK1.out HN.out.f (ints_lt HN.out.f)) (HSF.out.to HK1.out) (by simp only [List.length_append, List.length_cons, List.length_nil] at *; omega)).mono ?_
  rintro e W2 ⟨xx2, rfl, hg2, hk2, vb2, zs2, hz2, hw2⟩
  have HW2 := Lib.hid hw2
  have HG2 := Lib.hid hg2
  have HK2 := Lib.hid (HK1.out.trans hk2)
  have hbx2 := hk2.cells HBX1.out hneB (by decide)
  have HBX2 := Lib.hid hbx2
  clear hw2 hg2 hk2 hbx2 x2 px2
  have x3 := cell_of (o := 3) HBX2.out
  simp at x3
  have px3 := Pre.mk (heap_lt HBX2.out)
  go_wp2_with fail
  refine (codePut_some w0 W2 B vb2 _ _ n.prog HW2.out HG2.out (HSP.out.kept HK2.out HN.out.p (vals_lt HN.out.p)) (HSP.out.to HK2.out) (by simp only [List.length_append, List.length_cons, List.length_nil] at *; omega)).mono ?_
  rintro e W3 ⟨xx3, rfl, hg3, hk3, vb3, zs3, hz3, hw3⟩
  have HW3 := Lib.hid hw3
  have HG3 := Lib.hid hg3
  have HK3 := Lib.hid (HK2.out.trans hk3)
  have hbx3 := hk3.cells HBX2.out hneB (by decide)
  have HBX3 := Lib.hid hbx3
  clear hw3 hg3 hk3 hbx3 x3 px3
  have x4 := cell_of (o := 4) HBX3.out
  simp at x4
  have px4 := Pre.mk (heap_lt HBX3.out)
  go_wp2_with fail
  refine (writerNum_freshS w0 W3 B vb3 _ [par] [.int .i64 par] _ _ _ HW3.out HG3.out rfl (by simp [go_sem]) rfl (by simp only [List.length_append, List.length_cons, List.length_nil] at *; omega)).mono ?_
  rintro e W4 ⟨xx4, rfl, hg4, hk4, vb4, zs4, hz4, hw4⟩
  have HW4 := Lib.hid hw4
  have HG4 := Lib.hid hg4
  have HK4 := Lib.hid (HK3.out.trans hk4)
  have hbx4 := hk4.cells HBX3.out hneB (by decide)
  have HBX4 := Lib.hid hbx4
  clear hw4 hg4 hk4 hbx4 x4 px4
  have px5 := Pre.mk (heap_lt HBX4.out)
  go_wp2_with fail
  refine (writerNum_some w0 W4 B vb4 _ _ [r0, r1, r2, r3, r4, r5, r6, r7] HW4.out HG4.out (route_box HBX4.out) ?_ (by simp only [List.length_append, List.length_cons, List.length_nil] at *; omega)).mono ?_
  · rintro b off ⟨m, k, e⟩
    cases e
    exact ⟨.inr ⟨_, _, _, HBX4.out, by decide⟩, hneB⟩
  rintro e W5 ⟨xx5, rfl, hg5, hk5, vb5, zs5, hz5, hw5⟩
  have HW5 := Lib.hid hw5
  have HG5 := Lib.hid hg5
  have HK5 := Lib.hid (HK4.out.trans hk5)
  clear hw5 hg5 hk5
  go_wp2
  go_end0
  refine ⟨rfl, HG5.out, HK5.out, vb5, zs1 ++ (zs2 ++ (zs3 ++ (zs4 ++ zs5))), ?_, ?_⟩
  · simp only [List.length_append, List.length_cons, List.length_nil] at *
    omega
  · have := HW5.out
    simp only [List.append_assoc] at this
    exact this
end Go.Proofs.YtmdmbimfdpngaaaGreat
