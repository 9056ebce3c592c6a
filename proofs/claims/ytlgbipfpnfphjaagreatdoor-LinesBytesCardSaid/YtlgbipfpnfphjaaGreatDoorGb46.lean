import Derived.Test.YtlgbipfpnfphjaaGreatDoorGb42
/-! forebaylaw27.same. -/
namespace Go.Proofs.YtlgbipfpnfphjaaGreatDoor
set_option linter.unusedSimpArgs false
set_option linter.unusedVariables false
open Go.RowKit Ga
set_option maxRecDepth 100000

open Classical in
/-- are two events one? -/
noncomputable def sameE (u v : Li.Ev) : Bool := decide (u = v)
open Classical in
theorem sameE_true {u v : Li.Ev} (h : u = v) : sameE u v = true := by unfold sameE; exact decide_eq_true h
open Classical in
theorem sameE_false {u v : Li.Ev} (h : u ≠ v) : sameE u v = false := by unfold sameE; exact decide_eq_false h
theorem take_eq_suc5 {α : Type} {l m : List α} {k : Nat} (h1 : k < l.length) (h2 : k < m.length) (h : l.take k = m.take k) (e : l[k] = m[k]) : l.take (k + 1) = m.take (k + 1) := by
  rw [List.take_succ_eq_append_getElem h1, List.take_succ_eq_append_getElem h2, h, e]
set_option maxHeartbeats 64000000 in
theorem same27_any (u v : Li.Ev) (ru ku rv kv : Value) (w : World) (hE : EvIs w u ru ku) (hF : EvIs w v rv kv) : Calls Tryz.prog 9 #[evV u ru ku, evV v rv kv] w (Gives (.bool (sameE u v)) w) := by
  obtain ⟨r1, rc1, e1, m1, -⟩ := rq_open hE.r
  obtain ⟨r2, rc2, e2, m2, -⟩ := rq_open hF.r
  obtain ⟨k1, kc1, e3, m3, -⟩ := bools_open hE.k
  obtain ⟨k2, kc2, e4, m4, -⟩ := bools_open hF.k
  subst e1 e2 e3 e4
  have HE := Lib.hid hE
  have HF := Lib.hid hF
  clear hE hF
  have HT := Lib.hid (sameE_true (u := u) (v := v))
  have HN := Lib.hid (sameE_false (u := u) (v := v))
  generalize sameE u v = res at *
  obtain ⟨kind, a, b, recs, plan, keep, ct⟩ := u
  obtain ⟨kind', a', b', recs', plan', keep', ct'⟩ := v
  simp only [evV] at *
  have HM := Lib.hid (And.intro (And.intro m1 m2) (And.intro m3 m4))
  clear m1 m2 m3 m4
  by_cases h : kind = kind'
  case neg =>
    have hq := HN.out fun e => by injection e with e1 e2 e3 e4 e5 e6 e7; exact h e1
    have HQ := Lib.hid hq
    have hb : ¬ (kind = kind') := h
    clear h hq HT HN
    go_enter Tryz.func9, Tryz.ntmps9
    go_wp2
    go_ret
    exact ⟨by rw [HQ.out]; rfl, by repeat (first | with_reducible exact Grew.refl _ | apply Grew.more | apply Grew.alloc | apply Grew.drew | apply Grew.drewN)⟩
  subst h
  by_cases h : a = a'
  case neg =>
    have hq := HN.out fun e => by injection e with e1 e2 e3 e4 e5 e6 e7; exact h e2
    have HQ := Lib.hid hq
    have hb : ¬ (a = a') := h
    clear h hq HT HN
    go_enter Tryz.func9, Tryz.ntmps9
    go_wp2
    go_ret
    exact ⟨by rw [HQ.out]; rfl, by repeat (first | with_reducible exact Grew.refl _ | apply Grew.more | apply Grew.alloc | apply Grew.drew | apply Grew.drewN)⟩
  subst h
  by_cases h : b = b'
  case neg =>
    have hq := HN.out fun e => by injection e with e1 e2 e3 e4 e5 e6 e7; exact h e3
    have HQ := Lib.hid hq
    have hb : ¬ (b = b') := h
    clear h hq HT HN
    go_enter Tryz.func9, Tryz.ntmps9
    go_wp2
    go_ret
    exact ⟨by rw [HQ.out]; rfl, by repeat (first | with_reducible exact Grew.refl _ | apply Grew.more | apply Grew.alloc | apply Grew.drew | apply Grew.drewN)⟩
  subst h
  by_cases h : recs.length = recs'.length
  case neg =>
    have hq := HN.out fun e => by injection e with e1 e2 e3 e4 e5 e6 e7; exact h (by rw [e4])
    have HQ := Lib.hid hq
    have hb : ¬ (((recs.length : Int) = (recs'.length : Int))) := by omega
    clear h hq HT HN
    go_enter Tryz.func9, Tryz.ntmps9
    go_wp2
    go_ret
    exact ⟨by rw [HQ.out]; rfl, by repeat (first | with_reducible exact Grew.refl _ | apply Grew.more | apply Grew.alloc | apply Grew.drew | apply Grew.drewN)⟩
  have HL1 := Lib.hid h
  rw [← h]
  clear h
  by_cases h : plan = plan'
  case neg =>
    have hq := HN.out fun e => by injection e with e1 e2 e3 e4 e5 e6 e7; exact h e5
    have HQ := Lib.hid hq
    have hb : ¬ (plan = plan') := h
    clear h hq HT HN
    go_enter Tryz.func9, Tryz.ntmps9
    go_wp2
    go_ret
    exact ⟨by rw [HQ.out]; rfl, by repeat (first | with_reducible exact Grew.refl _ | apply Grew.more | apply Grew.alloc | apply Grew.drew | apply Grew.drewN)⟩
  subst h
  by_cases h : ct = ct'
  case neg =>
    have hq := HN.out fun e => by injection e with e1 e2 e3 e4 e5 e6 e7; exact h e7
    have HQ := Lib.hid hq
    have hb : ¬ (ct = ct') := h
    clear h hq HT HN
    go_enter Tryz.func9, Tryz.ntmps9
    go_wp2
    go_ret
    exact ⟨by rw [HQ.out]; rfl, by repeat (first | with_reducible exact Grew.refl _ | apply Grew.more | apply Grew.alloc | apply Grew.drew | apply Grew.drewN)⟩
  subst h
  by_cases h : keep.length = keep'.length
  case neg =>
    have hq := HN.out fun e => by injection e with e1 e2 e3 e4 e5 e6 e7; exact h (by rw [e6])
    have HQ := Lib.hid hq
    have hb : ¬ (((keep.length : Int) = (keep'.length : Int))) := by omega
    clear h hq HT HN
    go_enter Tryz.func9, Tryz.ntmps9
    go_wp2
    go_ret
    exact ⟨by rw [HQ.out]; rfl, by repeat (first | with_reducible exact Grew.refl _ | apply Grew.more | apply Grew.alloc | apply Grew.drew | apply Grew.drewN)⟩
  have HL2 := Lib.hid h
  rw [← h]
  clear h
  obtain ⟨⟨m1, -⟩, m3, -⟩ := HM.out
  go_enter Tryz.func9, Tryz.ntmps9
  go_wp2
  go_loopg [65] recs.length (fun gg s65 wr => ∃ k : Nat, k ≤ recs.length ∧ recs.length - k ≤ gg ∧ s65 = .int .i64 k ∧ Hid (Grew ((w.alloc (.cells #[.int .i64 kind, .int .i64 a, .int .i64 b, .slice r1 recs.length rc1, .string ⟨plan.toArray⟩, .slice k1 keep.length kc1, .int .i64 ct] 27)).alloc (.cells #[.int .i64 kind, .int .i64 a, .int .i64 b, .slice r2 recs.length rc2, .string ⟨plan.toArray⟩, .slice k2 keep.length kc2, .int .i64 ct] 27)) wr) ∧ Hid (recs.take k = recs'.take k))
  case atStart => exact ⟨0, by omega, by omega, rfl, Lib.hid (Grew.refl _), Lib.hid rfl⟩
  case round =>
    obtain ⟨k, hk, hgg, rfl, HG, HS⟩ := hrel
    obtain ⟨R8, N8, rfl⟩ := HG.out
    by_cases hlt : k < recs.length
    · have hlt' : k < recs'.length := by rw [← HL1.out]; exact hlt
      obtain ⟨a1, c1, e1, -, hx⟩ := rq_open (RowsAt.grew HE.out.r (show Grew w _ from by repeat (first | with_reducible exact Grew.refl _ | apply Grew.more | apply Grew.alloc | apply Grew.drew | apply Grew.drewN)))
      cases e1
      obtain ⟨b1, o1, rfl, p1, g0, g1, g2⟩ := hx k hlt
      obtain ⟨a2, c2, e2, -, hy⟩ := rq_open (RowsAt.grew HF.out.r (show Grew w _ from by repeat (first | with_reducible exact Grew.refl _ | apply Grew.more | apply Grew.alloc | apply Grew.drew | apply Grew.drewN)))
      simp only [Value.slice.injEq] at e2
      obtain ⟨ea, el, ec⟩ := e2
      subst ea ec
      obtain ⟨b2, o2, rfl, p2, d0, d1, d2⟩ := hy k hlt'
      have HSS := Lib.hid (take_eq_suc5 hlt hlt' HS.out)
      have HNE : Hid (recs[k] ≠ recs'[k] → res = false) := Lib.hid fun h => HN.out fun e => by injection e with e1 e2 e3 e4 e5 e6 e7; subst e4; exact h rfl
      clear hx hy el
      generalize recs[k] = x at *
      generalize recs'[k] = y at *
      obtain ⟨x0, x1, x2⟩ := x
      obtain ⟨y0, y1, y2⟩ := y
      simp only at g0 g1 g2 d0 d1 d2
      clear hlt' HT HN
      by_cases h : x0 = y0
      case neg =>
        have hq := HNE.out fun e => h (Prod.mk.inj e).1
        have HQ := Lib.hid hq
        have hb : (x0 == y0) = false := beq_eq_false_iff_ne.2 h
        clear h hq HSS HNE
        go_upto_region 6 with fail
        go_quiet (fail)
        go_wp2
        go_ret
        exact ⟨by rw [HQ.out]; rfl, by repeat (first | with_reducible exact Grew.refl _ | apply Grew.more | apply Grew.alloc | apply Grew.drew | apply Grew.drewN)⟩
      subst h
      by_cases h : x1 = y1
      case neg =>
        have hq := HNE.out fun e => h (Prod.mk.inj (Prod.mk.inj e).2).1
        have HQ := Lib.hid hq
        have hb : (x1 == y1) = false := beq_eq_false_iff_ne.2 h
        clear h hq HSS HNE
        go_upto_region 6 with fail
        go_quiet (fail)
        go_wp2
        go_ret
        exact ⟨by rw [HQ.out]; rfl, by repeat (first | with_reducible exact Grew.refl _ | apply Grew.more | apply Grew.alloc | apply Grew.drew | apply Grew.drewN)⟩
      subst h
      by_cases h : x2 = y2
      case neg =>
        have hq := HNE.out fun e => h (Prod.mk.inj (Prod.mk.inj e).2).2
        have HQ := Lib.hid hq
        have hb : (x2 == y2) = false := beq_eq_false_iff_ne.2 h
        clear h hq HSS HNE
        go_upto_region 6 with fail
        go_quiet (fail)
        go_wp2
        go_ret
        exact ⟨by rw [HQ.out]; rfl, by repeat (first | with_reducible exact Grew.refl _ | apply Grew.more | apply Grew.alloc | apply Grew.drew | apply Grew.drewN)⟩
      subst h
      clear HNE
      go_upto_region 6 with fail
      go_quiet (fail)
      go_wp2
      go_roundg (recs.length - (k + 1))
      case measure => omega
      case rel => exact ⟨k + 1, by omega, by omega, by go_num, Lib.hid (by repeat (first | with_reducible exact Grew.refl _ | apply Grew.more | apply Grew.alloc | apply Grew.drew | apply Grew.drewN)), Lib.hid (HSS.out (by trivial))⟩
    obtain rfl : k = recs.length := by omega
    have HRE : Hid (recs = recs') := Lib.hid (by have h := HS.out; rw [List.take_length, HL1.out, List.take_length] at h; exact h)
    clear HS hlt hk hgg
    go_wp2
    go_loopg [84] keep.length (fun gg s84 wr => ∃ k : Nat, k ≤ keep.length ∧ keep.length - k ≤ gg ∧ s84 = .int .i64 k ∧ Hid (Grew (((w.alloc (.cells #[.int .i64 kind, .int .i64 a, .int .i64 b, .slice r1 recs.length rc1, .string ⟨plan.toArray⟩, .slice k1 keep.length kc1, .int .i64 ct] 27)).alloc (.cells #[.int .i64 kind, .int .i64 a, .int .i64 b, .slice r2 recs.length rc2, .string ⟨plan.toArray⟩, .slice k2 keep.length kc2, .int .i64 ct] 27)).more R8 N8) wr) ∧ Hid (keep.take k = keep'.take k))
    case atStart => exact ⟨0, by omega, by omega, rfl, Lib.hid (Grew.refl _), Lib.hid rfl⟩
    case round =>
      obtain ⟨k, hk, hgg, rfl, HG2, HS⟩ := hrel
      obtain ⟨R9, N9, rfl⟩ := HG2.out
      by_cases hlt : k < keep.length
      · have hlt' : k < keep'.length := by rw [← HL2.out]; exact hlt
        obtain ⟨a1, c1, e1, -, hx⟩ := bools_open (RowsAt.grew HE.out.k (show Grew w _ from by repeat (first | with_reducible exact Grew.refl _ | apply Grew.more | apply Grew.alloc | apply Grew.drew | apply Grew.drewN)))
        cases e1
        obtain ⟨b1, o1, rfl, p1, g0⟩ := hx k hlt
        obtain ⟨a2, c2, e2, -, hy⟩ := bools_open (RowsAt.grew HF.out.k (show Grew w _ from by repeat (first | with_reducible exact Grew.refl _ | apply Grew.more | apply Grew.alloc | apply Grew.drew | apply Grew.drewN)))
        simp only [Value.slice.injEq] at e2
        obtain ⟨ea, el, ec⟩ := e2
        subst ea ec
        obtain ⟨b2, o2, rfl, p2, d0⟩ := hy k hlt'
        have HSS := Lib.hid (take_eq_suc5 hlt hlt' HS.out)
        have HNE : Hid (keep[k] ≠ keep'[k] → res = false) := Lib.hid fun h => HN.out fun e => by injection e with e1 e2 e3 e4 e5 e6 e7; subst e6; exact h rfl
        clear hx hy el
        generalize keep[k] = x at *
        generalize keep'[k] = y at *
        clear hlt' HT HN
        cases x <;> cases y
        · go_upto_region 12 with fail
          go_quiet (fail)
          go_wp2
          go_roundg (keep.length - (k + 1))
          case measure => omega
          case rel => exact ⟨k + 1, by omega, by omega, by go_num, Lib.hid (by repeat (first | with_reducible exact Grew.refl _ | apply Grew.more | apply Grew.alloc | apply Grew.drew | apply Grew.drewN)), Lib.hid (HSS.out (by trivial))⟩
        · have HQ := Lib.hid (HNE.out (by decide))
          go_upto_region 12 with fail
          go_quiet (fail)
          go_wp2
          go_ret
          exact ⟨by rw [HQ.out]; rfl, by repeat (first | with_reducible exact Grew.refl _ | apply Grew.more | apply Grew.alloc | apply Grew.drew | apply Grew.drewN)⟩
        · have HQ := Lib.hid (HNE.out (by decide))
          go_upto_region 12 with fail
          go_quiet (fail)
          go_wp2
          go_ret
          exact ⟨by rw [HQ.out]; rfl, by repeat (first | with_reducible exact Grew.refl _ | apply Grew.more | apply Grew.alloc | apply Grew.drew | apply Grew.drewN)⟩
        · go_upto_region 12 with fail
          go_quiet (fail)
          go_wp2
          go_roundg (keep.length - (k + 1))
          case measure => omega
          case rel => exact ⟨k + 1, by omega, by omega, by go_num, Lib.hid (by repeat (first | with_reducible exact Grew.refl _ | apply Grew.more | apply Grew.alloc | apply Grew.drew | apply Grew.drewN)), Lib.hid (HSS.out (by trivial))⟩
      obtain rfl : k = keep.length := by omega
      have hke : keep = keep' := by have h := HS.out; rw [List.take_length, HL2.out, List.take_length] at h; exact h
      have HQ := Lib.hid (HT.out (by rw [HRE.out, hke]))
      clear HS hlt hk hgg hke
      go_wp2
      go_ret
      exact ⟨by rw [HQ.out]; rfl, by repeat (first | with_reducible exact Grew.refl _ | apply Grew.more | apply Grew.alloc | apply Grew.drew | apply Grew.drewN)⟩
end Go.Proofs.YtlgbipfpnfphjaaGreatDoor
