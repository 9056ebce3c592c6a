import Derived.Test.YtmnllmbchpebbaaGreatDoorGe20
import Derived.Test.YtmnllmbchpebbaaGreatDoorGe11
import Derived.Test.YtmnllmbchpebbaaGreatDoorGe8
import Derived.Test.YtmnllmbchpebbaaGreatDoorGe30
import Derived.Deep.QuietTactic
import Derived.BigQuiet
/-! forebayref27: Records, Bits; forebaylaw27: line's closure, same. -/
namespace Go.Proofs.YtmnllmbchpebbaaGreatDoor
set_option linter.unusedSimpArgs false
set_option linter.unusedVariables false
open Go.RowKit Ga
set_option maxRecDepth 100000

theorem line1_any (x : Int) (w : World) : Calls Tryz.prog 15 #[.int .i64 x] w (Gives (.bool (Li.num x)) w) := by
  by_cases h1 : -1000000 ≤ x
  · by_cases h2 : x ≤ 1000000
    · have e : Li.num x = true := by unfold Li.num; simp; omega
      rw [e]
      go_enter Tryz.func15, Tryz.ntmps15
      go_wp2
      go_ret
      refine ⟨rfl, ?_⟩
      repeat (first | with_reducible exact Grew.refl _ | apply Grew.more | apply Grew.alloc | apply Grew.drew | apply Grew.drewN)
    · have e : Li.num x = false := by unfold Li.num; simp; omega
      rw [e]
      go_enter Tryz.func15, Tryz.ntmps15
      go_wp2
      go_ret
      refine ⟨rfl, ?_⟩
      repeat (first | with_reducible exact Grew.refl _ | apply Grew.more | apply Grew.alloc | apply Grew.drew | apply Grew.drewN)
  · have e : Li.num x = false := by unfold Li.num; simp; omega
    rw [e]
    go_enter Tryz.func15, Tryz.ntmps15
    go_wp2
    go_ret
    refine ⟨rfl, ?_⟩
    repeat (first | with_reducible exact Grew.refl _ | apply Grew.more | apply Grew.alloc | apply Grew.drew | apply Grew.drewN)
set_option maxHeartbeats 8000000 in
theorem bits27_any (v : Value) (l : List Bool) (w : World) (hv : BoolsAt w v l) (hl : l.length ≤ 1000) : Calls Tryz.prog 20 #[v] w (Gives (str (Li.bitsT l)) w) := by
  by_cases hn : l = []
  · subst hn
    obtain ⟨a, cap, rfl, -, -⟩ := bools_open hv
    clear hv hl
    show Calls Tryz.prog _ #[.slice a 0 cap] w _
    go_enter Tryz.func20, Tryz.ntmps20
    go_wp2
    go_ret
    exact ⟨rfl, by repeat (first | with_reducible exact Grew.refl _ | apply Grew.more | apply Grew.alloc | apply Grew.drew | apply Grew.drewN)⟩
  have hT : Li.bitsT l = l.map Li.bitB := by unfold Li.bitsT; exact if_neg hn
  rw [hT]
  have HV := Lib.hid hv
  have hpos : 0 < l.length := List.length_pos_iff.2 hn
  have hzb : ((l.length : Int) == 0) = false := by rw [beq_eq_false_iff_ne]; omega
  obtain ⟨a, cap, rfl, -, -⟩ := bools_open hv
  have HL := Lib.hid hl
  clear hv hT hn
  go_enter Tryz.func20, Tryz.ntmps20
  go_wp2
  go_loopg [3, 4] l.length (fun gg s3 s4 wr => ∃ k : Nat, k ≤ l.length ∧ l.length - k ≤ gg ∧ s4 = .int .i64 k ∧ s3 = str ((l.take k).map Li.bitB) ∧ Hid (Grew w wr))
  case atStart => exact ⟨0, by omega, by omega, rfl, rfl, Lib.hid (Grew.refl _)⟩
  case round =>
    obtain ⟨k, hk, hgg, rfl, rfl, HG⟩ := hrel
    rename World => wa
    by_cases hlt : k < l.length
    · obtain ⟨a', cap', e, -, hx⟩ := bools_open (HV.out.grew HG.out)
      cases e
      obtain ⟨b, off, rfl, p0, c0⟩ := hx k hlt
      have HT := Lib.hid (map_take_snoc Li.bitB l k hlt)
      have hln : ((l.take k).map Li.bitB).length ≤ 1000 := by have := HL.out; rw [List.length_map, List.length_take]; omega
      clear hx
      generalize l[k] = x at *
      generalize (l.take k).map Li.bitB = xs at *
      cases x
      all_goals
        go_wp2
        go_roundg (l.length - (k + 1))
        case measure => omega
        case rel => exact ⟨k + 1, by omega, by omega, by go_num, by rw [HT.out]; exact congrArg Value.string (by simp [str_cat, Li.bitB]), Lib.hid (HG.out.trans (by repeat (first | with_reducible exact Grew.refl _ | apply Grew.more | apply Grew.alloc | apply Grew.drew | apply Grew.drewN)))⟩
    · obtain rfl : k = l.length := by omega
      rw [List.take_length]
      generalize l.map Li.bitB = bs at *
      go_wp2
      go_ret
      exact ⟨rfl, HG.out.trans (by repeat (first | with_reducible exact Grew.refl _ | apply Grew.more | apply Grew.alloc | apply Grew.drew | apply Grew.drewN))⟩
/-- records' words, with a blank ahead of each -/
def recsS (l : List Rq) : List UInt8 := (l.map fun r => 32 :: Li.recW r).flatten
theorem recsS_succ (l : List Rq) (k : Nat) (h : k < l.length) : recsS (l.take (k + 1)) = recsS (l.take k) ++ (32 :: Li.recW l[k]) := by
  unfold recsS
  rw [List.take_succ_eq_append_getElem h, List.map_append, List.flatten_append]
  simp
theorem recsS_len {l : List Rq} (h : ∀ r ∈ l, Li.okRec r) : (recsS l).length ≤ 101 * l.length := by
  induction l with
  | nil => simp [recsS]
  | cons r l ih =>
    have h1 := recW_len (h r (by simp))
    have h2 := ih fun x hx => h x (List.mem_cons_of_mem _ hx)
    unfold recsS at h2 ⊢
    rw [List.map_cons, List.flatten_cons, List.length_append, List.length_cons, List.length_cons]
    omega
theorem recsS_cons (r : Rq) (l : List Rq) : recsS (r :: l) = 32 :: Li.recsT (r :: l) := by
  unfold recsS Li.recsT
  rw [List.map_cons, List.map_cons, Lib.join_cons, List.flatten_cons]
  unfold Lib.joinTail
  rw [List.map_map]
  rfl
theorem recB_ok (r : Rq) : recB r.1 (r.2.1, r.2.2) = okRq r := by
  unfold recB okRq thereB
  simp
theorem okRec_val {r : Rq} (h : Li.okRec r) : okVal (r.2.1, r.2.2) := by
  obtain ⟨-, h2, h3⟩ := h
  exact ⟨⟨by simp only; omega, by simp only; omega⟩, ⟨by simp only; omega, by simp only; omega⟩⟩
set_option maxHeartbeats 16000000 in
theorem records27_any (v : Value) (l : List Rq) (w : World) (hv : RqAt w v l) (h100 : l.length ≤ 1000) : Calls Tryz.prog 16 #[v] w (Gives (.tuple #[str (if l.all okRq = true then recsS l else []), .bool (l.all okRq && decide (l.length ≤ 60))]) w) := by
  have HV := Lib.hid hv
  have HL := Lib.hid h100
  obtain ⟨a, cap, rfl, -, -⟩ := rq_open hv
  clear hv
  obtain ⟨res, hres⟩ : ∃ t, (if l.all okRq = true then recsS l else []) = t := ⟨_, rfl⟩
  obtain ⟨rb, hrb0⟩ : ∃ b, (l.all okRq && decide (l.length ≤ 60)) = b := ⟨_, rfl⟩
  rw [hres, hrb0]
  have HRES := Lib.hid hres
  have HRB := Lib.hid hrb0
  clear hres hrb0
  go_enter Tryz.func16, Tryz.ntmps16
  go_wp2
  go_loopg [4, 5] l.length (fun gg s4 s5 wr => ∃ k : Nat, k ≤ l.length ∧ l.length - k ≤ gg ∧ s5 = .int .i64 k ∧ s4 = str (recsS (l.take k)) ∧ Hid (Grew w wr) ∧ Hid ((l.take k).all okRq = true))
  case atStart => exact ⟨0, by omega, by omega, rfl, rfl, Lib.hid (Grew.refl _), Lib.hid rfl⟩
  case round =>
    obtain ⟨k, hk, hgg, rfl, rfl, HG, HA⟩ := hrel
    rename World => wa
    by_cases hlt : k < l.length
    · obtain ⟨a', cap', e, -, hx⟩ := rq_open (HV.out.grew HG.out)
      cases e
      obtain ⟨b, off, rfl, p0, g0, g1, g2⟩ := hx k hlt
      have HS := Lib.hid (take_all_succ (p := okRq) hlt HA.out)
      have HF := Lib.hid (all_false_at (p := okRq) hlt)
      have HT := Lib.hid (recsS_succ l k hlt)
      have hTl := recsS_len (l := l.take k) ((allRq_iff _).1 HA.out)
      have hTl2 : (recsS (l.take k)).length ≤ 101000 := by have := HL.out; rw [List.length_take] at hTl; omega
      have HOK := Lib.hid (okRq_iff l[k])
      have hrb := recB_ok l[k]
      clear hx hTl
      generalize l[k] = r at *
      generalize recsS (l.take k) = T at *
      obtain ⟨ky, x, y⟩ := r
      simp only at g0 g1 g2 hrb
      have HR0 := fun W => refRec07_any ky x y W
      rw [hrb] at HR0
      clear hrb
      cases hr : okRq (ky, x, y)
      case false =>
        have hz := HF.out hr
        have E1 : Hid (res = []) := Lib.hid (by rw [← HRES.out, hz]; rfl)
        have E2 : Hid (rb = false) := Lib.hid (by rw [← HRB.out, hz]; rfl)
        clear hz
        rw [hr] at HR0
        have HR := Lib.hid HR0
        clear HR0 hr
        go_wp2_with (go_at_call 39; refine (HR.out _).mono ?_; rintro e w1 ⟨rfl, R1, n1, rfl⟩)
        go_ret2
        exact ⟨by rw [E1.out, E2.out]; rfl, HG.out.trans (by repeat (first | with_reducible exact Grew.refl _ | apply Grew.more | apply Grew.alloc | apply Grew.drew | apply Grew.drewN))⟩
      have hok := HOK.out.1 hr
      have HSS := Lib.hid (HS.out hr)
      rw [hr] at HR0
      have HR := Lib.hid HR0
      have HI := Lib.hid fun W => digitsG_any ky (by have := hok.1; simp only at this; omega) W
      have HX := Lib.hid fun W => refText_any x y (okRec_val hok) W
      have l1 := Li.itoa_len8 (Li.num_iff.2 (show -1000000 ≤ ky ∧ ky ≤ 1000000 by have := hok.1; simp only at this; omega))
      have l2 := textL_len100 (show -524288 ≤ x ∧ x < 524288 from hok.2.1) (show -524288 ≤ y ∧ y < 524288 from hok.2.2)
      have HW : Hid (Li.recW (ky, x, y) = Lib.itoa ky ++ 58 :: Tx.textL x y) := Lib.hid rfl
      clear HR0 hr hok HF HS HOK
      generalize Li.recW (ky, x, y) = rw9 at *
      generalize Lib.itoa ky = it at *
      generalize Tx.textL x y = tx at *
      go_wp2_with (first | (go_at_call 39; refine (HR.out _).mono ?_; rintro e w1 ⟨rfl, R1, n1, rfl⟩) | fail)
      refine wp_region_seq 17 Tryz.mixed (by kernel_rfl) (by kernel_rfl) ?_
      iterate 7
        apply Seq.val
        focus
          rintro w1 u ⟨R1, n1, rfl⟩ hF
          simp [moreFacts, Fact.more, Oper.deps, Region.binds, List.filter_cons, World.more_drew] at hF
          simp [putFacts, Oper.deps, Region.binds, List.filter_cons, Region.dstOf, Fact.at, Act.put, World.more_drew]
          go_wp2
          exact ⟨by repeat (first | with_reducible exact Grew.refl _ | apply Grew.more | apply Grew.alloc | apply Grew.drew | apply Grew.drewN), rfl, _, _, rfl, rfl, rfl⟩
      apply Seq.val
      focus
        rintro w1 u ⟨R1, n1, rfl⟩ hF
        simp [moreFacts, Fact.more, Oper.deps, Region.binds, List.filter_cons, World.more_drew] at hF
        simp [putFacts, Oper.deps, Region.binds, List.filter_cons, Region.dstOf, Fact.at, Act.put, World.more_drew]
        go_wp2_with (first
          | (go_at_call 19; refine (HI.out _).mono ?_; rintro e w1 ⟨rfl, R3, n3, rfl⟩)
          )
        exact ⟨by repeat (first | with_reducible exact Grew.refl _ | apply Grew.more | apply Grew.alloc | apply Grew.drew | apply Grew.drewN), rfl, _, _, rfl, rfl, rfl⟩
      iterate 7
        apply Seq.val
        focus
          rintro w1 u ⟨R1, n1, rfl⟩ hF
          simp [moreFacts, Fact.more, Oper.deps, Region.binds, List.filter_cons, World.more_drew] at hF
          simp [putFacts, Oper.deps, Region.binds, List.filter_cons, Region.dstOf, Fact.at, Act.put, World.more_drew]
          go_wp2
          exact ⟨by repeat (first | with_reducible exact Grew.refl _ | apply Grew.more | apply Grew.alloc | apply Grew.drew | apply Grew.drewN), rfl, _, _, rfl, rfl, rfl⟩
      apply Seq.val
      focus
        rintro w1 u ⟨R1, n1, rfl⟩ hF
        simp [moreFacts, Fact.more, Oper.deps, Region.binds, List.filter_cons, World.more_drew] at hF
        simp [putFacts, Oper.deps, Region.binds, List.filter_cons, Region.dstOf, Fact.at, Act.put, World.more_drew]
        go_wp2_with (first
          | (go_at_call 40; refine (HX.out _).mono ?_; rintro e w1 ⟨rfl, R4, n4, rfl⟩)
          )
        exact ⟨by repeat (first | with_reducible exact Grew.refl _ | apply Grew.more | apply Grew.alloc | apply Grew.drew | apply Grew.drewN), rfl, _, _, rfl, rfl, rfl⟩
      iterate 1
        apply Seq.val
        focus
          rintro w1 u ⟨R1, n1, rfl⟩ hF
          simp [moreFacts, Fact.more, Oper.deps, Region.binds, List.filter_cons, World.more_drew] at hF
          simp [putFacts, Oper.deps, Region.binds, List.filter_cons, Region.dstOf, Fact.at, Act.put, World.more_drew]
          go_wp2
          exact ⟨by repeat (first | with_reducible exact Grew.refl _ | apply Grew.more | apply Grew.alloc | apply Grew.drew | apply Grew.drewN), rfl, _, _, rfl, rfl, rfl⟩
      rintro u w1 ⟨R1, n1, rfl⟩ hF
      clear hF
      simp [putFacts, Region.dstOf, Fact.at, Act.put, List.range_succ, World.more_drew]
      go_wp2
      go_roundg (l.length - (k + 1))
      case measure => omega
      case rel => exact ⟨k + 1, by omega, by omega, by go_num, by rw [HT.out, HW.out]; exact congrArg Value.string (by simp [str_cat]), Lib.hid (HG.out.trans (by repeat (first | with_reducible exact Grew.refl _ | apply Grew.more | apply Grew.alloc | apply Grew.drew | apply Grew.drewN))), Lib.hid HSS.out⟩
    · obtain rfl : k = l.length := by omega
      have ha := HA.out
      rw [List.take_length] at ha
      have HA2 := Lib.hid ha
      have E1 : Hid (res = recsS l) := Lib.hid (by rw [← HRES.out, ha]; rfl)
      have E2 : Hid (rb = decide (l.length ≤ 60)) := Lib.hid (by rw [← HRB.out, ha]; rfl)
      rw [List.take_length]
      have hd : decide ((l.length : Int) ≤ 60) = decide (l.length ≤ 60) := by
        by_cases h : l.length ≤ 60
        · rw [decide_eq_true h, decide_eq_true (by omega)]
        · rw [decide_eq_false h, decide_eq_false (by omega)]
      clear HRES HRB
      generalize decide (l.length ≤ 60) = q60 at *
      clear ha HA
      generalize recsS l = T at *
      go_wp2
      go_ret2
      exact ⟨by rw [E1.out, E2.out]; rfl, HG.out.trans (by repeat (first | with_reducible exact Grew.refl _ | apply Grew.more | apply Grew.alloc | apply Grew.drew | apply Grew.drewN))⟩
end Go.Proofs.YtmnllmbchpebbaaGreatDoor

/-! forebaylaw27.same. -/
namespace Go.Proofs.YtmnllmbchpebbaaGreatDoor
set_option linter.unusedSimpArgs false
set_option linter.unusedVariables false
open Go.RowKit Ga
set_option maxRecDepth 100000

open Classical in
/-- are two events one? -/
noncomputable def sameE (u v : Li.Ev) : Bool := decide (u = v)
open Classical in
theorem sameE_true {u v : Li.Ev} (h : u = v) : sameE u v = true := by unfold sameE; exact decide_eq_true h
open Classical in
theorem sameE_false {u v : Li.Ev} (h : u ≠ v) : sameE u v = false := by unfold sameE; exact decide_eq_false h
theorem take_eq_suc5 {α : Type} {l m : List α} {k : Nat} (h1 : k < l.length) (h2 : k < m.length) (h : l.take k = m.take k) (e : l[k] = m[k]) : l.take (k + 1) = m.take (k + 1) := by
  rw [List.take_succ_eq_append_getElem h1, List.take_succ_eq_append_getElem h2, h, e]
set_option maxHeartbeats 64000000 in
theorem same27_any (u v : Li.Ev) (ru ku rv kv : Value) (w : World) (hE : EvIs w u ru ku) (hF : EvIs w v rv kv) : Calls Tryz.prog 8 #[evV u ru ku, evV v rv kv] w (Gives (.bool (sameE u v)) w) := by
  obtain ⟨r1, rc1, e1, m1, -⟩ := rq_open hE.r
  obtain ⟨r2, rc2, e2, m2, -⟩ := rq_open hF.r
  obtain ⟨k1, kc1, e3, m3, -⟩ := bools_open hE.k
  obtain ⟨k2, kc2, e4, m4, -⟩ := bools_open hF.k
  subst e1 e2 e3 e4
  have HE := Lib.hid hE
  have HF := Lib.hid hF
  clear hE hF
  have HT := Lib.hid (sameE_true (u := u) (v := v))
  have HN := Lib.hid (sameE_false (u := u) (v := v))
  generalize sameE u v = res at *
  obtain ⟨kind, a, b, recs, plan, keep, ct⟩ := u
  obtain ⟨kind', a', b', recs', plan', keep', ct'⟩ := v
  simp only [evV] at *
  have HM := Lib.hid (And.intro (And.intro m1 m2) (And.intro m3 m4))
  clear m1 m2 m3 m4
  by_cases h : kind = kind'
  case neg =>
    have hq := HN.out fun e => by injection e with e1 e2 e3 e4 e5 e6 e7; exact h e1
    have HQ := Lib.hid hq
    have hb : ¬ (kind = kind') := h
    clear h hq HT HN
    go_enter Tryz.func8, Tryz.ntmps8
    go_wp2
    go_ret
    exact ⟨by rw [HQ.out]; rfl, by repeat (first | with_reducible exact Grew.refl _ | apply Grew.more | apply Grew.alloc | apply Grew.drew | apply Grew.drewN)⟩
  subst h
  by_cases h : a = a'
  case neg =>
    have hq := HN.out fun e => by injection e with e1 e2 e3 e4 e5 e6 e7; exact h e2
    have HQ := Lib.hid hq
    have hb : ¬ (a = a') := h
    clear h hq HT HN
    go_enter Tryz.func8, Tryz.ntmps8
    go_wp2
    go_ret
    exact ⟨by rw [HQ.out]; rfl, by repeat (first | with_reducible exact Grew.refl _ | apply Grew.more | apply Grew.alloc | apply Grew.drew | apply Grew.drewN)⟩
  subst h
  by_cases h : b = b'
  case neg =>
    have hq := HN.out fun e => by injection e with e1 e2 e3 e4 e5 e6 e7; exact h e3
    have HQ := Lib.hid hq
    have hb : ¬ (b = b') := h
    clear h hq HT HN
    go_enter Tryz.func8, Tryz.ntmps8
    go_wp2
    go_ret
    exact ⟨by rw [HQ.out]; rfl, by repeat (first | with_reducible exact Grew.refl _ | apply Grew.more | apply Grew.alloc | apply Grew.drew | apply Grew.drewN)⟩
  subst h
  by_cases h : recs.length = recs'.length
  case neg =>
    have hq := HN.out fun e => by injection e with e1 e2 e3 e4 e5 e6 e7; exact h (by rw [e4])
    have HQ := Lib.hid hq
    have hb : ¬ (((recs.length : Int) = (recs'.length : Int))) := by omega
    clear h hq HT HN
    go_enter Tryz.func8, Tryz.ntmps8
    go_wp2
    go_ret
    exact ⟨by rw [HQ.out]; rfl, by repeat (first | with_reducible exact Grew.refl _ | apply Grew.more | apply Grew.alloc | apply Grew.drew | apply Grew.drewN)⟩
  have HL1 := Lib.hid h
  rw [← h]
  clear h
  by_cases h : plan = plan'
  case neg =>
    have hq := HN.out fun e => by injection e with e1 e2 e3 e4 e5 e6 e7; exact h e5
    have HQ := Lib.hid hq
    have hb : ¬ (plan = plan') := h
    clear h hq HT HN
    go_enter Tryz.func8, Tryz.ntmps8
    go_wp2
    go_ret
    exact ⟨by rw [HQ.out]; rfl, by repeat (first | with_reducible exact Grew.refl _ | apply Grew.more | apply Grew.alloc | apply Grew.drew | apply Grew.drewN)⟩
  subst h
  by_cases h : ct = ct'
  case neg =>
    have hq := HN.out fun e => by injection e with e1 e2 e3 e4 e5 e6 e7; exact h e7
    have HQ := Lib.hid hq
    have hb : ¬ (ct = ct') := h
    clear h hq HT HN
    go_enter Tryz.func8, Tryz.ntmps8
    go_wp2
    go_ret
    exact ⟨by rw [HQ.out]; rfl, by repeat (first | with_reducible exact Grew.refl _ | apply Grew.more | apply Grew.alloc | apply Grew.drew | apply Grew.drewN)⟩
  subst h
  by_cases h : keep.length = keep'.length
  case neg =>
    have hq := HN.out fun e => by injection e with e1 e2 e3 e4 e5 e6 e7; exact h (by rw [e6])
    have HQ := Lib.hid hq
    have hb : ¬ (((keep.length : Int) = (keep'.length : Int))) := by omega
    clear h hq HT HN
    go_enter Tryz.func8, Tryz.ntmps8
    go_wp2
    go_ret
    exact ⟨by rw [HQ.out]; rfl, by repeat (first | with_reducible exact Grew.refl _ | apply Grew.more | apply Grew.alloc | apply Grew.drew | apply Grew.drewN)⟩
  have HL2 := Lib.hid h
  rw [← h]
  clear h
  obtain ⟨⟨m1, -⟩, m3, -⟩ := HM.out
  go_enter Tryz.func8, Tryz.ntmps8
  go_wp2
  go_loopg [65] recs.length (fun gg s65 wr => ∃ k : Nat, k ≤ recs.length ∧ recs.length - k ≤ gg ∧ s65 = .int .i64 k ∧ Hid (Grew ((w.alloc (.cells #[.int .i64 kind, .int .i64 a, .int .i64 b, .slice r1 recs.length rc1, .string ⟨plan.toArray⟩, .slice k1 keep.length kc1, .int .i64 ct] 27)).alloc (.cells #[.int .i64 kind, .int .i64 a, .int .i64 b, .slice r2 recs.length rc2, .string ⟨plan.toArray⟩, .slice k2 keep.length kc2, .int .i64 ct] 27)) wr) ∧ Hid (recs.take k = recs'.take k))
  case atStart => exact ⟨0, by omega, by omega, rfl, Lib.hid (Grew.refl _), Lib.hid rfl⟩
  case round =>
    obtain ⟨k, hk, hgg, rfl, HG, HS⟩ := hrel
    obtain ⟨R8, N8, rfl⟩ := HG.out
    by_cases hlt : k < recs.length
    · have hlt' : k < recs'.length := by rw [← HL1.out]; exact hlt
      obtain ⟨a1, c1, e1, -, hx⟩ := rq_open (RowsAt.grew HE.out.r (show Grew w _ from by repeat (first | with_reducible exact Grew.refl _ | apply Grew.more | apply Grew.alloc | apply Grew.drew | apply Grew.drewN)))
      cases e1
      obtain ⟨b1, o1, rfl, p1, g0, g1, g2⟩ := hx k hlt
      obtain ⟨a2, c2, e2, -, hy⟩ := rq_open (RowsAt.grew HF.out.r (show Grew w _ from by repeat (first | with_reducible exact Grew.refl _ | apply Grew.more | apply Grew.alloc | apply Grew.drew | apply Grew.drewN)))
      simp only [Value.slice.injEq] at e2
      obtain ⟨ea, el, ec⟩ := e2
      subst ea ec
      obtain ⟨b2, o2, rfl, p2, d0, d1, d2⟩ := hy k hlt'
      have HSS := Lib.hid (take_eq_suc5 hlt hlt' HS.out)
      have HNE : Hid (recs[k] ≠ recs'[k] → res = false) := Lib.hid fun h => HN.out fun e => by injection e with e1 e2 e3 e4 e5 e6 e7; subst e4; exact h rfl
      clear hx hy el
      generalize recs[k] = x at *
      generalize recs'[k] = y at *
      obtain ⟨x0, x1, x2⟩ := x
      obtain ⟨y0, y1, y2⟩ := y
      simp only at g0 g1 g2 d0 d1 d2
      clear hlt' HT HN
      by_cases h : x0 = y0
      case neg =>
        have hq := HNE.out fun e => h (Prod.mk.inj e).1
        have HQ := Lib.hid hq
        have hb : (x0 == y0) = false := beq_eq_false_iff_ne.2 h
        clear h hq HSS HNE
        go_upto_region 6 with fail
        go_quiet (fail)
        go_wp2
        go_ret
        exact ⟨by rw [HQ.out]; rfl, by repeat (first | with_reducible exact Grew.refl _ | apply Grew.more | apply Grew.alloc | apply Grew.drew | apply Grew.drewN)⟩
      subst h
      by_cases h : x1 = y1
      case neg =>
        have hq := HNE.out fun e => h (Prod.mk.inj (Prod.mk.inj e).2).1
        have HQ := Lib.hid hq
        have hb : (x1 == y1) = false := beq_eq_false_iff_ne.2 h
        clear h hq HSS HNE
        go_upto_region 6 with fail
        go_quiet (fail)
        go_wp2
        go_ret
        exact ⟨by rw [HQ.out]; rfl, by repeat (first | with_reducible exact Grew.refl _ | apply Grew.more | apply Grew.alloc | apply Grew.drew | apply Grew.drewN)⟩
      subst h
      by_cases h : x2 = y2
      case neg =>
        have hq := HNE.out fun e => h (Prod.mk.inj (Prod.mk.inj e).2).2
        have HQ := Lib.hid hq
        have hb : (x2 == y2) = false := beq_eq_false_iff_ne.2 h
        clear h hq HSS HNE
        go_upto_region 6 with fail
        go_quiet (fail)
        go_wp2
        go_ret
        exact ⟨by rw [HQ.out]; rfl, by repeat (first | with_reducible exact Grew.refl _ | apply Grew.more | apply Grew.alloc | apply Grew.drew | apply Grew.drewN)⟩
      subst h
      clear HNE
      go_upto_region 6 with fail
      go_quiet (fail)
      go_wp2
      go_roundg (recs.length - (k + 1))
      case measure => omega
      case rel => exact ⟨k + 1, by omega, by omega, by go_num, Lib.hid (by repeat (first | with_reducible exact Grew.refl _ | apply Grew.more | apply Grew.alloc | apply Grew.drew | apply Grew.drewN)), Lib.hid (HSS.out (by trivial))⟩
    obtain rfl : k = recs.length := by omega
    have HRE : Hid (recs = recs') := Lib.hid (by have h := HS.out; rw [List.take_length, HL1.out, List.take_length] at h; exact h)
    clear HS hlt hk hgg
    go_wp2
    go_loopg [84] keep.length (fun gg s84 wr => ∃ k : Nat, k ≤ keep.length ∧ keep.length - k ≤ gg ∧ s84 = .int .i64 k ∧ Hid (Grew (((w.alloc (.cells #[.int .i64 kind, .int .i64 a, .int .i64 b, .slice r1 recs.length rc1, .string ⟨plan.toArray⟩, .slice k1 keep.length kc1, .int .i64 ct] 27)).alloc (.cells #[.int .i64 kind, .int .i64 a, .int .i64 b, .slice r2 recs.length rc2, .string ⟨plan.toArray⟩, .slice k2 keep.length kc2, .int .i64 ct] 27)).more R8 N8) wr) ∧ Hid (keep.take k = keep'.take k))
    case atStart => exact ⟨0, by omega, by omega, rfl, Lib.hid (Grew.refl _), Lib.hid rfl⟩
    case round =>
      obtain ⟨k, hk, hgg, rfl, HG2, HS⟩ := hrel
      obtain ⟨R9, N9, rfl⟩ := HG2.out
      by_cases hlt : k < keep.length
      · have hlt' : k < keep'.length := by rw [← HL2.out]; exact hlt
        obtain ⟨a1, c1, e1, -, hx⟩ := bools_open (RowsAt.grew HE.out.k (show Grew w _ from by repeat (first | with_reducible exact Grew.refl _ | apply Grew.more | apply Grew.alloc | apply Grew.drew | apply Grew.drewN)))
        cases e1
        obtain ⟨b1, o1, rfl, p1, g0⟩ := hx k hlt
        obtain ⟨a2, c2, e2, -, hy⟩ := bools_open (RowsAt.grew HF.out.k (show Grew w _ from by repeat (first | with_reducible exact Grew.refl _ | apply Grew.more | apply Grew.alloc | apply Grew.drew | apply Grew.drewN)))
        simp only [Value.slice.injEq] at e2
        obtain ⟨ea, el, ec⟩ := e2
        subst ea ec
        obtain ⟨b2, o2, rfl, p2, d0⟩ := hy k hlt'
        have HSS := Lib.hid (take_eq_suc5 hlt hlt' HS.out)
        have HNE : Hid (keep[k] ≠ keep'[k] → res = false) := Lib.hid fun h => HN.out fun e => by injection e with e1 e2 e3 e4 e5 e6 e7; subst e6; exact h rfl
        clear hx hy el
        generalize keep[k] = x at *
        generalize keep'[k] = y at *
        clear hlt' HT HN
        cases x <;> cases y
        · go_upto_region 12 with fail
          go_quiet (fail)
          go_wp2
          go_roundg (keep.length - (k + 1))
          case measure => omega
          case rel => exact ⟨k + 1, by omega, by omega, by go_num, Lib.hid (by repeat (first | with_reducible exact Grew.refl _ | apply Grew.more | apply Grew.alloc | apply Grew.drew | apply Grew.drewN)), Lib.hid (HSS.out (by trivial))⟩
        · have HQ := Lib.hid (HNE.out (by decide))
          go_upto_region 12 with fail
          go_quiet (fail)
          go_wp2
          go_ret
          exact ⟨by rw [HQ.out]; rfl, by repeat (first | with_reducible exact Grew.refl _ | apply Grew.more | apply Grew.alloc | apply Grew.drew | apply Grew.drewN)⟩
        · have HQ := Lib.hid (HNE.out (by decide))
          go_upto_region 12 with fail
          go_quiet (fail)
          go_wp2
          go_ret
          exact ⟨by rw [HQ.out]; rfl, by repeat (first | with_reducible exact Grew.refl _ | apply Grew.more | apply Grew.alloc | apply Grew.drew | apply Grew.drewN)⟩
        · go_upto_region 12 with fail
          go_quiet (fail)
          go_wp2
          go_roundg (keep.length - (k + 1))
          case measure => omega
          case rel => exact ⟨k + 1, by omega, by omega, by go_num, Lib.hid (by repeat (first | with_reducible exact Grew.refl _ | apply Grew.more | apply Grew.alloc | apply Grew.drew | apply Grew.drewN)), Lib.hid (HSS.out (by trivial))⟩
      obtain rfl : k = keep.length := by omega
      have hke : keep = keep' := by have h := HS.out; rw [List.take_length, HL2.out, List.take_length] at h; exact h
      have HQ := Lib.hid (HT.out (by rw [HRE.out, hke]))
      clear HS hlt hk hgg hke
      go_wp2
      go_ret
      exact ⟨by rw [HQ.out]; rfl, by repeat (first | with_reducible exact Grew.refl _ | apply Grew.more | apply Grew.alloc | apply Grew.drew | apply Grew.drewN)⟩
end Go.Proofs.YtmnllmbchpebbaaGreatDoor
