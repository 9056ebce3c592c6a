import Derived.Test.YtlgbipfpnfphjaaGreatDoorGb40
import Derived.Test.YtlgbipfpnfphjaaGreatDoorGb9
import Derived.Lib.OthersKept
import Derived.Test.YtlgbipfpnfphjaaGreatDoorGb20
import Derived.Deep.QuietTactic
import Derived.BigQuiet
import Derived.Test.YtlgbipfpnfphjaaGreatDoorGb16
/-! lines: record, verbs, and which verb a name is. -/
namespace Go.Proofs.YtlgbipfpnfphjaaGreatDoor
set_option linter.unusedSimpArgs false
set_option linter.unusedVariables false
open Go.RowKit Ga
set_option maxRecDepth 100000

theorem EnvEv.grew {w w' : World} (h : EnvEv w) (g : Grew w w') : EnvEv w' := ⟨h.l.grew g, utf8_grew h.u g⟩
set_option maxHeartbeats 8000000 in
theorem record_any (s : List UInt8) (hs : s.length ≤ 100000) (w : World) (hV : EnvEv w) : Calls Tryz.prog 67 #[.string ⟨s.toArray⟩] w (Gives (.agg #[.int .i64 (Li.recP gvL s).1, .int .i64 (Li.recP gvL s).2.1, .int .i64 (Li.recP gvL s).2.2]) w) := by
  obtain ⟨c1, c2⟩ := cut_len s [58]
  have HC := Lib.hid fun W (q : Grew w W) => cut_any s [58] (by omega) W (hV.l.m.grew q)
  have HA := Lib.hid fun W (q : Grew w W) => atoiL_any (Lib.cut s [58]).1 (by omega) W (hV.l.e.grew q)
  have HP := Lib.hid fun W (q : Grew w W) => parse_any (Lib.cut s [58]).2.1 (by omega) W (utf8_grew hV.u q) (hV.l.e.grew q) (hV.l.p.grew q)
  have e1 : (Li.recP gvL s).1 = Co.atoiVal (Lib.cut s [58]).1 := rfl
  have e2 : (Li.recP gvL s).2 = (parseOut (Lib.cut s [58]).2.1).1 := rfl
  rw [e1, e2]
  clear hV e1 e2 c1 c2
  generalize (Lib.cut s [58]).1 = ca at *
  generalize (Lib.cut s [58]).2.1 = cb at *
  generalize (Lib.cut s [58]).2.2 = cc at *
  generalize Co.atoiVal ca = ia at *
  generalize parseOut cb = po at *
  obtain ⟨⟨x, y⟩, er⟩ := po
  simp only at HP ⊢
  go_enter Tryz.func67, Tryz.ntmps67
  go_wp2_with (first
    | (go_at_call 64; refine (HC.out _ (by repeat (first | with_reducible exact Grew.refl _ | apply Grew.more | apply Grew.alloc | apply Grew.drew | apply Grew.drewN))).mono ?_; rintro e w1 ⟨rfl, R1, n1, rfl⟩)
    | (go_at_call 85; refine (HA.out _ (by repeat (first | with_reducible exact Grew.refl _ | apply Grew.more | apply Grew.alloc | apply Grew.drew | apply Grew.drewN))).mono ?_; rintro e w1 ⟨v1, rfl, R2, n2, rfl⟩)
    | (go_at_call 113; refine (HP.out _ (by repeat (first | with_reducible exact Grew.refl _ | apply Grew.more | apply Grew.alloc | apply Grew.drew | apply Grew.drewN))).mono ?_; rintro e w1 ⟨rfl, R3, n3, rfl⟩))
  refine bodyPost_ret (v := .agg #[.int .i64 ia, .int .i64 x, .int .i64 y]) (by simp [results, Tryz.results67, go_sem]) rfl ⟨rfl, by repeat (first | with_reducible exact Grew.refl _ | apply Grew.more | apply Grew.alloc | apply Grew.drew | apply Grew.drewN)⟩
def lettersL : List (List UInt8) := [[], [82], [80], [], [65], [65], [65], [65], [65, 66], [], [65], [75, 67], [65], []]
def nameN (k : Nat) : List UInt8 := Li.namesE.getD k []
def lettersN (k : Nat) : List UInt8 := lettersL.getD k []
theorem nameN_eq (k : Nat) : Li.nameE (k : Int) = nameN k := rfl
/-- the verbs in memory -/
def VerbsAt (w : World) (b : Nat) : Prop := ∀ k, k < 14 → w.cell? ⟨b, k * 2, none⟩ = some (.string ⟨(nameN k).toArray⟩) ∧ w.cell? ⟨b, k * 2 + 1, none⟩ = some (.string ⟨(lettersN k).toArray⟩)
theorem VerbsAt.grew {w w' : World} {b : Nat} (h : VerbsAt w b) (g : Grew w w') : VerbsAt w' b := fun k hk => ⟨cell_grew (h k hk).1 g, cell_grew (h k hk).2 g⟩
set_option maxHeartbeats 8000000 in
theorem verbs_any (w : World) : Calls Tryz.prog 15 #[] w (fun e w' => ∃ b, e = .returned (.slice (some ⟨b, 0, none⟩) 14 14) ∧ VerbsAt w' b ∧ Pre b w' ∧ Grew w w') := by
  go_enter Tryz.func15, Tryz.ntmps15
  go_wp2
  go_ret
  refine ⟨w.heap.size, rfl, fun k hk => ?_, Pre.mk (by simp [go_sem]), by repeat (first | with_reducible exact Grew.refl _ | apply Grew.more | apply Grew.alloc | apply Grew.drew | apply Grew.drewN)⟩
  rw [cell_of (heap_new_at w _ _ rfl), cell_of (heap_new_at w _ _ rfl)]
  rcases (show k = 0 ∨ k = 1 ∨ k = 2 ∨ k = 3 ∨ k = 4 ∨ k = 5 ∨ k = 6 ∨ k = 7 ∨ k = 8 ∨ k = 9 ∨ k = 10 ∨ k = 11 ∨ k = 12 ∨ k = 13 by omega) with rfl | rfl | rfl | rfl | rfl | rfl | rfl | rfl | rfl | rfl | rfl | rfl | rfl | rfl <;> exact ⟨rfl, rfl⟩
theorem kindOf_at (k : Nat) (hk : k < 14) : Li.kindOf (nameN k) = k := by
  have key : ∀ k : Nat, k < 14 → Li.kindOf (nameN k) = k := by decide +kernel
  exact key k hk
theorem kindOf_none {n : List UInt8} (h : ∀ k, k < 14 → nameN k ≠ n) : Li.kindOf n = -1 := by
  unfold Li.kindOf
  rw [if_neg]
  intro hm
  obtain ⟨i, hi, e⟩ := List.mem_iff_getElem.1 hm
  refine h i hi ?_
  unfold nameN
  rw [List.getD_eq_getElem?_getD, List.getElem?_eq_getElem hi, e]
  rfl
theorem read1_any (a b n : List UInt8) (p : Nat) (w : World) (hp : w.cell? ⟨p, 0, none⟩ = some (.string ⟨n.toArray⟩)) : Calls Tryz.prog 66 #[.agg #[.string ⟨a.toArray⟩, .string ⟨b.toArray⟩], .pointer (some ⟨p, 0, none⟩)] w (Gives (.bool (a == n)) w) := by
  have p1 := Pre.ofCell hp
  generalize hq : (a == n) = q
  have HQ := Lib.hid hq
  clear hq
  go_enter Tryz.func66, Tryz.ntmps66
  go_wp2
  go_ret
  exact ⟨by first | rfl | (rw [← HQ.out]; rfl), by repeat (first | with_reducible exact Grew.refl _ | apply Grew.more | apply Grew.alloc | apply Grew.drew | apply Grew.drewN)⟩
set_option maxHeartbeats 8000000 in
theorem idxVerb_any (b p : Nat) (n : List UInt8) (w : World) (hv : VerbsAt w b) (hb : Pre b w) (hp : w.cell? ⟨p, 0, none⟩ = some (.string ⟨n.toArray⟩)) : Calls Tryz.prog 65 #[.slice (some ⟨b, 0, none⟩) 14 14, .func (.func 66) #[] #[.pointer (some ⟨p, 0, none⟩)]] w (Gives (.int .i64 (Li.kindOf n)) w) := by
  have HV := Lib.hid hv
  have HP := Lib.hid hp
  have HNO := Lib.hid (kindOf_none (n := n))
  clear hv hb hp
  go_enter Tryz.func65, Tryz.ntmps65
  go_wp2
  go_loopg [8] 14 (fun gg s8 wr => ∃ k : Nat, k ≤ 14 ∧ 14 - k ≤ gg ∧ s8 = .int .i64 k ∧ Hid (Grew w wr) ∧ Hid (∀ j, j < k → nameN j ≠ n))
  case atStart => exact ⟨0, by omega, by omega, rfl, Lib.hid (by repeat (first | with_reducible exact Grew.refl _ | apply Grew.more | apply Grew.alloc | apply Grew.drew | apply Grew.drewN)), Lib.hid fun j hj => by omega⟩
  case round =>
    obtain ⟨k, hk, hgg, rfl, HG, HA⟩ := hrel
    rename World => wa
    by_cases hlt : k < 14
    · obtain ⟨c0, c1⟩ := (HV.out.grew HG.out) k hlt
      have p0 := Pre.ofCell c0
      have HK := Lib.hid (kindOf_at k hlt)
      generalize lettersN k = lt at *
      generalize hnk : nameN k = nk at *
      have HNK := Lib.hid hnk
      clear hnk
      have HRD := Lib.hid fun W (q : Grew wa W) => read1_any nk lt n p W (cell_grew HP.out (HG.out.trans q))
      by_cases hq : nk = n
      · have hqb : (nk == n) = true := by rw [hq]; exact beq_self_eq_true n
        have HQ := Lib.hid hq
        rw [hqb] at HRD
        clear hq hqb
        go_wp2_with (go_at_call 66; refine (HRD.out _ (by repeat (first | with_reducible exact Grew.refl _ | apply Grew.more | apply Grew.alloc | apply Grew.drew | apply Grew.drewN))).mono ?_; rintro e w1 ⟨rfl, R1, n1, rfl⟩)
        go_ret
        exact ⟨by rw [← HQ.out, HK.out]; rfl, HG.out.trans (by repeat (first | with_reducible exact Grew.refl _ | apply Grew.more | apply Grew.alloc | apply Grew.drew | apply Grew.drewN))⟩
      · have hqb : (nk == n) = false := beq_eq_false_iff_ne.2 hq
        have HQ := Lib.hid hq
        rw [hqb] at HRD
        clear hq hqb
        go_wp2_with (go_at_call 66; refine (HRD.out _ (by repeat (first | with_reducible exact Grew.refl _ | apply Grew.more | apply Grew.alloc | apply Grew.drew | apply Grew.drewN))).mono ?_; rintro e w1 ⟨rfl, R1, n1, rfl⟩)
        go_roundg (14 - (k + 1))
        case measure => omega
        case rel =>
          refine ⟨k + 1, by omega, by omega, by go_num, Lib.hid (HG.out.trans (by repeat (first | with_reducible exact Grew.refl _ | apply Grew.more | apply Grew.alloc | apply Grew.drew | apply Grew.drewN))), Lib.hid fun j hj => ?_⟩
          by_cases e : j = k
          · subst e; rw [HNK.out]; exact HQ.out
          · exact HA.out j (by omega)
    · obtain rfl : k = 14 := by omega
      have HK := Lib.hid (HNO.out HA.out)
      go_wp2
      go_ret
      exact ⟨by rw [HK.out]; rfl, HG.out⟩
end Go.Proofs.YtlgbipfpnfphjaaGreatDoor

/-! lines: which letters a verb has, right records, the words of an event. -/
namespace Go.Proofs.YtlgbipfpnfphjaaGreatDoor
set_option linter.unusedSimpArgs false
set_option linter.unusedVariables false
open Go.RowKit Ga
set_option maxRecDepth 100000

def hasB (lt : List UInt8) (c : UInt8) : Bool := decide (0 ≤ Lib.indexByte lt c)
theorem bare1_any (lt : List UInt8) (c : UInt8) (p : Nat) (w : World) (hp : w.cell? ⟨p, 0, none⟩ = some (.string ⟨lt.toArray⟩)) : Calls Tryz.prog 37 #[.string ⟨#[c]⟩, .pointer (some ⟨p, 0, none⟩)] w (Gives (.bool (hasB lt c)) w) := by
  have p1 := Pre.ofCell hp
  have HC := Lib.hid fun W => Tryz.strings_Contains_one ⟨lt.toArray⟩ c W
  go_enter Tryz.func37, Tryz.ntmps37
  go_wp2_with (go_at_call 38; refine (HC.out _).mono ?_; rintro e w1 ⟨rfl, hw⟩; obtain rfl := hw.symm)
  go_ret
  exact ⟨rfl, by repeat (first | with_reducible exact Grew.refl _ | apply Grew.more | apply Grew.alloc | apply Grew.drew | apply Grew.drewN)⟩
theorem cellRight_ln (k x y : Int) (w : World) : Calls Tryz.prog 40 #[.agg #[.int .i64 k, .int .i64 x, .int .i64 y]] w (Gives (.bool (thereB 0 k && rightV (x, y))) w) := by
  cases h : thereB 0 k
  · have H := Lib.hid h
    clear h
    go_enter Tryz.func40, Tryz.ntmps40
    go_wp2_with (go_at_call 90; refine (there_any _ _ _).mono ?_; rintro e w1 ⟨rfl, rfl⟩; rw [H.out])
    go_ret
    exact ⟨rfl, by repeat (first | with_reducible exact Grew.refl _ | apply Grew.more | apply Grew.alloc | apply Grew.drew | apply Grew.drewN)⟩
  · have H := Lib.hid h
    clear h
    go_enter Tryz.func40, Tryz.ntmps40
    go_wp2_with (first
      | (go_at_call 90; refine (there_any _ _ _).mono ?_; rintro e w1 ⟨rfl, rfl⟩; rw [H.out])
      | (go_at_call 91; refine (right_xy _ _ _).mono ?_; rintro e w1 ⟨rfl, R1, n1, rfl⟩))
    go_ret
    exact ⟨by simp, by repeat (first | with_reducible exact Grew.refl _ | apply Grew.more | apply Grew.alloc | apply Grew.drew | apply Grew.drewN)⟩
def okRq (r : Rq) : Bool := thereB 0 r.1 && rightV (r.2.1, r.2.2)
theorem bare2_any (k x y : Int) (w : World) : Calls Tryz.prog 39 #[.agg #[.int .i64 k, .int .i64 x, .int .i64 y]] w (Gives (.bool (!okRq (k, x, y))) w) := by
  have HC := Lib.hid fun W => cellRight_ln k x y W
  have e : (thereB 0 k && rightV (x, y)) = okRq (k, x, y) := rfl
  rw [e] at HC
  generalize okRq (k, x, y) = q at *
  go_enter Tryz.func39, Tryz.ntmps39
  go_wp2_with (go_at_call 40; refine (HC.out _).mono ?_; rintro e w1 ⟨rfl, R1, n1, rfl⟩)
  go_ret
  exact ⟨rfl, by repeat (first | with_reducible exact Grew.refl _ | apply Grew.more | apply Grew.alloc | apply Grew.drew | apply Grew.drewN)⟩
set_option maxHeartbeats 8000000 in
theorem idxRq_any (v : Value) (l : List Rq) (w : World) (hv : RqAt w v l) : Calls Tryz.prog 94 #[v, .func (.func 39) #[] #[]] w (fun e w' => ∃ k : Int, e = .returned (.int .i64 k) ∧ (decide (0 ≤ k) = !l.all okRq) ∧ Grew w w') := by
  have HV := Lib.hid hv
  obtain ⟨a, cap, rfl, hmx, -⟩ := rq_open hv
  clear hv
  go_enter Tryz.func94, Tryz.ntmps94
  go_wp2
  go_loopg [8] l.length (fun gg s8 wr => ∃ k : Nat, k ≤ l.length ∧ l.length - k ≤ gg ∧ s8 = .int .i64 k ∧ Hid (Grew w wr) ∧ Hid ((l.take k).all okRq = true))
  case atStart => exact ⟨0, by omega, by omega, rfl, Lib.hid (by repeat (first | with_reducible exact Grew.refl _ | apply Grew.more | apply Grew.alloc | apply Grew.drew | apply Grew.drewN)), Lib.hid rfl⟩
  case round =>
    obtain ⟨k, hk, hgg, rfl, HG, HA⟩ := hrel
    rename World => wa
    by_cases hlt : k < l.length
    · obtain ⟨a', cap', e, -, hx⟩ := rq_open (HV.out.grew HG.out)
      cases e
      obtain ⟨b, off, rfl, hb, c0, c1, c2⟩ := hx k hlt
      have hms : l.length - (k + 1) < l.length - k := Nat.sub_lt_sub_left hlt (Nat.lt_succ_self k)
      have HS := Lib.hid (take_all_succ (p := okRq) hlt HA.out)
      have HF := Lib.hid (all_false_at (p := okRq) hlt)
      clear hx
      generalize l[k] = r at *
      obtain ⟨x, y, z⟩ := r
      simp only at c0 c1 c2
      have HB := Lib.hid fun W => bare2_any x y z W
      cases hr : okRq (x, y, z)
      all_goals
        have HR := Lib.hid hr
        rw [hr] at HB
        clear hr
        go_wp2_with (go_at_call 39; refine (HB.out _).mono ?_; rintro e w1 ⟨rfl, R1, n1, rfl⟩)
      · go_ret
        refine ⟨k, rfl, ?_, HG.out.trans (by repeat (first | with_reducible exact Grew.refl _ | apply Grew.more | apply Grew.alloc | apply Grew.drew | apply Grew.drewN))⟩
        rw [HF.out HR.out]
        simp
      · go_roundg (l.length - (k + 1))
        case measure => exact Nat.lt_of_lt_of_le hms hgg
        case rel => exact ⟨k + 1, hlt, Nat.le_refl _, by go_num, Lib.hid (HG.out.trans (by repeat (first | with_reducible exact Grew.refl _ | apply Grew.more | apply Grew.alloc | apply Grew.drew | apply Grew.drewN))), Lib.hid (HS.out HR.out)⟩
    · obtain rfl : k = l.length := by omega
      have hz := HA.out
      rw [List.take_length] at hz
      have HZ := Lib.hid hz
      clear hz HA
      go_wp2
      go_ret
      exact ⟨-1, rfl, by rw [HZ.out]; rfl, HG.out⟩
theorem hasRq_any (v : Value) (l : List Rq) (w : World) (hv : RqAt w v l) : Calls Tryz.prog 43 #[v, .func (.func 39) #[] #[]] w (Gives (.bool (!l.all okRq)) w) := by
  have HI := Lib.hid fun W (q : Grew w W) => idxRq_any v l W (hv.grew q)
  clear hv
  go_enter Tryz.func43, Tryz.ntmps43
  go_wp2_with (go_at_call 94; refine (HI.out _ (by repeat (first | with_reducible exact Grew.refl _ | apply Grew.more | apply Grew.alloc | apply Grew.drew | apply Grew.drewN))).mono ?_; rintro e w1 ⟨k, rfl, hk, R1, n1, rfl⟩; (have HK := Lib.hid hk); clear hk)
  go_ret
  exact ⟨ret_bool HK.out, by repeat (first | with_reducible exact Grew.refl _ | apply Grew.more | apply Grew.alloc | apply Grew.drew | apply Grew.drewN)⟩
/-- an event's value -/
def evV (v : Li.Ev) (rv kv : Value) : Value := .agg #[.int .i64 v.kind, .int .i64 v.a, .int .i64 v.b, rv, .string ⟨v.plan.toArray⟩, kv, .int .i64 v.cut]
structure EvIs (w : World) (v : Li.Ev) (rv kv : Value) : Prop where
  r : RqAt w rv v.recs
  k : BoolsAt w kv v.keep
theorem EvIs.grew {w w' : World} {v : Li.Ev} {rv kv : Value} (h : EvIs w v rv kv) (g : Grew w w') : EvIs w' v rv kv := ⟨RowsAt.grew h.r g, RowsAt.grew h.k g⟩
noncomputable def gpL (s : List UInt8) : List Gr.Stp × Int := Gr.getPl getL s
noncomputable def wordL (v : Li.Ev) (c : Int) : List UInt8 :=
  if c = 65 then Lib.itoa v.a else if c = 66 then Lib.itoa v.b else if c = 82 then Li.recsT v.recs else if c = 80 then Li.planT (gpL v.plan).1 else if c = 75 then Li.bitsT v.keep else Lib.itoa v.cut
structure EvOk (v : Li.Ev) : Prop where
  a : Li.num v.a = true
  b : Li.num v.b = true
  c : Li.num v.cut = true
  r : v.recs.length ≤ 60
  k : v.keep.length ≤ 60
  p : v.plan.length ≤ 100000
  o : ∀ r ∈ v.recs, Li.okRec r
set_option maxHeartbeats 8000000 in
theorem word_any (v : Li.Ev) (rv kv : Value) (c : Int) (w : World) (hP : Pow w) (hA : Asc w) (hE : EvIs w v rv kv) (hO : EvOk v) (hc : c = 65 ∨ c = 66 ∨ c = 82 ∨ c = 80 ∨ c = 75 ∨ c = 67) : Calls Tryz.prog 17 #[evV v rv kv, .int .i32 c] w (Gives (str (wordL v c)) w) := by
  obtain ⟨o1, o2, o3, o4, o5, o6, o7⟩ := hO
  have HI1 := Lib.hid fun W (q : Grew w W) => itoa_any v.a (num_range o1) W (hP.grew q)
  have HI2 := Lib.hid fun W (q : Grew w W) => itoa_any v.b (num_range o2) W (hP.grew q)
  have HI3 := Lib.hid fun W (q : Grew w W) => itoa_any v.cut (num_range o3) W (hP.grew q)
  have HR := Lib.hid fun W (q : Grew w W) => records_any rv v.recs W (hP.grew q) (RowsAt.grew hE.r q) o7 o4
  have HK := Lib.hid fun W (q : Grew w W) => bits_any kv v.keep W (RowsAt.grew hE.k q) (by omega)
  have HL := Lib.hid fun W (q : Grew w W) => planned_any v.plan o6 W (hP.grew q) (hA.grew q)
  obtain ⟨ra, rc, e1, -, -⟩ := rq_open hE.r
  obtain ⟨ka, kc, e2, -, -⟩ := bools_open hE.k
  subst e1 e2
  have w1 : wordL v 65 = Lib.itoa v.a := rfl
  have w2 : wordL v 66 = Lib.itoa v.b := rfl
  have w3 : wordL v 82 = Li.recsT v.recs := rfl
  have w4 : wordL v 80 = Li.planT (Gr.getPl getL v.plan).1 := rfl
  have w5 : wordL v 75 = Li.bitsT v.keep := rfl
  have w6 : wordL v 67 = Lib.itoa v.cut := rfl
  clear hP hA hE o1 o2 o3 o4 o5 o6 o7
  generalize hw9 : wordL v = wl at *
  clear hw9
  obtain ⟨kind, a, b, recs, plan, keep, ct⟩ := v
  simp only [evV] at *
  rcases hc with rfl | rfl | rfl | rfl | rfl | rfl
  all_goals
    first | rw [w1] | rw [w2] | rw [w3] | rw [w4] | rw [w5] | rw [w6]
    clear w1 w2 w3 w4 w5 w6
    generalize Lib.itoa a = ia at *
    generalize Lib.itoa b = ib at *
    generalize Lib.itoa ct = ic at *
    generalize Li.recsT recs = rt at *
    generalize Li.bitsT keep = bt at *
    generalize Li.planT (Gr.getPl getL plan).1 = pt at *
    generalize recs.length = rl at *
    generalize keep.length = kl at *
    go_enter Tryz.func17, Tryz.ntmps17
    go_wp2_with (first
      | (go_at_call 44; (first | (with_reducible refine (HI1.out _ (by repeat (first | with_reducible exact Grew.refl _ | apply Grew.more | apply Grew.alloc | apply Grew.drew | apply Grew.drewN))).mono ?_) | (with_reducible refine (HI2.out _ (by repeat (first | with_reducible exact Grew.refl _ | apply Grew.more | apply Grew.alloc | apply Grew.drew | apply Grew.drewN))).mono ?_) | (with_reducible refine (HI3.out _ (by repeat (first | with_reducible exact Grew.refl _ | apply Grew.more | apply Grew.alloc | apply Grew.drew | apply Grew.drewN))).mono ?_)); rintro e w1 ⟨rfl, R1, n1, rfl⟩)
      | (go_at_call 45; refine (HR.out _ (by repeat (first | with_reducible exact Grew.refl _ | apply Grew.more | apply Grew.alloc | apply Grew.drew | apply Grew.drewN))).mono ?_; rintro e w1 ⟨rfl, R1, n1, rfl⟩)
      | (go_at_call 42; refine (HL.out _ (by repeat (first | with_reducible exact Grew.refl _ | apply Grew.more | apply Grew.alloc | apply Grew.drew | apply Grew.drewN))).mono ?_; rintro e w1 ⟨rfl, R1, n1, rfl⟩)
      | (go_at_call 46; refine (HK.out _ (by repeat (first | with_reducible exact Grew.refl _ | apply Grew.more | apply Grew.alloc | apply Grew.drew | apply Grew.drewN))).mono ?_; rintro e w1 ⟨rfl, R1, n1, rfl⟩))
    go_ret
    exact ⟨rfl, by repeat (first | with_reducible exact Grew.refl _ | apply Grew.more | apply Grew.alloc | apply Grew.drew | apply Grew.drewN)⟩
end Go.Proofs.YtlgbipfpnfphjaaGreatDoor

/-! lines: Event. -/
namespace Go.Proofs.YtlgbipfpnfphjaaGreatDoor
set_option linter.unusedSimpArgs false
set_option linter.unusedVariables false
open Go.RowKit Ga
set_option maxRecDepth 100000

theorem grew_iter {w0 w : World} (g : Grew w0 w) {k : Nat} (hk : w0.heap.size ≤ k) (s : ByteArray) (p : Nat) : Grew w0 (w.iterAt k s p) := Grew.ofBelow (Lib.below_iterAt g.below hk s p)
theorem own_iter {α : Type} {base : Nat} {e : TypeId} {k it : Nat} {enc : α → List Value} {w : World} {v : Value} {l : List α} (h : OwnAt base e k enc w v l) {s : ByteArray} {p p2 : Nat} (hi : w.heap[it]? = some (.stringIter s p)) : OwnAt base e k enc (w.iterAt it s p2) v l :=
  OwnAt.same h fun q hq => Lib.iterAt_other w it q s p2 fun e1 => by
    obtain ⟨-, cs, hc⟩ := OwnAt.block h hq
    rw [e1, hi] at hc
    cases hc
theorem own_not_iter {α : Type} {base : Nat} {e : TypeId} {k it : Nat} {enc : α → List Value} {w : World} {v : Value} {l : List α} (h : OwnAt base e k enc w v l) {s : ByteArray} {p : Nat} (hi : w.heap[it]? = some (.stringIter s p)) : v.ownBlock ≠ some it := by
  intro e1
  obtain ⟨_, c', h'⟩ := h.block e1
  rw [hi] at h'
  cases h'
theorem iter_kept {w w' : World} (g : Grew w w') {it : Nat} {s : ByteArray} {p : Nat} (hi : w.heap[it]? = some (.stringIter s p)) : w'.heap[it]? = some (.stringIter s p) := by
  rw [g.below.block it (Array.getElem?_eq_some_iff.1 hi).1]
  exact hi
theorem iter_app {α : Type} {w0 : World} {e : TypeId} {k it : Nat} {enc : α → List Value} {W W' : World} {v v' : Value} {l l' : List α} (ho : OwnAt w0.heap.size e k enc W v l) (h : Appended w0 e k enc W v l' v' W') {s : ByteArray} {p : Nat} (hi : W.heap[it]? = some (.stringIter s p)) : W'.heap[it]? = some (.stringIter s p) := by
  obtain ⟨-, -, -, h4, -⟩ := h
  rw [h4 it (Array.getElem?_eq_some_iff.1 hi).1 (own_not_iter ho hi)]
  exact hi
/-- the verbs' value -/
def VerbsV (v : Value) (w : World) : Prop := ∃ b, v = .slice (some ⟨b, 0, none⟩) 14 14 ∧ VerbsAt w b ∧ Pre b w
theorem VerbsV.st : ∀ v w w', VerbsV v w → Grew w w' → VerbsV v w' := fun _ _ _ ⟨b, h1, h2, h3⟩ g => ⟨b, h1, h2.grew g, Nat.lt_of_lt_of_le h3 g.below.size⟩
/-- where one verb lies -/
def VerbP (nm lt : List UInt8) (v : Value) (w : World) : Prop := ∃ b o, v = .pointer (some ⟨b, o, none⟩) ∧ (w.cell? ⟨b, o, none⟩ = some (.string ⟨nm.toArray⟩) ∧ w.cell? ⟨b, o + 1, none⟩ = some (.string ⟨lt.toArray⟩)) ∧ Pre b w
theorem VerbP.st (nm lt : List UInt8) : ∀ v w w', VerbP nm lt v w → Grew w w' → VerbP nm lt v w' := fun _ _ _ ⟨b, o, h1, h2, h3⟩ g => ⟨b, o, h1, ⟨cell_grew h2.1 g, cell_grew h2.2 g⟩, Nat.lt_of_lt_of_le h3 g.below.size⟩
noncomputable def wordsF (v : Li.Ev) (ls : List UInt8) : List (List UInt8) := (ls.map fun c => wordL v c.toNat).filter fun x => !x.isEmpty
set_option maxHeartbeats 32000000 in
theorem event_no (v : Li.Ev) (rv kv : Value) (w : World) (hE : EvIs w v rv kv) (hk : v.kind < 1 ∨ 13 < v.kind) : Calls Tryz.prog 6 #[evV v rv kv] w (Gives (str []) w) := by
  obtain ⟨ra, rc, e1, m1, -⟩ := rq_open hE.r
  obtain ⟨ka, kc, e2, m2, -⟩ := bools_open hE.k
  subst e1 e2
  clear hE
  obtain ⟨kind, a, b, recs, plan, keep, ct⟩ := v
  simp only [evV] at *
  rcases hk with hk | hk
  · go_enter Tryz.func6, Tryz.ntmps6
    go_wp2
    go_ret
    exact ⟨rfl, by repeat (first | with_reducible exact Grew.refl _ | apply Grew.more | apply Grew.alloc | apply Grew.drew | apply Grew.drewN)⟩
  · have h1 : ¬ kind < 1 := by omega
    go_enter Tryz.func6, Tryz.ntmps6
    go_wp2
    go_ret
    exact ⟨rfl, by repeat (first | with_reducible exact Grew.refl _ | apply Grew.more | apply Grew.alloc | apply Grew.drew | apply Grew.drewN)⟩
set_option maxHeartbeats 32000000 in
theorem event_walk (v : Li.Ev) (rv kv : Value) (k : Nat) (nm lt : List UInt8) (q : Bool) (w : World) (hP : Pow w) (hA : Asc w) (hE : EvIs w v rv kv) (hkd : v.kind = (k : Int)) (hk : 1 ≤ k ∧ k ≤ 13) (hnm : nameN k = nm) (hlt : lettersN k = lt)
    (HB : ∀ W, Grew w W → Calls Tryz.prog 16 #[evV v rv kv, .string ⟨lt.toArray⟩] W (Gives (.bool q) W))
    (HW : q = true → ∀ W, Grew w W → ∀ c ∈ lt, Calls Tryz.prog 17 #[evV v rv kv, .int .i32 c.toNat] W (Gives (str (wordL v c.toNat)) W))
    (hasc : ∀ c ∈ lt, c.toNat < 128) (hl2 : lt.length ≤ 2) (hjl : q = true → (Lib.join (nm :: wordsF v lt) [32]).length ≤ 1000000) :
    Calls Tryz.prog 6 #[evV v rv kv] w (Gives (str (if q = true then Lib.join (nm :: wordsF v lt) [32] else [])) w) := by
  obtain ⟨ra, rc, e1, m1, -⟩ := rq_open hE.r
  obtain ⟨ka, kc, e2, m2, -⟩ := bools_open hE.k
  subst e1 e2
  clear hE
  have HBq := Lib.hid HB
  have HWq := Lib.hid HW
  have HJ := Lib.hid hjl
  have HAS := Lib.hid hasc
  have HNM := Lib.hid hnm
  have HLT := Lib.hid hlt
  have hP2 := Lib.hid (And.intro hP hA)
  clear HB HW hjl hasc hP hA hnm hlt
  generalize hvv : wordL v = wl at *
  have HF : Hid (∀ ls, wordsF v ls = (ls.map fun c => wl c.toNat).filter fun x => !x.isEmpty) := Lib.hid fun ls => by unfold wordsF; rw [hvv]
  clear hvv
  generalize wordsF v = wf at *
  obtain ⟨kind, a, b, recs, plan, keep, ct⟩ := v
  simp only [evV] at *
  subst hkd
  have k1 : decide ((k : Int) < 1) = false := by simp; omega
  have k2 : decide (13 < (k : Int)) = false := by simp; omega
  have k3 : k < 14 := by omega
  have HK := Lib.hid hk
  have HL2 := Lib.hid hl2
  clear hk hl2 m1 m2
  generalize hres : (if q = true then Lib.join (nm :: wf lt) [32] else []) = res
  have HRES := Lib.hid hres
  clear hres
  go_enter Tryz.func6, Tryz.ntmps6
  go_upto_region 3 with fail
  go_cut [3] (fun s3 wx => ∃ b3, s3 = .pointer (some ⟨b3, 0, none⟩) ∧ Grew (w.alloc (.cells #[.int .i64 k, .int .i64 a, .int .i64 b, .slice ra recs.length rc, .string ⟨plan.toArray⟩, .slice ka keep.length kc, .int .i64 ct] 27)) wx ∧ wx.heap[b3]? = some (.cells #[.string ⟨nm.toArray⟩, .string ⟨lt.toArray⟩] 53))
  case first =>
    refine wp_region_seq 6 Tryz.mixed (by kernel_rfl) (by kernel_rfl) ?_
    apply Seq.of VerbsV VerbsV.st
    focus
      rintro w1 u ⟨R1, n1, rfl⟩ hF
      simp [moreFacts, Fact.more, Oper.deps, Region.binds, List.filter_cons, World.more_drew] at hF
      simp [putFacts, Oper.deps, Region.binds, List.filter_cons, Region.dstOf, Fact.at, Act.put, World.more_drew]
      go_wp2_with (first
        | (go_at_call 15; refine (verbs_any _).mono ?_; rintro e w2 ⟨b9, rfl, hvb, hpb, R3, n3, rfl⟩)
        )
      exact ⟨by repeat (first | with_reducible exact Grew.refl _ | apply Grew.more | apply Grew.alloc | apply Grew.drew | apply Grew.drewN), rfl, _, _, rfl, rfl, ⟨b9, rfl, hvb, hpb⟩⟩
    iterate 2
      apply Seq.val
      focus
        rintro w1 u ⟨R1, n1, rfl⟩ hF
        simp [moreFacts, Fact.more, Oper.deps, Region.binds, List.filter_cons, World.more_drew] at hF
        simp [putFacts, Oper.deps, Region.binds, List.filter_cons, Region.dstOf, Fact.at, Act.put, World.more_drew]
        go_wp2
        exact ⟨by repeat (first | with_reducible exact Grew.refl _ | apply Grew.more | apply Grew.alloc | apply Grew.drew | apply Grew.drewN), rfl, _, _, rfl, rfl, rfl⟩
    apply Seq.of (VerbP nm lt) (VerbP.st nm lt)
    focus
      rintro w1 u ⟨R1, n1, rfl⟩ hF
      simp [moreFacts, Fact.more, Oper.deps, Region.binds, List.filter_cons, World.more_drew] at hF
      simp [putFacts, Oper.deps, Region.binds, List.filter_cons, Region.dstOf, Fact.at, Act.put, World.more_drew]
      obtain ⟨b7, hb7, hc7, hp7⟩ := hF; (have hc8 := hc7 k (by have := HK.out; omega)); clear hc7; rw [HNM.out, HLT.out] at hc8; rw [hb7]
      go_wp2
      exact ⟨by repeat (first | with_reducible exact Grew.refl _ | apply Grew.more | apply Grew.alloc | apply Grew.drew | apply Grew.drewN), rfl, _, _, rfl, rfl, ⟨b7, _, rfl, hc8, hp7⟩⟩
    apply Seq.val
    focus
      rintro w1 u ⟨R1, n1, rfl⟩ hF
      simp [moreFacts, Fact.more, Oper.deps, Region.binds, List.filter_cons, World.more_drew] at hF
      simp [putFacts, Oper.deps, Region.binds, List.filter_cons, Region.dstOf, Fact.at, Act.put, World.more_drew]
      obtain ⟨b7, o7, hb7, ⟨hc7, hd7⟩, hp7⟩ := hF; rw [hb7]
      go_wp2
      exact ⟨by repeat (first | with_reducible exact Grew.refl _ | apply Grew.more | apply Grew.alloc | apply Grew.drew | apply Grew.drewN), rfl, _, _, rfl, rfl, rfl⟩
    apply Seq.new #[.string ⟨#[]⟩, .string ⟨#[]⟩] 53
    focus
      rintro w1 u ⟨R1, n1, rfl⟩ hF
      clear hF
      simp [putFacts, Oper.deps, Region.binds, List.filter_cons, Region.dstOf, Fact.at, Act.put, World.more_drew]
      go_wp2
      exact ⟨by repeat (first | with_reducible exact Grew.refl _ | apply Grew.more | apply Grew.alloc | apply Grew.drew | apply Grew.drewN), rfl, _, _, rfl, rfl, _, rfl, heap_new_at _ _ _ (by simp [go_sem]), by simp [go_sem], by simp [go_sem]⟩
    rintro u w1 ⟨R1, n1, rfl⟩ hF
    simp [moreFacts, apartFacts, Fact.more, Fact.isNew, List.range_succ, IsNew, World.more_drew] at hF
    obtain ⟨⟨b8, e8, -, -⟩, ⟨b7, o7, e7, -, -⟩, b6, e6, h6, s6⟩ := hF
    have g6 : Grew (w.alloc (.cells #[.int .i64 k, .int .i64 a, .int .i64 b, .slice ra recs.length rc, .string ⟨plan.toArray⟩, .slice ka keep.length kc, .int .i64 ct] 27)) ((w.alloc (.cells #[.int .i64 k, .int .i64 a, .int .i64 b, .slice ra recs.length rc, .string ⟨plan.toArray⟩, .slice ka keep.length kc, .int .i64 ct] 27)).more R1 n1) := ⟨_, _, rfl⟩
    simp [putFacts, Region.dstOf, Fact.at, Act.put, List.range_succ, World.more_drew, e6, e7, e8]
    generalize ((w.alloc (.cells #[.int .i64 k, .int .i64 a, .int .i64 b, .slice ra recs.length rc, .string ⟨plan.toArray⟩, .slice ka keep.length kc, .int .i64 ct] 27)).more R1 n1) = wx at *
    have q0 := cell_of (o := 0) h6
    have q1 := cell_of (o := 1) h6
    have q2 := frozen_of (o := 0) h6
    have q3 := frozen_of (o := 1) h6
    simp at q0 q1
    have H6 := Lib.hid h6
    clear h6
    go_wp2_with fail
    go_meet
    refine ⟨b6, rfl, (g6.set (by simpa [go_sem] using s6) _).set (by simpa [go_sem] using s6) _, ?_⟩
    rw [set_self (set_self H6.out)]; rfl
  case rest =>
    obtain ⟨b6, rfl, ⟨R6, N6, rfl⟩, h6⟩ := hcut
    have q0 := cell_of (o := 0) h6
    have q1 := cell_of (o := 1) h6
    simp at q0 q1
    have p6 : Pre b6 ((w.alloc (.cells #[.int .i64 k, .int .i64 a, .int .i64 b, .slice ra recs.length rc, .string ⟨plan.toArray⟩, .slice ka keep.length kc, .int .i64 ct] 27)).more R6 N6) := heap_lt h6
    clear h6
    cases q
    · go_wp2_with (go_at_call 16; refine (HBq.out _ (by repeat (first | with_reducible exact Grew.refl _ | apply Grew.more | apply Grew.alloc | apply Grew.drew | apply Grew.drewN))).mono ?_; rintro e w2 ⟨rfl, R2, n2, rfl⟩)
      go_ret
      exact ⟨by rw [← HRES.out]; rfl, by repeat (first | with_reducible exact Grew.refl _ | apply Grew.more | apply Grew.alloc | apply Grew.drew | apply Grew.drewN)⟩
    · go_wp2_with (go_at_call 16; refine (HBq.out _ (by repeat (first | with_reducible exact Grew.refl _ | apply Grew.more | apply Grew.alloc | apply Grew.drew | apply Grew.drewN))).mono ?_; rintro e w2 ⟨rfl, R2, n2, rfl⟩)
      clear q0 q1 p6
      go_loopg [4] lt.length (fun gg s4 wr => ∃ j : Nat, j ≤ lt.length ∧ lt.length - j ≤ gg ∧ Hid (Grew (w.alloc (.cells #[.int .i64 k, .int .i64 a, .int .i64 b, .slice ra recs.length rc, .string ⟨plan.toArray⟩, .slice ka keep.length kc, .int .i64 ct] 27)) wr) ∧ Hid (wr.heap[(w.heap.size + 1 + R6.size + R2.size + 1)]? = some (.stringIter ⟨lt.toArray⟩ j)) ∧ Hid (OwnAt (w.alloc (.cells #[.int .i64 k, .int .i64 a, .int .i64 b, .slice ra recs.length rc, .string ⟨plan.toArray⟩, .slice ka keep.length kc, .int .i64 ct] 27)).heap.size 9 1 encS wr s4 (nm :: wf (lt.take j))))
      case atStart =>
        refine ⟨0, by omega, by omega, Lib.hid (Grew.alloc (by repeat (first | with_reducible exact Grew.refl _ | apply Grew.more | apply Grew.alloc | apply Grew.drew | apply Grew.drewN)) _), Lib.hid (heap_new_at _ _ _ (by simp [go_sem])), Lib.hid ?_⟩
        rw [HF.out]
        exact OwnAt.grew (OwnAt.fresh (base := (w.alloc (.cells #[.int .i64 k, .int .i64 a, .int .i64 b, .slice ra recs.length rc, .string ⟨plan.toArray⟩, .slice ka keep.length kc, .int .i64 ct] 27)).heap.size) (k := 1) (enc := encS) (l := [nm]) (t := 9) rfl rfl rfl (by simp [maxLen]) encS_len (by simp [go_sem]) (by simp [go_sem]; omega) rfl) ((Grew.refl _).alloc _)
      case round =>
        obtain ⟨j, hj, hgg, HG, HI, HO⟩ := hrel
        have hln : (wf (lt.take j)).length ≤ 2 := by
          rw [HF.out]
          refine Nat.le_trans (List.length_filter_le _ _) ?_
          rw [List.length_map, List.length_take]
          have := HL2.out
          omega
        obtain ⟨R8, N8, rfl⟩ := HG.out
        by_cases hlt : j < lt.length
        · have hc : lt[j] ∈ lt := List.getElem_mem hlt
          have hnx := fun ty => Lib.run_next_ascii_at (P := Tryz.prog) _ (w.heap.size + 1 + R6.size + R2.size + 1) ⟨lt.toArray⟩ j ty HI.out hlt (HAS.out _ hc)
          obtain ⟨R9, N9, e9⟩ := grew_iter HG.out (k := (w.heap.size + 1 + R6.size + R2.size + 1)) (by simp [go_sem]; omega) ⟨lt.toArray⟩ (j + 1)
          have hi9 := Lib.iterAt_heap _ (w.heap.size + 1 + R6.size + R2.size + 1) ⟨lt.toArray⟩ j (j + 1) HI.out
          have ho9 := own_iter (p2 := j + 1) HO.out HI.out
          rw [e9] at hnx hi9 ho9
          have hnx2 : ∀ ty, (Instr.next (.pointer (some ⟨(w.heap.size + 1 + R6.size + R2.size + 1), 0, none⟩)) true ty).run Tryz.prog ((w.alloc (.cells #[.int .i64 k, .int .i64 a, .int .i64 b, .slice ra recs.length rc, .string ⟨plan.toArray⟩, .slice ka keep.length kc, .int .i64 ct] 27)).more R8 N8) = .ok (.tuple #[.bool true, .int .i64 j, .int .i32 (lt[j].toNat : Int)]) ((w.alloc (.cells #[.int .i64 k, .int .i64 a, .int .i64 b, .slice ra recs.length rc, .string ⟨plan.toArray⟩, .slice ka keep.length kc, .int .i64 ct] 27)).more R9 N9) := hnx
          have HI9 := Lib.hid hi9
          have HO9 := Lib.hid ho9
          have HWC := Lib.hid fun W (g : Grew w W) => HWq.out trivial W g _ hc
          have HT : Hid (wf (lt.take (j + 1)) = wf (lt.take j) ++ (if (wl (lt[j].toNat : Int)).isEmpty then [] else [wl (lt[j].toNat : Int)])) := Lib.hid (by
            rw [HF.out, HF.out, List.take_succ_eq_append_getElem hlt, List.map_append, List.filter_append]
            simp only [List.map_cons, List.map_nil, List.filter_cons, List.filter_nil]
            cases (wl (lt[j].toNat : Int)).isEmpty <;> rfl)
          clear hnx hi9 ho9 e9 HG HI HO hc
          generalize (lt[j].toNat : Int) = c at *
          generalize wf (lt.take j) = xs at *
          generalize wl c = x at *
          have hms : lt.length - (j + 1) < lt.length - j := Nat.sub_lt_sub_left hlt (Nat.lt_succ_self j)
          cases x with
          | nil =>
            have HT2 : Hid (wf (lt.take (j + 1)) = xs) := Lib.hid (by rw [HT.out]; simp)
            go_wp2_with (go_at_call 17; refine (HWC.out _ (by repeat (first | with_reducible exact Grew.refl _ | apply Grew.more | apply Grew.alloc | apply Grew.drew | apply Grew.drewN))).mono ?_; rintro e w2 ⟨rfl, R3, n3, rfl⟩)
            go_roundg (lt.length - (j + 1))
            case measure => exact Nat.lt_of_lt_of_le hms hgg
            case rel => exact ⟨j + 1, hlt, Nat.le_refl _, Lib.hid (by repeat (first | with_reducible exact Grew.refl _ | apply Grew.more | apply Grew.alloc | apply Grew.drew | apply Grew.drewN)), Lib.hid (iter_kept (by repeat (first | with_reducible exact Grew.refl _ | apply Grew.more | apply Grew.alloc | apply Grew.drew | apply Grew.drewN)) HI9.out), Lib.hid (by rw [HT2.out]; exact OwnAt.grew HO9.out (by repeat (first | with_reducible exact Grew.refl _ | apply Grew.more | apply Grew.alloc | apply Grew.drew | apply Grew.drewN)))⟩
          | cons x0 xt =>
            have HT2 : Hid (wf (lt.take (j + 1)) = xs ++ [x0 :: xt]) := Lib.hid (by rw [HT.out]; simp)
            go_wp2_with (first
              | (go_at_call 17; refine (HWC.out _ (by repeat (first | with_reducible exact Grew.refl _ | apply Grew.more | apply Grew.alloc | apply Grew.drew | apply Grew.drewN))).mono ?_; rintro e w2 ⟨rfl, R3, n3, rfl⟩)
              | (at_builtin; go_loud (refine wpList_ownK (w0 := (w.alloc (.cells #[.int .i64 k, .int .i64 a, .int .i64 b, .slice ra recs.length rc, .string ⟨plan.toArray⟩, .slice ka keep.length kc, .int .i64 ct] 27))) rfl (.tmp 40) (.tmp 42) 56 _ _ _ _ [x0 :: xt] rfl Tryz.underlying56 infoStr rfl (by decide) encS_len encS_one rfl (OwnAt.grew HO9.out (by repeat (first | with_reducible exact Grew.refl _ | apply Grew.more | apply Grew.alloc | apply Grew.drew | apply Grew.drewN))) (by repeat (first | with_reducible exact Grew.refl _ | apply Grew.more | apply Grew.alloc | apply Grew.drew | apply Grew.drewN)) rfl (str_at _ _ _ _ _ rfl rfl (by simp [go_sem])) (by simp; omega) (by decide) (by simp) ?_); intro v7 W7 hA; (have HI7 := Lib.hid (iter_app (OwnAt.grew HO9.out (by repeat (first | with_reducible exact Grew.refl _ | apply Grew.more | apply Grew.alloc | apply Grew.drew | apply Grew.drewN))) hA (iter_kept (by repeat (first | with_reducible exact Grew.refl _ | apply Grew.more | apply Grew.alloc | apply Grew.drew | apply Grew.drewN)) HI9.out))); (have HA7 := Lib.hid hA); clear hA))
            go_roundg (lt.length - (j + 1))
            case measure => exact Nat.lt_of_lt_of_le hms hgg
            case rel => exact ⟨j + 1, hlt, Nat.le_refl _, Lib.hid HA7.out.1, Lib.hid HI7.out, Lib.hid (by rw [HT2.out]; exact HA7.out.2.1)⟩
        · obtain rfl : j = lt.length := by omega
          have hnx : ∀ ty, (Instr.next (.pointer (some ⟨(w.heap.size + 1 + R6.size + R2.size + 1), 0, none⟩)) true ty).run Tryz.prog ((w.alloc (.cells #[.int .i64 k, .int .i64 a, .int .i64 b, .slice ra recs.length rc, .string ⟨plan.toArray⟩, .slice ka keep.length kc, .int .i64 ct] 27)).more R8 N8) = .ok (.tuple #[.bool false]) ((w.alloc (.cells #[.int .i64 k, .int .i64 a, .int .i64 b, .slice ra recs.length rc, .string ⟨plan.toArray⟩, .slice ka keep.length kc, .int .i64 ct] 27)).more R8 N8) := fun ty => Lib.run_next_end_at (P := Tryz.prog) _ (w.heap.size + 1 + R6.size + R2.size + 1) ⟨lt.toArray⟩ lt.length ty HI.out (Nat.lt_irrefl _)
          have ho := HO.out
          rw [List.take_length] at ho hln
          have HO2 := Lib.hid ho
          have hlm : (nm :: wf lt).length ≤ 1000 := by rw [List.length_cons]; omega
          clear ho HO HI HG
          go_wp2_with (go_at_call 18; refine (join_any _ (nm :: wf lt) [32] _ _ (HO2.out.grew (by repeat (first | with_reducible exact Grew.refl _ | apply Grew.more | apply Grew.alloc | apply Grew.drew | apply Grew.drewN))) hlm (HJ.out trivial)).mono ?_; rintro e w1 ⟨rfl, R3, n3, rfl⟩)
          go_ret
          exact ⟨by rw [← HRES.out]; rfl, by repeat (first | with_reducible exact Grew.refl _ | apply Grew.more | apply Grew.alloc | apply Grew.drew | apply Grew.drewN)⟩
end Go.Proofs.YtlgbipfpnfphjaaGreatDoor

/-! lines: right records, and which letters the verbs have, in plain words. -/
namespace Go.Proofs.YtlgbipfpnfphjaaGreatDoor
set_option linter.unusedSimpArgs false
set_option linter.unusedVariables false
open Go.RowKit Ga
set_option maxRecDepth 100000

theorem okRq_iff (r : Rq) : okRq r = true ↔ Li.okRec r := by
  obtain ⟨k, x, y⟩ := r
  unfold okRq thereB rightV Li.okRec
  simp only [Bool.and_eq_true, decide_eq_true_eq]
  have hx := into_range x
  have hy := into_range y
  constructor
  · rintro ⟨⟨⟨-, h1⟩, h2⟩, h3, h4⟩
    exact ⟨⟨by omega, by omega⟩, ⟨by omega, by omega⟩, ⟨by omega, by omega⟩⟩
  · rintro ⟨h1, h2, h3⟩
    have e1 := into_id h2
    have e2 := into_id h3
    refine ⟨⟨⟨⟨by omega, by omega⟩, by omega⟩, by omega⟩, by omega, by omega⟩
theorem allRq_iff (l : List Rq) : l.all okRq = true ↔ ∀ r ∈ l, Li.okRec r := by
  rw [List.all_eq_true]
  exact ⟨fun h r hr => (okRq_iff r).1 (h r hr), fun h r hr => (okRq_iff r).2 (h r hr)⟩
theorem has_k {k : Nat} (h : 1 ≤ k ∧ k ≤ 13) : hasB (lettersN k) 65 = decide (Li.hasA1 (k : Int) ∨ (k : Int) = 8) ∧ hasB (lettersN k) 66 = decide ((k : Int) = 8) ∧ hasB (lettersN k) 67 = decide ((k : Int) = 11) ∧ hasB (lettersN k) 82 = decide ((k : Int) = 1) ∧ hasB (lettersN k) 80 = decide ((k : Int) = 2) := by
  rcases (show k = 1 ∨ k = 2 ∨ k = 3 ∨ k = 4 ∨ k = 5 ∨ k = 6 ∨ k = 7 ∨ k = 8 ∨ k = 9 ∨ k = 10 ∨ k = 11 ∨ k = 12 ∨ k = 13 by omega) with rfl | rfl | rfl | rfl | rfl | rfl | rfl | rfl | rfl | rfl | rfl | rfl | rfl <;> decide +kernel
theorem has_mem {k : Nat} (h : 1 ≤ k ∧ k ≤ 13) : (hasB (lettersN k) 65, hasB (lettersN k) 66, hasB (lettersN k) 67, hasB (lettersN k) 82, hasB (lettersN k) 80) ∈ [(false, false, false, true, false), (false, false, false, false, true), (false, false, false, false, false), (true, false, false, false, false), (true, true, false, false, false), (false, false, true, false, false)] := by
  rcases (show k = 1 ∨ k = 2 ∨ k = 3 ∨ k = 4 ∨ k = 5 ∨ k = 6 ∨ k = 7 ∨ k = 8 ∨ k = 9 ∨ k = 10 ∨ k = 11 ∨ k = 12 ∨ k = 13 by omega) with rfl | rfl | rfl | rfl | rfl | rfl | rfl | rfl | rfl | rfl | rfl | rfl | rfl <;> decide +kernel
theorem letters_ok {k : Nat} (h : 1 ≤ k ∧ k ≤ 13) : (lettersN k).length ≤ 2 ∧ ∀ c ∈ lettersN k, c.toNat < 128 ∧ (c.toNat = 65 ∨ c.toNat = 66 ∨ c.toNat = 82 ∨ c.toNat = 80 ∨ c.toNat = 75 ∨ c.toNat = 67) := by
  rcases (show k = 1 ∨ k = 2 ∨ k = 3 ∨ k = 4 ∨ k = 5 ∨ k = 6 ∨ k = 7 ∨ k = 8 ∨ k = 9 ∨ k = 10 ∨ k = 11 ∨ k = 12 ∨ k = 13 by omega) with rfl | rfl | rfl | rfl | rfl | rfl | rfl | rfl | rfl | rfl | rfl | rfl | rfl <;> decide +kernel
end Go.Proofs.YtlgbipfpnfphjaaGreatDoor

/-! forebayref27: Records, Bits; forebaylaw27: line's closure, same. -/
namespace Go.Proofs.YtlgbipfpnfphjaaGreatDoor
set_option linter.unusedSimpArgs false
set_option linter.unusedVariables false
open Go.RowKit Ga
set_option maxRecDepth 100000

end Go.Proofs.YtlgbipfpnfphjaaGreatDoor

/-! Events and crashes' plans as arguments. -/
namespace Go.Proofs.YtlgbipfpnfphjaaGreatDoor
set_option linter.unusedSimpArgs false
set_option maxRecDepth 100000
set_option linter.unusedVariables false
open Go.RowKit Ga Go.ChangeShapes Go.WideShapes

theorem cells_planE : Tryz.prog.cellsOf 25 = 2 := by kernel_rfl
theorem cells_slBool : Tryz.prog.cellsOf 23 = 1 := by kernel_rfl
theorem opens_planE : Opens Tryz.prog 25 (fun w cs (x : Value × List Bool × Int) => cs = [x.1, Value.int .i64 x.2.2] ∧ BoolsAt w x.1 x.2.1) := by
  intro H enc w fuel cs x hx
  obtain ⟨hl, hf⟩ := Opens.fields Tryz.underlying25 hx
  rw [cells_planE] at hl
  match cs, hl with
  | [c0, c1], _ =>
    obtain ⟨n0, y0, h0⟩ := hf 0 _ rfl
    obtain ⟨n1, y1, h1⟩ := hf 1 _ rfl
    have h0' : DataW.trod enc Tryz.prog w 0 (fun _ => true) true n0 23 (([c0, c1].drop 0).take (Tryz.prog.cellsOf 23)) = some y0 := h0
    rw [cells_slBool] at h0'
    have h1' : DataW.trod enc Tryz.prog w 0 (fun _ => true) true n1 3 (([c0, c1].drop 1).take (Tryz.prog.cellsOf 3)) = some y1 := h1
    rw [cells_int1] at h1'
    obtain ⟨l0, v0, e0, s0⟩ := Opens.slice Tryz.underlying23 cells_bool1 (by decide) opens_bool1 H enc w n0 _ _ h0'
    obtain ⟨i1, e1, -⟩ := opens_int1 H enc w n1 _ _ h1'
    have r0 := (SlAt.rowsC (enc := encBo) s0).1
    simp at e0 e1
    subst e0 e1
    exact ⟨(c0, l0, i1), rfl, r0⟩
theorem arg_planE {H : Type} {enc : TypeId × Value → H} {w : World} {v : Value} {d : DataW H} {ps : List MemPlace} {r : Reach} {b : Nat} (ho : Value.okWide Tryz.prog w r b 25 v) (h : DataW.Trod enc Tryz.prog w 0 (fun _ => true) true 25 v d ps) : ∃ (kv : Value) (l : List Bool) (ct : Int), v = .agg #[kv, .int .i64 ct] ∧ BoolsAt w kv l := by
  obtain ⟨⟨kv, l, ct⟩, h1, h2⟩ := opens_planE.arg h
  exact ⟨kv, l, ct, cells_agg Tryz.underlying25 ho h1, h2⟩
end Go.Proofs.YtlgbipfpnfphjaaGreatDoor

/-! What the listed variables of layer 27 give the readers of events. -/
namespace Go.Proofs.YtlgbipfpnfphjaaGreatDoor
set_option linter.unusedSimpArgs false
set_option linter.unusedVariables false
open Go.RowKit Go.Lib
set_option maxRecDepth 100000

theorem envEv_of {W : World} (h : laidMet Tryz.prog Rows.linesEventsRow.laid W) (hs : W.ShapedOpen Tryz.prog) : EnvEv W :=
  ⟨env27_of h hs, utf8_of h (.tail _ (.tail _ (.tail _ (.tail _ (.tail _ (.tail _ (.tail _ (.tail _ (.head _))))))))) (.tail _ (.tail _ (.tail _ (.head _))))⟩
end Go.Proofs.YtlgbipfpnfphjaaGreatDoor
