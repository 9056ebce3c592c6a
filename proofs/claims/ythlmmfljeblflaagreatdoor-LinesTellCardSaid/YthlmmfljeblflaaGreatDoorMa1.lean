import Derived.Test.YthlmmfljeblflaaGreatDoorMa0
import Derived.Test.YthlmmfljeblflaaGreatDoorMc38
import Derived.Test.YthlmmfljeblflaaGreatDoorMc41
/-! lines: the document's example, written. -/
namespace Go.Proofs.YthlmmfljeblflaaGreatDoor
set_option linter.unusedSimpArgs false
set_option linter.unusedVariables false
open Go.RowKit Ga
set_option maxRecDepth 100000

theorem num1_ok (x : Int) (h : -1000000 ≤ x ∧ x ≤ 1000000) (w : World) : Calls Tryz.prog 122 #[.int .i64 x] w (Gives (.bool false) w) := by
  obtain ⟨h1, h2⟩ := h
  go_enter Tryz.func122, Tryz.ntmps122
  go_wp2
  rw [decide_eq_false (show ¬ x < -1000000 by omega), decide_eq_false (show ¬ 1000000 < x by omega), Bool.or_self]
  go_ret
  refine ⟨rfl, ?_⟩
  repeat (first | with_reducible exact Grew.refl _ | apply Grew.more | apply Grew.alloc | apply Grew.drew | apply Grew.drewN)
set_option maxHeartbeats 4000000 in
theorem idxL_none (v : Value) (l : List Int) (w : World) (hv : IntsAt w v l) (hl : ∀ x ∈ l, -1000000 ≤ x ∧ x ≤ 1000000) : Calls Tryz.prog 136 #[v, .func (.func 122) #[] #[]] w (Gives (.int .i64 (-1)) w) := by
  have HV := Lib.hid hv
  have HL := Lib.hid hl
  obtain ⟨a, cap, rfl, hm, -⟩ := ints_open hv
  clear hv hl
  go_enter Tryz.func136, Tryz.ntmps136
  go_wp2
  go_loopg [8] l.length (fun gg s8 wr => ∃ k : Nat, k ≤ l.length ∧ l.length - k ≤ gg ∧ s8 = .int .i64 k ∧ Hid (Grew w wr))
  case atStart => exact ⟨0, by omega, by omega, rfl, Lib.hid (by repeat (first | with_reducible exact Grew.refl _ | apply Grew.more | apply Grew.alloc | apply Grew.drew | apply Grew.drewN))⟩
  case round =>
    obtain ⟨k, hk, hgg, rfl, HG⟩ := hrel
    by_cases hlt : k < l.length
    · obtain ⟨a', cap', e, -, hx⟩ := ints_open (HV.out.grew HG.out)
      cases e
      obtain ⟨b, off, rfl, hb, c0⟩ := hx k hlt
      have hxl := HL.out _ (List.getElem_mem hlt)
      clear hx
      generalize l[k] = x at *
      have HC := Lib.hid fun W => num1_ok x hxl W
      clear hxl
      go_wp2_with (go_at_call 122; refine (HC.out _).mono ?_; rintro e w1 ⟨rfl, R1, n1, rfl⟩)
      go_roundg (l.length - (k + 1))
      case measure => omega
      case rel => exact ⟨k + 1, by omega, by omega, by go_num, Lib.hid (HG.out.trans (by repeat (first | with_reducible exact Grew.refl _ | apply Grew.more | apply Grew.alloc | apply Grew.drew | apply Grew.drewN)))⟩
    · obtain rfl : k = l.length := by omega
      go_wp2
      go_ret
      exact ⟨rfl, HG.out⟩
set_option maxHeartbeats 4000000 in
theorem num_ok (v : Value) (l : List Int) (w : World) (hv : IntsAt w v l) (hl : ∀ x ∈ l, -1000000 ≤ x ∧ x ≤ 1000000) : Calls Tryz.prog 83 #[v] w (Gives (.bool true) w) := by
  have HI := Lib.hid fun W (q : Grew w W) => idxL_none v l W (hv.grew q) hl
  have HK : Hid (∀ W, Grew w W → Calls Tryz.prog 99 #[v, .func (.func 122) #[] #[]] W (Gives (.bool false) W)) := Lib.hid fun W q => by
    have HI2 := Lib.hid fun W2 (q2 : Grew W W2) => HI.out W2 (q.trans q2)
    clear HI q hv hl
    go_enter Tryz.func99, Tryz.ntmps99
    go_wp2_with (go_at_call 136; refine (HI2.out _ (by repeat (first | with_reducible exact Grew.refl _ | apply Grew.more | apply Grew.alloc | apply Grew.drew | apply Grew.drewN))).mono ?_; rintro e w1 ⟨rfl, R1, n1, rfl⟩)
    go_ret
    exact ⟨rfl, by repeat (first | with_reducible exact Grew.refl _ | apply Grew.more | apply Grew.alloc | apply Grew.drew | apply Grew.drewN)⟩
  obtain ⟨a, cap, rfl, hm, -⟩ := ints_open hv
  clear HI hv hl
  go_enter Tryz.func83, Tryz.ntmps83
  go_wp2_with (go_at_call 99; refine (HK.out _ (by repeat (first | with_reducible exact Grew.refl _ | apply Grew.more | apply Grew.alloc | apply Grew.drew | apply Grew.drewN))).mono ?_; rintro e w1 ⟨rfl, R1, n1, rfl⟩)
  go_ret
  exact ⟨rfl, by repeat (first | with_reducible exact Grew.refl _ | apply Grew.more | apply Grew.alloc | apply Grew.drew | apply Grew.drewN)⟩
end Go.Proofs.YthlmmfljeblflaaGreatDoor

/-! lines: the document's example, written: a place. -/
namespace Go.Proofs.YthlmmfljeblflaaGreatDoor
set_option linter.unusedSimpArgs false
set_option linter.unusedVariables false
open Go.RowKit Ga
set_option maxRecDepth 100000

theorem ints_two (w : World) (a b : Int) (B : Nat) (hB : B = w.heap.size) : IntsAt (w.alloc (.cells #[.int .i64 a, .int .i64 b] 3)) (.slice (some ⟨B, 0, none⟩) 2 2) [a, b] :=
  OwnAt.rows (OwnAt.fresh (base := w.heap.size) (k := 1) (enc := encN) (l := [a, b]) (t := 3) rfl rfl rfl (by simp [maxLen]) encN_len hB (by omega) rfl) encN_len
/-- N2's route, in digits -/
theorem rtxt0 : rtxt [0, 0, 0, 0, 0, 0, 0, 0] = [48, 48, 48, 48, 48, 48, 48, 48] := rfl
theorem routeText0 (w : World) : Calls Tryz.prog 84 #[.agg #[.int .i64 0, .int .i64 0, .int .i64 0, .int .i64 0, .int .i64 0, .int .i64 0, .int .i64 0, .int .i64 0]] w (Gives (.string ⟨#[48, 48, 48, 48, 48, 48, 48, 48]⟩) w) := routeText_any 0 0 0 0 0 0 0 0 w rfl
set_option maxHeartbeats 8000000 in
theorem fits0 (af ap : Option Addr) (cf cp : Nat) (w : World) (hf : IntsAt w (.slice af 1 cf) [0]) : Calls Tryz.prog 48 #[.agg #[.int .i64 2, .int .i64 2, .slice af 1 cf, .slice ap 0 cp, .int .i64 1, .int .i64 0, .int .i64 0, .int .i64 0, .int .i64 0, .int .i64 0, .int .i64 0, .int .i64 0, .int .i64 0]] w (Gives (.bool true) w) := by
  have HN1 := Lib.hid fun W (q : Grew w W) => num_ok _ [0] W (hf.grew q) (by decide)
  have HF := Lib.hid fun W => codeFits_any (.slice ap 0 cp) [] W (vals_nil W ap cp)
  rw [show Co.fitsI [] = true from rfl] at HF
  clear hf
  go_enter Tryz.func48, Tryz.ntmps48
  go_wp2_with fail
  refine (num_ok _ [2, 1] _ (ints_two _ 2 1 _ (by simp [go_sem])) (by decide)).mono ?_
  rintro e w1 ⟨rfl, R1, n1, rfl⟩
  go_wp2_with (first
    | (go_at_call 83; refine (HN1.out _ (by repeat (first | with_reducible exact Grew.refl _ | apply Grew.more | apply Grew.alloc | apply Grew.drew | apply Grew.drewN))).mono ?_; rintro e w1 ⟨rfl, R2, n2, rfl⟩)
    | (go_at_call 84; refine (routeText0 _).mono ?_; rintro e w1 ⟨rfl, R3, n3, rfl⟩)
    | (go_at_call 85; refine (HF.out _).mono ?_; rintro e w1 ⟨rfl, R4, n4, rfl⟩))
  go_ret
  exact ⟨rfl, by repeat (first | with_reducible exact Grew.refl _ | apply Grew.more | apply Grew.alloc | apply Grew.drew | apply Grew.drewN)⟩
end Go.Proofs.YthlmmfljeblflaaGreatDoor

/-! lines: the document's example, written: a place. -/
namespace Go.Proofs.YthlmmfljeblflaaGreatDoor
set_option linter.unusedSimpArgs false
set_option linter.unusedVariables false
open Go.RowKit Ga
set_option maxRecDepth 100000

theorem itoa_1 : Lib.itoa 1 = [49] := by decide +kernel
theorem itoa_2 : Lib.itoa 2 = [50] := by decide +kernel
theorem itoa_0 : Lib.itoa 0 = [48] := by decide +kernel
set_option maxHeartbeats 8000000 in
theorem place0 (af ap : Option Addr) (cf cp : Nat) (w : World) (hP : Pow w) : Calls Tryz.prog 53 #[.agg #[.int .i64 2, .int .i64 2, .slice af 1 cf, .slice ap 0 cp, .int .i64 1, .int .i64 0, .int .i64 0, .int .i64 0, .int .i64 0, .int .i64 0, .int .i64 0, .int .i64 0, .int .i64 0]] w (Gives (.string ⟨#[49, 32, 48, 48, 48, 48, 48, 48, 48, 48]⟩) w) := by
  have HI := Lib.hid fun W (q : Grew w W) => itoa_any 1 (by decide) W (hP.grew q)
  rw [itoa_1] at HI
  clear hP
  go_enter Tryz.func53, Tryz.ntmps53
  go_wp2_with fail
  refine wp_region_seq 9 Tryz.mixed (by kernel_rfl) (by kernel_rfl) ?_
  iterate 2
    apply Seq.val
    focus
      rintro w1 u ⟨R1, n1, rfl⟩ hF
      simp [moreFacts, Fact.more, Oper.deps, Region.binds, List.filter_cons, World.more_drew] at hF
      simp [putFacts, Oper.deps, Region.binds, List.filter_cons, Region.dstOf, Fact.at, Act.put, World.more_drew]
      go_wp2
      exact ⟨by repeat (first | with_reducible exact Grew.refl _ | apply Grew.more | apply Grew.alloc | apply Grew.drew | apply Grew.drewN), rfl, _, _, rfl, rfl, rfl⟩
  apply Seq.val
  focus
    rintro w1 u ⟨R1, n1, rfl⟩ hF
    simp [moreFacts, Fact.more, Oper.deps, Region.binds, List.filter_cons, World.more_drew] at hF
    simp [putFacts, Oper.deps, Region.binds, List.filter_cons, Region.dstOf, Fact.at, Act.put, World.more_drew]
    go_wp2_with (first
      | (go_at_call 16; refine (HI.out _ (by repeat (first | with_reducible exact Grew.refl _ | apply Grew.more | apply Grew.alloc | apply Grew.drew | apply Grew.drewN))).mono ?_; rintro e w1 ⟨rfl, R1, n1, rfl⟩)
      )
    exact ⟨by repeat (first | with_reducible exact Grew.refl _ | apply Grew.more | apply Grew.alloc | apply Grew.drew | apply Grew.drewN), rfl, _, _, rfl, rfl, rfl⟩
  iterate 3
    apply Seq.val
    focus
      rintro w1 u ⟨R1, n1, rfl⟩ hF
      simp [moreFacts, Fact.more, Oper.deps, Region.binds, List.filter_cons, World.more_drew] at hF
      simp [putFacts, Oper.deps, Region.binds, List.filter_cons, Region.dstOf, Fact.at, Act.put, World.more_drew]
      go_wp2
      exact ⟨by repeat (first | with_reducible exact Grew.refl _ | apply Grew.more | apply Grew.alloc | apply Grew.drew | apply Grew.drewN), rfl, _, _, rfl, rfl, rfl⟩
  apply Seq.val
  focus
    rintro w1 u ⟨R1, n1, rfl⟩ hF
    simp [moreFacts, Fact.more, Oper.deps, Region.binds, List.filter_cons, World.more_drew] at hF
    simp [putFacts, Oper.deps, Region.binds, List.filter_cons, Region.dstOf, Fact.at, Act.put, World.more_drew]
    go_wp2_with (first
      | (go_at_call 84; refine (routeText0 _).mono ?_; rintro e w1 ⟨rfl, R3, n3, rfl⟩)
      )
    exact ⟨by repeat (first | with_reducible exact Grew.refl _ | apply Grew.more | apply Grew.alloc | apply Grew.drew | apply Grew.drewN), rfl, _, _, rfl, rfl, rfl⟩
  iterate 2
    apply Seq.val
    focus
      rintro w1 u ⟨R1, n1, rfl⟩ hF
      simp [moreFacts, Fact.more, Oper.deps, Region.binds, List.filter_cons, World.more_drew] at hF
      simp [putFacts, Oper.deps, Region.binds, List.filter_cons, Region.dstOf, Fact.at, Act.put, World.more_drew]
      go_wp2
      exact ⟨by repeat (first | with_reducible exact Grew.refl _ | apply Grew.more | apply Grew.alloc | apply Grew.drew | apply Grew.drewN), rfl, _, _, rfl, rfl, rfl⟩
  rintro u w1 ⟨R1, n1, rfl⟩ hF
  clear hF
  simp [putFacts, Region.dstOf, Fact.at, Act.put, List.range_succ, World.more_drew]
  go_wp2
  go_ret
  exact ⟨rfl, by repeat (first | with_reducible exact Grew.refl _ | apply Grew.more | apply Grew.alloc | apply Grew.drew | apply Grew.drewN)⟩
end Go.Proofs.YthlmmfljeblflaaGreatDoor

/-! lines: the document's example, written: a node. -/
namespace Go.Proofs.YthlmmfljeblflaaGreatDoor
set_option linter.unusedSimpArgs false
set_option linter.unusedVariables false
open Go.RowKit Ga
set_option maxRecDepth 100000

theorem str_at (W : World) (x : List UInt8) (y : ByteArray) (t : TypeId) (b : Nat) {c : Array Value} (hy : y = ⟨x.toArray⟩) (hc : c = #[.string y]) (hb : b = W.heap.size) : ∀ j u, (([x] : List (List UInt8)).flatMap encS)[j]? = some u → (W.alloc (.cells c t)).cell? ⟨b, j, none⟩ = some u := by
  subst hc hy
  intro j u hu
  rw [new_cells W _ t b hb j]
  simpa [encS] using hu
set_option maxHeartbeats 8000000 in
theorem list0 (v : Value) (w : World) (hP : Pow w) (hf : IntsAt w v [0]) : Calls Tryz.prog 54 #[v] w (Gives (.string ⟨#[48]⟩) w) := by
  have HI := Lib.hid fun W (q : Grew w W) => itoa_any 0 (by decide) W (hP.grew q)
  rw [itoa_0] at HI
  have HF := Lib.hid hf
  obtain ⟨a, cap, rfl, -, hx⟩ := ints_open hf
  obtain ⟨b, off, rfl, hb, c0⟩ := hx 0 (by decide)
  simp at c0
  have HC0 := Lib.hid c0
  clear hP hf hx c0 hb
  show Calls Tryz.prog _ #[.slice (some ⟨b, off, none⟩) 1 cap] w _
  go_enter Tryz.func54, Tryz.ntmps54
  go_wp2
  go_loopg [3, 11] 1 (fun gg s3 s11 wr => ∃ k : Nat, k ≤ 1 ∧ 1 - k ≤ gg ∧ s11 = .int .i64 k ∧ Hid (Grew w wr) ∧ Hid (OwnAt w.heap.size 9 1 encS wr s3 (List.replicate k [48])))
  case atStart => exact ⟨0, by omega, by omega, rfl, Lib.hid (Grew.refl _), Lib.hid (OwnAt.nil _)⟩
  case round =>
    obtain ⟨k, hk, hgg, rfl, HG, HO⟩ := hrel
    rename World => wa
    by_cases hlt : k < 1
    · obtain rfl : k = 0 := by omega
      have c0 := cell_grew HC0.out HG.out
      have p0 := Pre.ofCell c0
      go_wp2_with (first
        | (go_at_call 16; refine (HI.out _ (HG.out.trans (by repeat (first | with_reducible exact Grew.refl _ | apply Grew.more | apply Grew.alloc | apply Grew.drew | apply Grew.drewN)))).mono ?_; rintro e w1 ⟨rfl, R1, n1, rfl⟩)
        | (at_builtin; go_loud (refine wpList_ownK (w0 := w) rfl (.tmp 15) (.tmp 18) 42 _ _ _ _ [[48]] rfl Tryz.underlying42 infoStr rfl (by decide) encS_len encS_one rfl (OwnAt.grew HO.out (by repeat (first | with_reducible exact Grew.refl _ | apply Grew.more | apply Grew.alloc | apply Grew.drew | apply Grew.drewN))) (HG.out.trans (by repeat (first | with_reducible exact Grew.refl _ | apply Grew.more | apply Grew.alloc | apply Grew.drew | apply Grew.drewN))) rfl (str_at _ _ _ _ _ rfl rfl (by simp [go_sem])) (by simp) (by decide) (by simp) ?_); intro v7 W7 hA; (have HA7 := Lib.hid hA); clear hA))
      go_roundg 0
      case measure => omega
      case rel => exact ⟨1, by omega, by omega, by go_num, Lib.hid HA7.out.1, Lib.hid HA7.out.2.1⟩
    · obtain rfl : k = 1 := by omega
      go_wp2_with (go_at_call 29; refine (join_any _ [[48]] [44] _ _ (HO.out.grew (by repeat (first | with_reducible exact Grew.refl _ | apply Grew.more | apply Grew.alloc | apply Grew.drew | apply Grew.drewN))) (by decide) (by decide)).mono ?_; rintro e w1 ⟨rfl, R3, n3, rfl⟩)
      go_ret
      exact ⟨rfl, HG.out.trans (by repeat (first | with_reducible exact Grew.refl _ | apply Grew.more | apply Grew.alloc | apply Grew.drew | apply Grew.drewN))⟩
set_option maxHeartbeats 8000000 in
theorem nodeText0 (af ap : Option Addr) (cf cp : Nat) (w : World) (hP : Pow w) (hf : IntsAt w (.slice af 1 cf) [0]) : Calls Tryz.prog 49 #[.agg #[.int .i64 2, .int .i64 2, .slice af 1 cf, .slice ap 0 cp, .int .i64 1, .int .i64 0, .int .i64 0, .int .i64 0, .int .i64 0, .int .i64 0, .int .i64 0, .int .i64 0, .int .i64 0]] w (Gives (.string ⟨wsL.toArray⟩) w) := by
  have HI := Lib.hid fun W (q : Grew w W) => itoa_any 2 (by decide) W (hP.grew q)
  rw [itoa_2] at HI
  have HF := Lib.hid fun W (q : Grew w W) => fits0 af ap cf cp W (hf.grew q)
  have HL := Lib.hid fun W (q : Grew w W) => list0 (.slice af 1 cf) W (hP.grew q) (hf.grew q)
  have HPL := Lib.hid fun W (q : Grew w W) => place0 af ap cf cp W (hP.grew q)
  clear hP hf
  go_enter Tryz.func49, Tryz.ntmps49
  go_wp2_with (first
    | (go_at_call 48; refine (HF.out _ (by repeat (first | with_reducible exact Grew.refl _ | apply Grew.more | apply Grew.alloc | apply Grew.drew | apply Grew.drewN))).mono ?_; rintro e w1 ⟨rfl, R1, n1, rfl⟩)
    | (go_at_call 16; refine (HI.out _ (by repeat (first | with_reducible exact Grew.refl _ | apply Grew.more | apply Grew.alloc | apply Grew.drew | apply Grew.drewN))).mono ?_; rintro e w1 ⟨rfl, R2, n2, rfl⟩)
    | fail)
  refine wp_region_seq 11 Tryz.mixed (by kernel_rfl) (by kernel_rfl) ?_
  iterate 4
    apply Seq.val
    focus
      rintro w1 u ⟨R1, n1, rfl⟩ hF
      simp [moreFacts, Fact.more, Oper.deps, Region.binds, List.filter_cons, World.more_drew] at hF
      simp [putFacts, Oper.deps, Region.binds, List.filter_cons, Region.dstOf, Fact.at, Act.put, World.more_drew]
      go_wp2
      exact ⟨by repeat (first | with_reducible exact Grew.refl _ | apply Grew.more | apply Grew.alloc | apply Grew.drew | apply Grew.drewN), rfl, _, _, rfl, rfl, rfl⟩
  apply Seq.val
  focus
    rintro w1 u ⟨R1, n1, rfl⟩ hF
    simp [moreFacts, Fact.more, Oper.deps, Region.binds, List.filter_cons, World.more_drew] at hF
    simp [putFacts, Oper.deps, Region.binds, List.filter_cons, Region.dstOf, Fact.at, Act.put, World.more_drew]
    go_wp2_with (first
      | (go_at_call 54; refine (HL.out _ (by repeat (first | with_reducible exact Grew.refl _ | apply Grew.more | apply Grew.alloc | apply Grew.drew | apply Grew.drewN))).mono ?_; rintro e w1 ⟨rfl, R3, n3, rfl⟩)
      )
    exact ⟨by repeat (first | with_reducible exact Grew.refl _ | apply Grew.more | apply Grew.alloc | apply Grew.drew | apply Grew.drewN), rfl, _, _, rfl, rfl, rfl⟩
  iterate 3
    apply Seq.val
    focus
      rintro w1 u ⟨R1, n1, rfl⟩ hF
      simp [moreFacts, Fact.more, Oper.deps, Region.binds, List.filter_cons, World.more_drew] at hF
      simp [putFacts, Oper.deps, Region.binds, List.filter_cons, Region.dstOf, Fact.at, Act.put, World.more_drew]
      go_wp2
      exact ⟨by repeat (first | with_reducible exact Grew.refl _ | apply Grew.more | apply Grew.alloc | apply Grew.drew | apply Grew.drewN), rfl, _, _, rfl, rfl, rfl⟩
  apply Seq.val
  focus
    rintro w1 u ⟨R1, n1, rfl⟩ hF
    simp [moreFacts, Fact.more, Oper.deps, Region.binds, List.filter_cons, World.more_drew] at hF
    simp [putFacts, Oper.deps, Region.binds, List.filter_cons, Region.dstOf, Fact.at, Act.put, World.more_drew]
    go_wp2_with (first
      | (go_at_call 53; refine (HPL.out _ (by repeat (first | with_reducible exact Grew.refl _ | apply Grew.more | apply Grew.alloc | apply Grew.drew | apply Grew.drewN))).mono ?_; rintro e w1 ⟨rfl, R4, n4, rfl⟩)
      )
    exact ⟨by repeat (first | with_reducible exact Grew.refl _ | apply Grew.more | apply Grew.alloc | apply Grew.drew | apply Grew.drewN), rfl, _, _, rfl, rfl, rfl⟩
  iterate 2
    apply Seq.val
    focus
      rintro w1 u ⟨R1, n1, rfl⟩ hF
      simp [moreFacts, Fact.more, Oper.deps, Region.binds, List.filter_cons, World.more_drew] at hF
      simp [putFacts, Oper.deps, Region.binds, List.filter_cons, Region.dstOf, Fact.at, Act.put, World.more_drew]
      go_wp2
      exact ⟨by repeat (first | with_reducible exact Grew.refl _ | apply Grew.more | apply Grew.alloc | apply Grew.drew | apply Grew.drewN), rfl, _, _, rfl, rfl, rfl⟩
  rintro u w1 ⟨R1, n1, rfl⟩ hF
  clear hF
  simp [putFacts, Region.dstOf, Fact.at, Act.put, List.range_succ, World.more_drew]
  go_wp2
  go_ret
  exact ⟨by first | rfl | decide +kernel, by repeat (first | with_reducible exact Grew.refl _ | apply Grew.more | apply Grew.alloc | apply Grew.drew | apply Grew.drewN)⟩
end Go.Proofs.YthlmmfljeblflaaGreatDoor
