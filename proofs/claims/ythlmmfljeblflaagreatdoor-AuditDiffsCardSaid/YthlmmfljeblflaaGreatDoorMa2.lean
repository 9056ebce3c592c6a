import Derived.Test.YthlmmfljeblflaaGreatDoorMa0
/-! AuditDiffs, cut: the numbers are put in place. -/
namespace Go.Proofs.YthlmmfljeblflaaGreatDoor
set_option linter.unusedSimpArgs false
set_option linter.unusedVariables false
open Go.RowKit Ga
set_option maxRecDepth 100000

theorem rowsEmpty28 {k : Nat} (w : World) (a : Option Addr) (c : Nat) : RowsAt k encN w (.slice a 0 c) ([] : List Int) := ⟨a, c, rfl, by simp [maxLen], fun h => absurd rfl h⟩
theorem rowsNone28 {α : Type} {k : Nat} {enc : α → List Value} (w : World) : RowsAt k enc w (.slice none 0 0) ([] : List α) := ⟨none, 0, rfl, by simp [maxLen], fun h => absurd rfl h⟩
theorem rows_drop {w : World} {b n cap : Nat} {l : List Int} {j : Nat} (h : RowsAt 1 encN w (.slice (some ⟨b, 0, none⟩) n cap) l) (hn : n = l.length) (hj : j ≤ l.length) (c2 m off : Nat) (hm : m = l.length - j) (ho : off = j) : RowsAt 1 encN w (.slice (some ⟨b, off, none⟩) m c2) (l.drop j) := by
  subst hn hm ho
  obtain ⟨a, cap', e, hmx, hx⟩ := h
  cases e
  refine ⟨_, _, by rw [List.length_drop], by rw [List.length_drop]; omega, fun hne => ?_⟩
  obtain ⟨b', off', e, hc⟩ := hx (by intro e; subst e; simp at hne)
  cases e
  refine ⟨_, _, rfl, fun i x hi q v hv => ?_⟩
  rw [List.getElem?_drop] at hi
  have := hc (off + i) x hi q v hv
  rw [← this]
  congr 2
  simp
  try omega
set_option maxHeartbeats 32000000 in
theorem ad_p3b (w0 W : World) (x y : Nat) (c d : MfC) (ma mb : Gr.Mf) (Q : Exit → Act → World → Prop) (K : Act → World → Prop) (a0 : Act) (l : List NdC) (a9 : Option Addr) (c9 n1 : Nat) (n2 : Int)
    (h0 : Pre28 w0 x y c d a0 W) (hm : MfIs w0 c ma) (hm2 : MfIs w0 d mb) (h7 : a0.tmps.getD 7 undef = .slice none 0 0) (h8 : a0.tmps.getD 8 undef = .slice none 0 0) (h60 : a0.tmps.getD 60 undef = .slice a9 n1 c9) (h61 : a0.tmps.getD 61 undef = .int .i64 n2) (h62 : a0.tmps.getD 62 undef = .int .i64 0) (hn1 : n1 = l.length) (hn2 : n2 = (l.length : Int)) (hr : RowsAt 13 encNd W (.slice a9 l.length c9) l) (hl : l.length ≤ 200)
    (hret : ∀ a' w', Ret28 w0 a' w' → Q .ret a' w')
    (hnext : ∀ a' w' v8, Grew W w' → Pre28 w0 x y c d a' w' → a'.tmps.getD 7 undef = .slice none 0 0 → a'.tmps.getD 8 undef = v8 → OwnAt W.heap.size 3 1 encN w' v8 (insL (l.map (·.id))) → K a' w') :
    Code.wp Tryz.prog (rest28 13) (Exit.then K Q) a0 W := by
  obtain ⟨hfr, h2, h3, hg, hbx, hby⟩ := h0
  obtain ⟨u, hu⟩ : ∃ u : Nat → Value, u = fun i => a0.tmps.getD i undef := ⟨_, rfl⟩
  rw [← hu] at hfr
  have u2 : u 2 = _ := (congrFun hu 2).trans h2
  have u3 : u 3 = _ := (congrFun hu 3).trans h3
  have u7 : u 7 = _ := (congrFun hu 7).trans h7
  have u8 : u 8 = _ := (congrFun hu 8).trans h8
  have u60 : u 60 = _ := (congrFun hu 60).trans h60
  have u61 : u 61 = _ := (congrFun hu 61).trans h61
  have u62 : u 62 = _ := (congrFun hu 62).trans h62
  clear hu h2 h3 h7 h8 h60 h61 h62
  subst hfr
  conv => arg 2; whnf
  unfold frame28
  rw [u2, u3, u7, u8, u60, u61, u62]
  clear u2 u3 u7 u8 u60 u61 u62
  have HG := Lib.hid hg
  have HBX := Lib.hid hbx
  have HBY := Lib.hid hby
  have HM := Lib.hid hm
  have HM2 := Lib.hid hm2
  have HRET := Lib.hid hret
  have HNX := Lib.hid hnext
  clear hg hbx hby hm hm2 hret hnext
  subst hn1 hn2
  have HR := Lib.hid hr
  clear hr
  go_wp2
  go_loopg [8, 62] l.length (fun gg s8 s62 wr => ∃ k : Nat, k ≤ l.length ∧ l.length - k ≤ gg ∧ s62 = .int .i64 k ∧ Hid (Grew W wr) ∧ Hid (OwnAt W.heap.size 3 1 encN wr s8 (insL ((l.map (·.id)).take k))))
  case atStart => exact ⟨0, by omega, by omega, rfl, Lib.hid (by repeat (first | with_reducible exact Grew.refl _ | apply Grew.more | apply Grew.alloc | apply Grew.drew | apply Grew.drewN)), Lib.hid (OwnAt.nil _)⟩
  case round =>
    obtain ⟨k, hk, hgg, rfl, HW, HO⟩ := hrel
    rename World => wa
    by_cases hlt : k < l.length
    · have hsuc := insL_succ (l := l.map (·.id)) (k := k) (by rw [List.length_map]; exact hlt)
      rw [List.getElem_map] at hsuc
      have hrl := insL_len ((l.map (·.id)).take k)
      rw [List.length_take, List.length_map] at hrl
      obtain ⟨a', cap', e, -, hx⟩ := rows13_open (HR.out.grew HW.out)
      cases e
      obtain ⟨bq, off, rfl, hbq, c0, c1, c2, c3, c4, c5, c6, c7, c8, c10, c11, c12, c13⟩ := hx k hlt
      generalize l[k] = z at *
      obtain ⟨i0, i1, i2, i3, i4, i5, i6, i7, i8, i9, i10, i11, i12, i13, i14, i15, i16⟩ := z
      simp only at c0 c1 c2 c3 c4 c5 c6 c7 c8 c10 c11 c12 c13 hsuc
      have HSUC := Lib.hid hsuc
      generalize insL ((l.map (·.id)).take k) = r at *
      have hrm : r.length ≤ 200 := by omega
      clear hx hsuc hrl
      have hform := HO.out.form
      go_upto_region 16 with fail
      have hwb : Grew wa (wa.alloc (.cells #[.int .i64 i0, .int .i64 i1, .slice i2 i3 i4, .slice i5 i6 i7, .int .i64 i8, .int .i64 i9, .int .i64 i10, .int .i64 i11, .int .i64 i12, .int .i64 i13, .int .i64 i14, .int .i64 i15, .int .i64 i16] 41)) := by repeat (first | with_reducible exact Grew.refl _ | apply Grew.more | apply Grew.alloc | apply Grew.drew | apply Grew.drewN)
      have hb10 := heap_new_at wa (.cells #[.int .i64 i0, .int .i64 i1, .slice i2 i3 i4, .slice i5 i6 i7, .int .i64 i8, .int .i64 i9, .int .i64 i10, .int .i64 i11, .int .i64 i12, .int .i64 i13, .int .i64 i14, .int .i64 i15, .int .i64 i16] 41) _ rfl
      have HW9 := Lib.hid (HW.out.trans hwb)
      have HO9 := Lib.hid (HO.out.grew hwb)
      have HB10 := Lib.hid hb10
      clear hwb hb10 c0 c1 c2 c3 c4 c5 c6 c7 c8 c10 c11 c12 c13 hbq
      generalize wa.alloc (.cells #[.int .i64 i0, .int .i64 i1, .slice i2 i3 i4, .slice i5 i6 i7, .int .i64 i8, .int .i64 i9, .int .i64 i10, .int .i64 i11, .int .i64 i12, .int .i64 i13, .int .i64 i14, .int .i64 i15, .int .i64 i16] 41) = wd at *
      generalize wa.heap.size = b10 at *
      clear HW HO
      rcases hform with ⟨rfl, rfl⟩ | ⟨b8, cap8, rfl, hb8, hlc, hcm⟩
      · go_wp2
        go_loopg [11] 0 (fun gg s11 wr => s11 = .int .i64 0 ∧ Hid (Grew wd wr))
        case atStart => exact ⟨rfl, Lib.hid (by repeat (first | with_reducible exact Grew.refl _ | apply Grew.more | apply Grew.alloc | apply Grew.drew | apply Grew.drewN))⟩
        case round =>
          obtain ⟨rfl, HWD⟩ := hrel
          rename World => wb
          have x0 := cell_of (o := 0) (grew_heap HWD.out HB10.out)
          simp at x0
          have px := Pre.mk (heap_lt (grew_heap HWD.out HB10.out))
          have HWB := Lib.hid (HW9.out.trans HWD.out)
          go_upto_region 17 with fail
          go_quiet (fail)
          go_upto_region 19 with fail
          go_quiet (fail)
          go_upto_region 20 with fail
          refine wp_region_noPanic ?_
          go_region_law (first
            | (refine if_wanted (wanted_none rfl) ?_; apply wp_ownL (w0 := W) (base2 := wb.heap.size) (l := ([] : List Int)) (l2 := [i0]) (s := .tmp 96) (x := .tmp 103) (t := 29) (ho := rfl) (ht := Tryz.underlying29) (hinfo := infoI_1) (henc := encN_len) (hone := encN_1) (hz := rfl) (hs := rfl) (hx := rfl) (hk := by decide) (hby := by decide); (case hlen => first | (simp; done) | (simp; omega) | fail "L2"); (case hown => first | exact (OwnAt.nil _) | fail "O2"); (case hg => first | exact HWB.out.trans (by repeat (first | with_reducible exact Grew.refl _ | apply Grew.more | apply Grew.alloc | apply Grew.drew | apply Grew.drewN)) | fail "G2"); (case hown2 => first | exact OwnAt.fresh (l := [i0]) rfl rfl rfl (by simp [maxLen]) encN_len (by simp [go_sem]) (by simp [go_sem]) rfl | fail "O3"); intro v8 W8 hA; (have HA8 := Lib.hid hA); clear hA))
          all_goals
            refine NoPanic.normal ?_
            go_wp2
          all_goals
            go_roundg (l.length - (k + 1))
            case measure => omega
            case rel => exact ⟨k + 1, by omega, by omega, by go_num, Lib.hid HA8.out.1, Lib.hid (by rw [HSUC.out, show insR [] i0 = [] ++ [i0] from rfl]; exact HA8.out.2.1)⟩
      · have HRW := Lib.hid (OwnAt.rows HO9.out encN_len)
        go_wp2
        go_loopg [11] r.length (fun gg s11 wr => ∃ j : Nat, j ≤ r.length ∧ r.length - j ≤ gg ∧ s11 = .int .i64 j ∧ Hid (Grew wd wr) ∧ Hid (∀ i (hi : i < r.length), i < j → r[i] < i0))
        case atStart => exact ⟨0, by omega, by omega, rfl, Lib.hid (by repeat (first | with_reducible exact Grew.refl _ | apply Grew.more | apply Grew.alloc | apply Grew.drew | apply Grew.drewN)), Lib.hid fun i _ h => by omega⟩
        case round =>
          obtain ⟨j, hj, hgg2, rfl, HWD, HLO⟩ := hrel
          rename World => wb
          have x0 := cell_of (o := 0) (grew_heap HWD.out HB10.out)
          simp at x0
          have px := Pre.mk (heap_lt (grew_heap HWD.out HB10.out))
          have HWB := Lib.hid (HW9.out.trans HWD.out)
          by_cases hlt2 : j < r.length
          · obtain ⟨a', cap', e, -, hx⟩ := ints_open (HRW.out.grew HWD.out)
            cases e
            obtain ⟨bq8, off8, e8, hb8', d0⟩ := hx j hlt2
            cases e8
            rw [Nat.zero_add] at d0
            have HJ : Hid (r[j] = r[j]) := Lib.hid rfl
            generalize hq : r[j] = rj at *
            have HQ := Lib.hid hq
            clear hx hq HJ
            by_cases hri : rj < i0
            · go_upto_region 17 with fail
              go_quiet (fail)
              go_wp2
              go_roundg (r.length - (j + 1))
              case measure => omega
              case rel => exact ⟨j + 1, by omega, by omega, by go_num, Lib.hid (HWD.out.trans (by repeat (first | with_reducible exact Grew.refl _ | apply Grew.more | apply Grew.alloc | apply Grew.drew | apply Grew.drewN))), Lib.hid fun i hi h => by
                rcases Nat.lt_or_ge i j with h1 | h1
                · exact HLO.out i hi h1
                · obtain rfl : i = j := by omega
                  rw [HQ.out]
                  exact hri⟩
            · go_upto_region 17 with fail
              go_quiet (fail)
              go_upto_region 19 with fail
              have hje : ((j : Int) == (r.length : Int)) = false := by simp; omega
              by_cases heq : rj = i0
              · have HHAS : Hid (insR r i0 = r) := Lib.hid (insR_has r i0 j (fun i hi h => HLO.out i hi h) (by rw [List.getElem?_eq_getElem hlt2, HQ.out, heq]))
                have hne : (rj != i0) = false := by rw [heq]; simp
                clear heq
                go_quiet (fail)
                go_wp2
                go_roundg (l.length - (k + 1))
                case measure => omega
                case rel => exact ⟨k + 1, by omega, by omega, by go_num, Lib.hid (HWB.out.trans (by repeat (first | with_reducible exact Grew.refl _ | apply Grew.more | apply Grew.alloc | apply Grew.drew | apply Grew.drewN))), Lib.hid (by rw [HSUC.out, HHAS.out]; exact (HO9.out.grew HWD.out).grew (by repeat (first | with_reducible exact Grew.refl _ | apply Grew.more | apply Grew.alloc | apply Grew.drew | apply Grew.drewN)))⟩
              · have HPUT : Hid (insR r i0 = r.take j ++ i0 :: r.drop j) := Lib.hid (insR_put r i0 j hj (fun i hi h => HLO.out i hi h) (fun hk => by rw [HQ.out]; omega))
                have hne : (rj != i0) = true := by rw [bne_iff_ne]; exact heq
                have hjc : (j : Int) ≤ (cap8 : Int) := by omega
                have hjr : (j : Int) ≤ (r.length : Int) := by omega
                have hcj : ¬ (cap8 = j) := by omega
                have HCUT := Lib.hid (OwnAt.cut (HO9.out.grew HWD.out) encN_len hj)
                have HDROP := Lib.hid fun W2 (g : Grew wb W2) => rows_drop ((HRW.out.grew HWD.out).grew g) rfl hj (cap8 - j) (r.length - j) j rfl rfl
                clear heq hri
                go_quiet (fail)
                go_upto_region 20 with fail
                refine wp_region_noPanic ?_
                go_region_law (first
                  | (refine if_wanted (wanted_none rfl) ?_; apply wp_ownR (w0 := wb) (l := [i0]) (l2 := r.drop j) (s := .tmp 99) (x := .tmp 102) (t := 29) (ho := rfl) (ht := Tryz.underlying29) (hinfo := infoI_1) (henc := encN_len) (hone := encN_1) (hz := rfl) (hs := rfl) (hx := rfl) (hk := by decide) (hby := by decide); (case hlen => first | (simp; done) | (simp; omega) | fail "L1"); (case hown => first | exact OwnAt.fresh (l := [i0]) rfl rfl rfl (by simp [maxLen]) encN_len (by simp [go_sem]) (by simp [go_sem]) rfl | fail "O1"); (case hg => first | exact (by repeat (first | with_reducible exact Grew.refl _ | apply Grew.more | apply Grew.alloc | apply Grew.drew | apply Grew.drewN)) | fail "G1"); (case hrows => first | exact HDROP.out _ (by repeat (first | with_reducible exact Grew.refl _ | apply Grew.more | apply Grew.alloc | apply Grew.drew | apply Grew.drewN)) | fail "R1"); (case hnil => first | exact .inr ⟨⟨b8, j, none⟩, cap8 - j, (by rw [List.length_drop]; rfl)⟩ | fail "N1"); intro v7 R7 N7 hA; (have HA7 := Lib.hid hA); clear hA)
                  | (refine if_wanted (wanted_none rfl) ?_; apply wp_ownL (w0 := W) (base2 := wb.heap.size) (l := r.take j) (l2 := i0 :: r.drop j) (s := .tmp 96) (x := .tmp 103) (t := 29) (ho := rfl) (ht := Tryz.underlying29) (hinfo := infoI_1) (henc := encN_len) (hone := encN_1) (hz := rfl) (hs := rfl) (hx := rfl) (hk := by decide) (hby := by decide); (case hlen => first | (simp; done) | (simp; omega) | fail "L2"); (case hown => first | exact ((HCUT.out).grew (by repeat (first | with_reducible exact Grew.refl _ | apply Grew.more | apply Grew.alloc | apply Grew.drew | apply Grew.drewN))) | fail "O2"); (case hg => first | exact HWB.out.trans (by repeat (first | with_reducible exact Grew.refl _ | apply Grew.more | apply Grew.alloc | apply Grew.drew | apply Grew.drewN)) | fail "G2"); (case hown2 => first | exact HA7.out | fail "O3"); intro v8 W8 hA; (have HA8 := Lib.hid hA); clear hA))
                all_goals
                  refine NoPanic.normal ?_
                  go_wp2
                all_goals
                  go_roundg (l.length - (k + 1))
                  case measure => omega
                  case rel => exact ⟨k + 1, by omega, by omega, by go_num, Lib.hid HA8.out.1, Lib.hid (by rw [HSUC.out, HPUT.out]; exact HA8.out.2.1)⟩
          · obtain rfl : j = r.length := by omega
            have HPUT : Hid (insR r i0 = r ++ [i0]) := Lib.hid (by rw [insR_put r i0 r.length (Nat.le_refl _) (fun i hi h => HLO.out i hi h) (fun hk => absurd hk (by omega)), List.take_length, List.drop_length])
            go_upto_region 17 with fail
            go_quiet (fail)
            go_upto_region 19 with fail
            go_quiet (fail)
            go_upto_region 20 with fail
            refine wp_region_noPanic ?_
            go_region_law (first
              | (refine if_wanted (wanted_none rfl) ?_; apply wp_ownR (w0 := wb) (l := [i0]) (l2 := ([] : List Int)) (s := .tmp 99) (x := .tmp 102) (t := 29) (ho := rfl) (ht := Tryz.underlying29) (hinfo := infoI_1) (henc := encN_len) (hone := encN_1) (hz := rfl) (hs := rfl) (hx := rfl) (hk := by decide) (hby := by decide); (case hlen => first | (simp; done) | (simp; omega) | fail "L1"); (case hown => first | exact OwnAt.fresh (l := [i0]) rfl rfl rfl (by simp [maxLen]) encN_len (by simp [go_sem]) (by simp [go_sem]) rfl | fail "O1"); (case hg => first | exact (by repeat (first | with_reducible exact Grew.refl _ | apply Grew.more | apply Grew.alloc | apply Grew.drew | apply Grew.drewN)) | fail "G1"); (case hrows => first | exact rowsEmpty28 _ _ _ | fail "R1"); (case hnil => first | exact (by split <;> exact .inr ⟨_, _, rfl⟩) | fail "N1"); intro v7 R7 N7 hA; (have HA7 := Lib.hid hA); clear hA)
              | (refine if_wanted (wanted_none rfl) ?_; apply wp_ownL (w0 := W) (base2 := wb.heap.size) (l := r) (l2 := [i0]) (s := .tmp 96) (x := .tmp 103) (t := 29) (ho := rfl) (ht := Tryz.underlying29) (hinfo := infoI_1) (henc := encN_len) (hone := encN_1) (hz := rfl) (hs := rfl) (hx := rfl) (hk := by decide) (hby := by decide); (case hlen => first | (simp; done) | (simp; omega) | fail "L2"); (case hown => first | exact ((HO9.out.grew HWD.out).grew (by repeat (first | with_reducible exact Grew.refl _ | apply Grew.more | apply Grew.alloc | apply Grew.drew | apply Grew.drewN))) | fail "O2"); (case hg => first | exact HWB.out.trans (by repeat (first | with_reducible exact Grew.refl _ | apply Grew.more | apply Grew.alloc | apply Grew.drew | apply Grew.drewN)) | fail "G2"); (case hown2 => first | exact HA7.out | fail "O3"); intro v8 W8 hA; (have HA8 := Lib.hid hA); clear hA))
            all_goals
              refine NoPanic.normal ?_
              go_wp2
            all_goals
              go_roundg (l.length - (k + 1))
              case measure => omega
              case rel => exact ⟨k + 1, by omega, by omega, by go_num, Lib.hid HA8.out.1, Lib.hid (by rw [HSUC.out, HPUT.out]; exact HA8.out.2.1)⟩
    · obtain rfl : k = l.length := by omega
      have ho := HO.out
      rw [List.take_of_length_le (by rw [List.length_map]; omega)] at ho
      have HO9 := Lib.hid ho
      clear ho
      go_upto_if 63 with fail
      iterate 3 go_step
      refine HNX.out _ _ _ (HW.out.trans (by repeat (first | with_reducible exact Grew.refl _ | apply Grew.more | apply Grew.alloc | apply Grew.drew | apply Grew.drewN))) ?_ rfl rfl (OwnAt.grew HO9.out (by repeat (first | with_reducible exact Grew.refl _ | apply Grew.more | apply Grew.alloc | apply Grew.drew | apply Grew.drewN)))
      exact ⟨rfl, rfl, rfl, HG.out.trans (HW.out.trans (by repeat (first | with_reducible exact Grew.refl _ | apply Grew.more | apply Grew.alloc | apply Grew.drew | apply Grew.drewN))), HBX.out, HBY.out⟩
end Go.Proofs.YthlmmfljeblflaaGreatDoor

/-! AuditDiffs, cut: the nodes of both, again. -/
namespace Go.Proofs.YthlmmfljeblflaaGreatDoor
set_option linter.unusedSimpArgs false
set_option linter.unusedVariables false
open Go.RowKit Ga
set_option maxRecDepth 100000

set_option maxHeartbeats 32000000 in
theorem ad_p3 (w0 W : World) (x y : Nat) (c d : MfC) (ma mb : Gr.Mf) (Q : Exit → Act → World → Prop) (a0 : Act) (la lb : List NdC)
    (h0 : Pre28 w0 x y c d a0 W) (hm : MfIs w0 c ma) (hm2 : MfIs w0 d mb) (ra : RowsAt 13 encNd w0 (.slice c.ag c.ng c.cg) la) (rb : RowsAt 13 encNd w0 (.slice d.ag d.ng d.cg) lb) (na : NilOr (.slice c.ag c.ng c.cg) la.length) (nb : NilOr (.slice d.ag d.ng d.cg) lb.length) (l1 : la.length ≤ 100) (l2 : lb.length ≤ 100)
    (hret : ∀ a' w', Ret28 w0 a' w' → Q .ret a' w')
    (hnext : ∀ a' w' v8, Grew W w' → Pre28 w0 x y c d a' w' → a'.tmps.getD 7 undef = .slice none 0 0 → a'.tmps.getD 8 undef = v8 → OwnAt W.heap.size 3 1 encN w' v8 (insL ((la ++ lb).map (·.id))) → Code.wp Tryz.prog (tail28 22) Q a' w') :
    Code.wp Tryz.prog (tail28 11) Q a0 W := by
  obtain ⟨hfr, h2, h3, hg, hbx, hby⟩ := h0
  obtain ⟨u, hu⟩ : ∃ u : Nat → Value, u = fun i => a0.tmps.getD i undef := ⟨_, rfl⟩
  rw [← hu] at hfr
  have u2 : u 2 = _ := (congrFun hu 2).trans h2
  have u3 : u 3 = _ := (congrFun hu 3).trans h3
  clear hu h2 h3
  subst hfr
  conv => arg 2; whnf
  unfold frame28
  rw [u2, u3]
  clear u2 u3
  have HG := Lib.hid hg
  have HBX := Lib.hid hbx
  have HBY := Lib.hid hby
  have HM := Lib.hid hm
  have HM2 := Lib.hid hm2
  have HRET := Lib.hid hret
  have HNX := Lib.hid hnext
  clear hg hbx hby hm hm2 hret hnext
  obtain ⟨ep, pl, ao, no, co, ag, ng, cg, ae, ne, ce, ax, nx, cx, ap, np, cp⟩ := c
  obtain ⟨ep2, pl2, ao2, no2, co2, ag2, ng2, cg2, ae2, ne2, ce2, ax2, nx2, cx2, ap2, np2, cp2⟩ := d
  simp only at ra rb na nb
  have x3 := cell_of (o := 3) (W := W) (grew_heap (HG.out) HBX.out)
  have y3 := cell_of (o := 3) (W := W) (grew_heap (HG.out) HBY.out)
  simp [encMf] at x3 y3
  have px := Pre.mk (W := W) (heap_lt (grew_heap (HG.out) HBX.out))
  have py := Pre.mk (W := W) (heap_lt (grew_heap (HG.out) HBY.out))
  have HRA := Lib.hid ra
  have HRB := Lib.hid rb
  have HNA := Lib.hid na
  have HNB := Lib.hid nb
  clear ra rb na nb
  go_upto_region 13 with fail
  refine wp_region_noPanic ?_
  go_region_law (first
    | (refine if_wanted (wanted_none rfl) ?_; apply wp_ownR (w0 := W) (l := ([] : List NdC)) (l2 := la) (s := .tmp 54) (x := .tmp 56) (t := 30) (ho := rfl) (ht := Tryz.underlying30) (hinfo := infoNdA) (henc := encNd_lenA) (hone := encNd_oneA) (hz := rfl) (hs := rfl) (hx := rfl) (hk := by decide) (hby := by decide); (case hlen => first | (simp; done) | (simp; omega) | fail "L1"); (case hown => first | exact OwnAt.lit _ _ (by simp [go_sem]) (by simp [go_sem]) | fail "O1"); (case hg => first | exact (by repeat (first | with_reducible exact Grew.refl _ | apply Grew.more | apply Grew.alloc | apply Grew.drew | apply Grew.drewN)) | fail "G1"); (case hrows => exact HRA.out.grew (HG.out.trans (by repeat (first | with_reducible exact Grew.refl _ | apply Grew.more | apply Grew.alloc | apply Grew.drew | apply Grew.drewN)))); (case hnil => exact HNA.out); intro v7 R7 N7 hA; (have HA7 : Hid (OwnAt W.heap.size 41 13 encNd (W.more R7 N7) v7 la) := Lib.hid hA); clear hA)
    | (refine if_wanted (wanted_none rfl) ?_; apply wp_ownR (w0 := W) (l := la) (l2 := lb) (s := .tmp 57) (x := .tmp 59) (t := 30) (ho := rfl) (ht := Tryz.underlying30) (hinfo := infoNdA) (henc := encNd_lenA) (hone := encNd_oneA) (hz := rfl) (hs := rfl) (hx := rfl) (hk := by decide) (hby := by decide); (case hlen => omega); (case hown => first | exact HA7.out | exact OwnAt.grew HA7.out (by repeat (first | with_reducible exact Grew.refl _ | apply Grew.more | apply Grew.alloc | apply Grew.drew | apply Grew.drewN)) | fail "O2"); (case hg => first | exact (by repeat (first | with_reducible exact Grew.refl _ | apply Grew.more | apply Grew.alloc | apply Grew.drew | apply Grew.drewN)) | fail "G2"); (case hrows => exact HRB.out.grew (HG.out.trans (by repeat (first | with_reducible exact Grew.refl _ | apply Grew.more | apply Grew.alloc | apply Grew.drew | apply Grew.drewN)))); (case hnil => exact HNB.out); intro v8 R8 N8 hA; (have HA8 := Lib.hid hA); obtain ⟨a9, c9, rfl⟩ := (OwnAt.rows hA encNd_lenA).len; clear hA))
  all_goals
    refine NoPanic.normal ?_
    go_upto_block 2 with fail
    refine ad_p3b w0 (W.more R8 N8) x y _ _ ma mb _ _ _ (la ++ lb) a9 c9 (la.length + lb.length) ((la.length : Int) + (lb.length : Int)) ?_ HM.out HM2.out ?_ ?_ ?_ ?_ ?_ ?_ ?_ (OwnAt.rows HA8.out encNd_lenA) (by rw [List.length_append]; omega) HRET.out fun a' w' v8 g' P' h7 h8 ho => ?_
    · exact ⟨rfl, rfl, rfl, HG.out.trans (by repeat (first | with_reducible exact Grew.refl _ | apply Grew.more | apply Grew.alloc | apply Grew.drew | apply Grew.drewN)), HBX.out, HBY.out⟩
    · rfl
    · rfl
    · rfl
    · rfl
    · rfl
    · exact (List.length_append).symm
    · rw [List.length_append]; omega
    go_step
    exact HNX.out a' w' v8 (Grew.trans (by repeat (first | with_reducible exact Grew.refl _ | apply Grew.more | apply Grew.alloc | apply Grew.drew | apply Grew.drewN)) g') P' h7 h8 (OwnAt.low ho (by rw [World.more_size]; exact Nat.le_add_right _ _))
end Go.Proofs.YthlmmfljeblflaaGreatDoor
