import Derived.Test.YtlgbipfpnfphjaaGreatDoorGb9
import Derived.Test.YtlgbipfpnfphjaaGreatDoorGb10
import Derived.Test.YtlgbipfpnfphjaaGreatDoorGb3
import Derived.Lib.AtoiTie
import Derived.Lib.PathFns
import Derived.Test.YtlgbipfpnfphjaaGreatDoorGb2
import Derived.Test.YtlgbipfpnfphjaaGreatDoorGb4
import Derived.Deep.LoopGhost
import Derived.Deep.DeepCutAuto
import Derived.Deep.QuietTactic
import Derived.BigQuiet
import Derived.Test.YtlgbipfpnfphjaaGreatDoorRows
import Derived.Test.YtlgbipfpnfphjaaGreatDoorGb0
import Derived.Lib.LaidU8T
import Derived.Lib.LaidTab
import Derived.Stop.LaidErr
/-! code.Text. -/
namespace Go.Proofs.YtlgbipfpnfphjaaGreatDoor
set_option linter.unusedSimpArgs false
set_option linter.unusedVariables false
open Go.RowKit Ga
set_option maxRecDepth 100000

theorem str_cat3 (a b c : List UInt8) : (⟨a.toArray⟩ ++ (⟨b.toArray⟩ ++ ⟨c.toArray⟩) : ByteArray) = ⟨(a ++ (b ++ c)).toArray⟩ := by rw [str_cat, str_cat]
theorem words_succ {l : List Val} {k : Nat} (h : k < l.length) : (l.take (k + 1)).map Co.word = (l.take k).map Co.word ++ [Co.word l[k]] := by
  rw [List.take_succ_eq_append_getElem h, List.map_append]; rfl
theorem word_has {x y : Int} (h : Co.hasA x = true) : Co.word (x, y) = Co.nameOf x ++ ([32] ++ Lib.itoa y) := by
  unfold Co.word; simp only; rw [if_pos h]; rfl
theorem word_not {x y : Int} (h : Co.hasA x = false) : Co.word (x, y) = Co.nameOf x := by
  unfold Co.word; simp only; rw [h]; simp

set_option maxHeartbeats 4000000 in
theorem codeText_any (v : Value) (l : List Val) (w : World) (hv : ValsAt w v l) (hp : Pow w) (ha : Asc w) : Calls Tryz.prog 72 #[v] w (Gives (str (Co.textOut l)) w) := by
  obtain ⟨a, cap, rfl, hm, hl⟩ := hv.open2
  have HV := Lib.hid hv
  have HP := Lib.hid hp
  have HA := Lib.hid ha
  clear hv hp ha
  cases hf : Co.fitsI l
  · have ht : Co.textOut l = [] := by unfold Co.textOut; rw [hf]; rfl
    rw [ht]
    clear hl ht
    have HF := Lib.hid hf
    clear hf
    go_enter Tryz.func72, Tryz.ntmps72
    go_wp2_with (go_at_call 116; refine (codeFits_any _ l _ HV.out).mono ?_; rintro e w1 ⟨rfl, R3, n3, rfl⟩; rw [HF.out])
    go_ret
    refine ⟨rfl, ?_⟩
    repeat (first | with_reducible exact Grew.refl _ | apply Grew.more | apply Grew.alloc | apply Grew.drew | apply Grew.drewN)
  · have ht : Co.textOut l = Lib.join (l.map Co.word) [59, 32] := by unfold Co.textOut; rw [hf]; rfl
    obtain ⟨h24, hr⟩ := Co.fits_parts hf
    have htl := Co.textI_len l hr
    have HT := Lib.hid ht
    have HR := Lib.hid hr
    have HF := Lib.hid hf
    have HL := Lib.hid htl
    clear hf ht hr htl
    go_enter Tryz.func72, Tryz.ntmps72
    go_wp2_with (go_at_call 116; refine (codeFits_any _ l _ HV.out).mono ?_; rintro e w1 ⟨rfl, R3, n3, rfl⟩; rw [HF.out])
    go_loopw [3, 15] (fun v3 i wr => ∃ (k : Nat), k ≤ l.length ∧ i = .int .i64 k ∧ OwnAt w.heap.size 9 1 encS wr v3 ((l.take k).map Co.word) ∧ Grew w wr) (fun _ i _ => l.length - (intOf i).toNat)
    case atStart => exact ⟨0, Nat.zero_le _, rfl, OwnAt.nil _, by repeat (first | with_reducible exact Grew.refl _ | apply Grew.more | apply Grew.alloc | apply Grew.drew | apply Grew.drewN)⟩
    case round =>
      obtain ⟨k, hk, rfl, hown, R, n, rfl⟩ := hrel
      by_cases hlt : k < l.length
      · obtain ⟨b, off, rfl, hb, hx, hy⟩ := hl k hlt
        have hws := words_succ hlt
        have hri := HR.out l[k] (List.getElem_mem hlt)
        generalize l[k] = xy at *
        obtain ⟨x, y⟩ := xy
        obtain ⟨x0, x1, _, _⟩ := Co.right_parts hri
        have hya := Co.right_arg hri
        simp only at hx hy x0 x1 hya
        have HO := Lib.hid hown
        have HW := Lib.hid hws
        clear hl hws hown hri
        obtain ⟨m, rfl⟩ : ∃ m : Nat, x = m := ⟨x.toNat, by omega⟩
        have hm18 : m < 18 := by omega
        have hn5 : (Co.namesL.getD m []).length ≤ 5 := by
          have key : ∀ n < 18, (Co.namesL.getD n []).length ≤ 5 := by decide
          exact key m hm18
        have hi7 := Tx.itoa_len6 y (by omega)
        have hnm : Co.nameOf (m : Int) = Co.namesL.getD m [] := by unfold Co.nameOf; rw [Int.toNat_natCast]
        generalize hN : Co.namesL.getD m [] = nm at hn5 hnm
        have HN := Lib.hid hN
        have HM := Lib.hid hnm
        clear hN hnm
        cases hh : Co.hasA (m : Int)
        all_goals
          have HH := Lib.hid hh
          clear hh
          go_wp2_with fail
          refine wp_region_seq 6 Tryz.mixed (by kernel_rfl) (by kernel_rfl) ?_
          apply Seq.of NamesAt NamesAt.st
          focus
            rintro w1 u ⟨R1, n1, rfl⟩ hF
            simp [moreFacts, Fact.more, Oper.deps, Region.binds, List.filter_cons, World.more_drew] at hF
            simp [putFacts, Oper.deps, Region.binds, List.filter_cons, Region.dstOf, Fact.at, Act.put, World.more_drew]
            go_wp2_with (first
              | (go_at_call 117; refine (names_any _ (HA.out.grew (by repeat (first | with_reducible exact Grew.refl _ | apply Grew.more | apply Grew.alloc | apply Grew.drew | apply Grew.drewN)))).mono ?_; rintro e w1 ⟨v2, rfl, hv2, R2, n2, rfl⟩)
              )
            exact ⟨by repeat (first | with_reducible exact Grew.refl _ | apply Grew.more | apply Grew.alloc | apply Grew.drew | apply Grew.drewN), rfl, _, _, rfl, rfl, hv2⟩
          iterate 2
            apply Seq.val
            focus
              rintro w1 u ⟨R1, n1, rfl⟩ hF
              simp [moreFacts, Fact.more, Oper.deps, Region.binds, List.filter_cons, World.more_drew] at hF
              simp [putFacts, Oper.deps, Region.binds, List.filter_cons, Region.dstOf, Fact.at, Act.put, World.more_drew]
              go_wp2
              exact ⟨by repeat (first | with_reducible exact Grew.refl _ | apply Grew.more | apply Grew.alloc | apply Grew.drew | apply Grew.drewN), rfl, _, _, rfl, rfl, rfl⟩
          apply Seq.of (PtsTo (.string ⟨nm.toArray⟩)) (PtsTo.st _)
          focus
            rintro w1 u ⟨R1, n1, rfl⟩ hF
            simp [moreFacts, Fact.more, Oper.deps, Region.binds, List.filter_cons, World.more_drew] at hF
            simp [putFacts, Oper.deps, Region.binds, List.filter_cons, Region.dstOf, Fact.at, Act.put, World.more_drew]
            obtain ⟨b7, hb7, hc7⟩ := hF; (have hc8 := hc7 m hm18); clear hc7; rw [HN.out] at hc8; rw [hb7]
            go_wp2
            exact ⟨by repeat (first | with_reducible exact Grew.refl _ | apply Grew.more | apply Grew.alloc | apply Grew.drew | apply Grew.drewN), rfl, _, _, rfl, rfl, ⟨b7, m, rfl, hc8⟩⟩
          apply Seq.val
          focus
            rintro w1 u ⟨R1, n1, rfl⟩ hF
            simp [moreFacts, Fact.more, Oper.deps, Region.binds, List.filter_cons, World.more_drew] at hF
            simp [putFacts, Oper.deps, Region.binds, List.filter_cons, Region.dstOf, Fact.at, Act.put, World.more_drew]
            obtain ⟨b7, o7, hb7, hc7⟩ := hF; rw [hb7]
            go_wp2
            exact ⟨by repeat (first | with_reducible exact Grew.refl _ | apply Grew.more | apply Grew.alloc | apply Grew.drew | apply Grew.drewN), rfl, _, _, rfl, rfl, rfl⟩
          apply Seq.val
          focus
            rintro w1 u ⟨R1, n1, rfl⟩ hF
            simp [moreFacts, Fact.more, Oper.deps, Region.binds, List.filter_cons, World.more_drew] at hF
            simp [putFacts, Oper.deps, Region.binds, List.filter_cons, Region.dstOf, Fact.at, Act.put, World.more_drew]
            go_wp2
            exact ⟨by repeat (first | with_reducible exact Grew.refl _ | apply Grew.more | apply Grew.alloc | apply Grew.drew | apply Grew.drewN), rfl, _, _, rfl, rfl, rfl⟩
          rintro u w1 ⟨R1, n1, rfl⟩ hF
          clear hF
          simp [putFacts, Region.dstOf, Fact.at, Act.put, List.range_succ, World.more_drew]
          go_wp2_with (first
            | (go_at_call 118; refine (bounds_any _ _).mono ?_; rintro e w1 ⟨rfl, rfl⟩; rw [HH.out])
            | (go_at_call 44; refine (itoa_any _ (by omega) _ (HP.out.grew (by repeat (first | with_reducible exact Grew.refl _ | apply Grew.more | apply Grew.alloc | apply Grew.drew | apply Grew.drewN)))).mono ?_; rintro e w1 ⟨rfl, R4, n4, rfl⟩)
            | (at_builtin; refine wpList_own1 rfl (.tmp 38) (.tmp 40) 56 _ _ _ _ (Co.word ((m : Int), y)) rfl Tryz.underlying56 infoStr rfl (by decide) encS_len encS_one rfl (HO.out.grew (by repeat (first | with_reducible exact Grew.refl _ | apply Grew.more | apply Grew.alloc | apply Grew.drew | apply Grew.drewN))) (by repeat (first | with_reducible exact Grew.refl _ | apply Grew.more | apply Grew.alloc | apply Grew.drew | apply Grew.drewN)) rfl (encS_at _ _ _ _ _ (by first | (rw [word_not HH.out, HM.out]; done) | (rw [word_has HH.out, HM.out]; exact str_cat3 _ _ _)) (by simp [go_sem])) (by simp; omega) (by decide) ?_; intro v9 R9 n9 hown9)
            )
          go_roundw
          case rel => exact ⟨k + 1, by omega, by go_num, by rw [HW.out]; exact hown9, by repeat (first | with_reducible exact Grew.refl _ | apply Grew.more | apply Grew.alloc | apply Grew.drew | apply Grew.drewN)⟩
          case measure => first | (simp [intOf]; done) | (simp [intOf]; omega)
      · obtain rfl : k = l.length := by omega
        rw [List.take_length] at hown
        have HO := Lib.hid hown
        clear hown hl
        go_wp2_with (go_at_call 18; refine (join_any _ (l.map Co.word) [59, 32] _ _ (HO.out.grew (by repeat (first | with_reducible exact Grew.refl _ | apply Grew.more | apply Grew.alloc | apply Grew.drew | apply Grew.drewN))) (by simp; omega) (by have h := HL.out; unfold Co.textI Co.sep at h; omega)).mono ?_; rintro e w1 ⟨rfl, R3, n3, rfl⟩)
        go_ret
        refine ⟨?_, ?_⟩
        · rw [HT.out]; rfl
        · repeat (first | with_reducible exact Grew.refl _ | apply Grew.more | apply Grew.alloc | apply Grew.drew | apply Grew.drewN)

end Go.Proofs.YtlgbipfpnfphjaaGreatDoor

/-! forebayref04.Text. -/
namespace Go.Proofs.YtlgbipfpnfphjaaGreatDoor
set_option linter.unusedSimpArgs false
set_option linter.unusedVariables false
open Go.RowKit Ga
set_option maxRecDepth 100000

end Go.Proofs.YtlgbipfpnfphjaaGreatDoor

/-! gauss.Parse. -/
namespace Go.Proofs.YtlgbipfpnfphjaaGreatDoor
open Go.RowKit Ga
set_option linter.unusedSimpArgs false
set_option linter.unusedVariables false
set_option maxRecDepth 100000

/-- What strconv's errors are. -/
def Errs (w : World) : Prop := (∃ tp p, w.var? Tryz.prog "strconv.ErrSyntax" = some #[.iface tp p]) ∧ (∃ tp p, w.var? Tryz.prog "strconv.ErrRange" = some #[.iface tp p])
theorem Errs.grew {w w' : World} (h : Errs w) (g : Grew w w') : Errs w' := by
  obtain ⟨⟨t, p, h1⟩, ⟨t2, p2, h2⟩⟩ := h
  exact ⟨⟨t, p, var_grew h1 g⟩, ⟨t2, p2, var_grew h2 g⟩⟩

/-- strconv.Atoi of any text. -/
theorem atoi_any (s : ByteArray) (hs : s.size ≤ 281474976710656) (w : World) (h : Errs w) :
    Calls Tryz.prog 85 #[.string s] w (fun e w' => ∃ (n : Int) (v : Value), e = .returned (.tuple #[.int .i64 n, v]) ∧ (-9223372036854775808 ≤ n ∧ n ≤ 9223372036854775807) ∧ (∀ m, Lib.atoiAll s.data.toList = .ok m → n = m) ∧ Grew w w') := by
  obtain ⟨⟨t, p, h1⟩, ⟨t2, p2, h2⟩⟩ := h
  have key : ∀ r, Lib.atoiAll s.data.toList = r → Calls Tryz.prog 85 #[.string s] w (fun e w' => ∃ (n : Int) (v : Value), e = .returned (.tuple #[.int .i64 n, v]) ∧ (-9223372036854775808 ≤ n ∧ n ≤ 9223372036854775807) ∧ (∀ m, r = .ok m → n = m) ∧ Grew w w') := by
    intro r ha
    rcases r with m | _ | _
    · refine (Tryz.strconv_Atoi_ok s (by omega) m ha w).mono ?_
      rintro e w' ⟨rfl, hw⟩
      refine ⟨m, _, rfl, Lib.atoiAll_bounds ha, (fun m' hm => by cases hm; rfl), ?_⟩
      rcases hw with rfl | ⟨t, rfl⟩
      · exact Grew.refl _
      · exact grew_bytes _ _ _
    · refine (Tryz.strconv_Atoi_syntax_var s hs ha t p w h1).mono ?_
      rintro e w' ⟨N, rfl, _, _, hb⟩
      exact ⟨0, _, rfl, by omega, (fun m' hm => by cases hm), Grew.ofBelow hb⟩
    · refine (Tryz.strconv_Atoi_range_var s hs ha t2 p2 w h2).mono ?_
      rintro e w' ⟨N, rfl, _, _, hb⟩
      exact ⟨_, _, rfl, Lib.atoiSat_bounds _, (fun m' hm => by cases hm), Grew.ofBelow hb⟩
  exact key _ rfl

theorem pm_isPM (b : UInt8) : pm b = Tx.isPM b := by
  unfold pm Tx.isPM
  rw [Bool.eq_iff_iff]
  simp
theorem pmAt_split {a b : List UInt8} {x : UInt8} {k : Int} (hx : pm x = true) (hb : ∀ y ∈ b, pm y = false) (ha : ∀ y ∈ a ++ x :: b, y.toNat < 128) (h : PmAt (a ++ x :: b) k) : k = a.length := by
  obtain ⟨h1, h2, h3⟩ := h
  obtain ⟨h4, h5⟩ := h3 ha
  apply Classical.byContradiction
  intro hne
  by_cases hlt : k < a.length
  · have := h4 a.length x (by omega) (by simp)
    rw [hx] at this; cases this
  · have hin : k.toNat - a.length - 1 < b.length := by simp at h2; omega
    have e : (a ++ x :: b)[k.toNat]? = b[k.toNat - a.length - 1]? := by
      rw [List.getElem?_append_right (by omega), List.getElem?_cons, if_neg (by omega)]
    have := h5 b[k.toNat - a.length - 1] (by omega) (by rw [e]; exact List.getElem?_eq_getElem hin)
    rw [hb _ (List.getElem_mem _)] at this; cases this
theorem pmAt_text {r i k : Int} (h : PmAt (Tx.textL r i) k) : k = (Lib.itoa r).length := by
  obtain ⟨x, d, h1, h2, h3⟩ := Tx.imL_shape i
  have e : Tx.textL r i = Lib.itoa r ++ x :: (d ++ [105]) := by rw [Tx.textL_eq, h1]; simp
  have hasc := Tx.textL_ascii r i
  rw [e] at h hasc
  refine pmAt_split (by rw [pm_isPM]; exact h2) ?_ hasc h
  intro y hy
  rw [pm_isPM]
  rcases List.mem_append.1 hy with h | h
  · exact Tx.not_pm_of_dig (h3 y h)
  · simp at h; subst h; decide

/-- What Parse hands back. -/
noncomputable def parseOut (l : List UInt8) : Val × Int :=
  haveI := Classical.propDecidable
  if h : ∃ x : Val, l = Tx.textL (into x.1) (into x.2) then ((into h.choose.1, into h.choose.2), 0) else ((0, 0), 4)
theorem parseOut_text (p q : Int) : parseOut (Tx.textL (into p) (into q)) = ((into p, into q), 0) := by
  have h : ∃ x : Val, Tx.textL (into p) (into q) = Tx.textL (into x.1) (into x.2) := ⟨(p, q), rfl⟩
  obtain ⟨e1, e2⟩ := Tx.textL_inj h.choose_spec
  unfold parseOut
  rw [dif_pos h, ← e1, ← e2]
theorem parseOut_none {l : List UInt8} (h : ∀ x : Val, l ≠ Tx.textL (into x.1) (into x.2)) : parseOut l = ((0, 0), 4) := by
  unfold parseOut
  rw [dif_neg (by rintro ⟨x, hx⟩; exact h x hx)]

/-- A text of a right value, cut where Parse cuts it. -/
theorem cut_text {p q k : Int} (h : PmAt (Tx.textL p q) k) : 1 ≤ k ∧ ((Tx.textL p q).take k.toNat) = Lib.itoa p ∧ (((Tx.textL p q).take ((Tx.textL p q).length - 1)).drop k.toNat) = Tx.imL q := by
  have hk := pmAt_text h
  have h1 := Tx.itoa_pos p
  subst hk
  refine ⟨by omega, by rw [Int.toNat_natCast]; exact Tx.take_text p q, ?_⟩
  rw [Int.toNat_natCast, Tx.textL_eq]
  have e : (Lib.itoa p ++ (Tx.imL q ++ [105])).length - 1 = (Lib.itoa p ++ Tx.imL q).length := by simp only [List.length_append, List.length_cons, List.length_nil]; omega
  rw [e, ← List.append_assoc, List.take_left, List.drop_left]

set_option maxHeartbeats 4000000 in
theorem parse_any (l : List UInt8) (hs : l.length ≤ 1000000) (w : World) (hT : Lib.Utf8Tabs 6 7 w) (hE : Errs w) (hp : Pow w) :
    Calls Tryz.prog 113 #[.string ⟨l.toArray⟩] w (Gives (.tuple #[vv (parseOut l).1, .int .i64 (parseOut l).2]) w) := by
  have HT := Lib.hid hT
  have HE := Lib.hid hE
  have HP := Lib.hid hp
  clear hT hE hp
  have hsz : (⟨l.toArray⟩ : ByteArray).size = l.length := rfl
  generalize hs' : (⟨l.toArray⟩ : ByteArray) = s at *
  go_enter Tryz.func113, Tryz.ntmps113
  go_wp2_with (go_at_call 141; refine (lastIndexAny_any s (by unfold maxLen; omega) _ (utf8_grew HT.out (by repeat (first | with_reducible exact Grew.refl _ | apply Grew.more | apply Grew.alloc | apply Grew.drew | apply Grew.drewN)))).mono ?_; rintro e w1 ⟨k, rfl, hk, R1, n1, rfl⟩; (have HK := Lib.hid hk); clear hk)
  -- the letter at the end
  rotate_left
  · have hno : parseOut l = ((0, 0), 4) := parseOut_none (by
      rintro x rfl
      have := cut_text (k := k) (p := into x.1) (q := into x.2) (by have := HK.out; rw [← hs'] at this; exact this)
      omega)
    exact bodyPost_ret (v := .tuple #[.agg #[.int .i64 0, .int .i64 0], .int .i64 4]) (by simp [results, Tryz.results113, go_sem]) rfl ⟨by rw [hno], by repeat (first | with_reducible exact Grew.refl _ | apply Grew.more | apply Grew.alloc | apply Grew.drew | apply Grew.drewN)⟩
  have k0 : 1 ≤ k := by omega
  have k1 : k < s.size := by have := HK.out.2.1; rw [← hs'] at this; rw [hsz]; exact this
  obtain ⟨m, rfl⟩ : ∃ m : Nat, k = m := ⟨k.toNat, by omega⟩
  have m0 : 1 ≤ m := by omega
  have m1 : m + 1 ≤ s.size := by omega
  have m2 : (m : Int) ≤ (s.size : Int) - 1 := by omega
  clear k0 k1
  cases hsuf : Lib.hasSuffix s.data.toList [105]
  · go_wp2_with (go_at_call 142; refine (Tryz.strings_HasSuffix _ _ _ (by omega)).mono ?_; rintro e w1 ⟨rfl, rfl⟩)
    have hno : parseOut l = ((0, 0), 4) := parseOut_none (by
      rintro x rfl
      rw [← hs'] at hsuf
      have : Lib.hasSuffix (Tx.textL (into x.1) (into x.2)) [105] = false := hsuf
      rw [Tx.textL_eq, ← List.append_assoc] at this
      have h2 : Lib.hasSuffix (Lib.itoa (into x.1) ++ Tx.imL (into x.2) ++ [105]) [105] = true := by
        unfold Lib.hasSuffix; rw [List.isSuffixOf_iff_suffix]; exact List.suffix_append _ _
      rw [h2] at this; cases this)
    exact bodyPost_ret (v := .tuple #[.agg #[.int .i64 0, .int .i64 0], .int .i64 4]) (by simp [results, Tryz.results113, go_sem]) rfl ⟨by rw [hno], by repeat (first | with_reducible exact Grew.refl _ | apply Grew.more | apply Grew.alloc | apply Grew.drew | apply Grew.drewN)⟩
  go_wp2_with (first
    | (go_at_call 142; refine (Tryz.strings_HasSuffix _ _ _ (by omega)).mono ?_; rintro e w1 ⟨rfl, rfl⟩)
    | (go_at_call 85; (with_reducible refine (atoi_any (s.extract 0 m) (by simp; omega) _ (HE.out.grew (by repeat (first | with_reducible exact Grew.refl _ | apply Grew.more | apply Grew.alloc | apply Grew.drew | apply Grew.drewN)))).mono ?_); rintro e w1 ⟨a, va, rfl, hba, hoa, R2, n2, rfl⟩; (have HOA := Lib.hid hoa); clear hoa)
    | (go_at_call 85; (with_reducible refine (atoi_any (s.extract m (l.length - 1)) (by simp; omega) _ (HE.out.grew (by repeat (first | with_reducible exact Grew.refl _ | apply Grew.more | apply Grew.alloc | apply Grew.drew | apply Grew.drewN)))).mono ?_); rintro e w1 ⟨b, vb, rfl, hbb, hob, R3, n3, rfl⟩; (have HOB := Lib.hid hob); clear hob)
    )
  have hex : ∀ X Y, l = Tx.textL (into X) (into Y) → a = into X ∧ b = into Y := by
    rintro X Y rfl
    have hc := cut_text (k := (m : Int)) (p := into X) (q := into Y) (by have := HK.out; rw [← hs'] at this; exact this)
    rw [Int.toNat_natCast] at hc
    obtain ⟨_, hc1, hc2⟩ := hc
    have rX := into_range X
    have rY := into_range Y
    have lX := Tx.itoa_len6 (into X) (by omega)
    have lY := Tx.itoa_len6 (into Y) (by omega)
    constructor
    · refine HOA.out _ ?_
      have e : (s.extract 0 m).data.toList = Lib.itoa (into X) := by rw [Lib.extract_data, ← hs']; simpa using hc1
      rw [e, Lib.atoiAll_short _ (by omega), Tx.atoi_itoa]; rfl
    · refine HOB.out _ ?_
      have e : (s.extract m ((Tx.textL (into X) (into Y)).length - 1)).data.toList = Tx.imL (into Y) := by
        rw [Lib.extract_data, ← hs', ← hc2, List.drop_take]
      have lI : (Tx.imL (into Y)).length ≤ 8 := by unfold Tx.imL; split <;> (try simp only [List.length_cons]) <;> omega
      rw [e, Lib.atoiAll_short _ (by omega), Tx.atoi_imL]; rfl
  have HEX := Lib.hid hex
  clear hex HOA HOB HK
  by_cases htx : l = Tx.textL (into a) (into b)
  · obtain ⟨ea, eb⟩ := HEX.out a b htx
    have hr : rightV (a, b) = true := by
      unfold rightV
      simp only
      rw [Bool.and_eq_true, decide_eq_true_iff, decide_eq_true_iff]
      exact ⟨ea, eb⟩
    have hpo : parseOut l = ((a, b), 0) := by
      rw [htx, parseOut_text, ← ea, ← eb]
    have HPO := Lib.hid hpo
    have HR := Lib.hid hr
    have htl : s.toList = Tx.textL (into a) (into b) := by rw [← htx, Lib.toList_data, ← hs']
    clear hpo htx ea eb hr
    go_wp2_with (first
      | (go_at_call 96; refine (text_xyL _ _ _ (HP.out.grew (by repeat (first | with_reducible exact Grew.refl _ | apply Grew.more | apply Grew.alloc | apply Grew.drew | apply Grew.drewN)))).mono ?_; rintro e w1 ⟨rfl, R4, n4, rfl⟩)
      | (go_at_call 91; refine (right_any (a, b) _).mono ?_; rintro e w1 ⟨rfl, R5, n5, rfl⟩; rw [HR.out])
      )
    exact bodyPost_ret (v := .tuple #[.agg #[.int .i64 a, .int .i64 b], .int .i64 0]) (by simp [results, Tryz.results113, go_sem]) rfl ⟨by rw [HPO.out], by repeat (first | with_reducible exact Grew.refl _ | apply Grew.more | apply Grew.alloc | apply Grew.drew | apply Grew.drewN)⟩
  · have hno : parseOut l = ((0, 0), 4) := parseOut_none (by
      intro x hx
      obtain ⟨ea, eb⟩ := HEX.out x.1 x.2 hx
      apply htx
      rw [ea, eb, into_into, into_into]; exact hx)
    have HNO := Lib.hid hno
    have htl : ¬ (Tx.textL (into a) (into b) = s.toList) := by
      rw [Lib.toList_data, ← hs']; exact fun h => htx h.symm
    clear hno htx
    go_wp2_with (go_at_call 96; refine (text_xyL _ _ _ (HP.out.grew (by repeat (first | with_reducible exact Grew.refl _ | apply Grew.more | apply Grew.alloc | apply Grew.drew | apply Grew.drewN)))).mono ?_; rintro e w1 ⟨rfl, R4, n4, rfl⟩)
    exact bodyPost_ret (v := .tuple #[.agg #[.int .i64 0, .int .i64 0], .int .i64 4]) (by simp [results, Tryz.results113, go_sem]) rfl ⟨by rw [HNO.out], by repeat (first | with_reducible exact Grew.refl _ | apply Grew.more | apply Grew.alloc | apply Grew.drew | apply Grew.drewN)⟩
end Go.Proofs.YtlgbipfpnfphjaaGreatDoor

/-! code.Parse. -/
namespace Go.Proofs.YtlgbipfpnfphjaaGreatDoor
set_option linter.unusedSimpArgs false
set_option linter.unusedVariables false
open Go.RowKit Ga
set_option maxRecDepth 100000

/-- What strings.Index reads. -/
def CellM (w : World) : Prop := ∃ m : Int, w.cell? ⟨0, 0, none⟩ = some (.int .i64 m)

theorem CellM.grew {w w' : World} (h : CellM w) (g : Grew w w') : CellM w' := let ⟨m, hm⟩ := h; ⟨m, cell_grew hm g⟩
theorem cut_any (s sep : List UInt8) (hs : s.length ≤ 1000000) (w : World) (h : CellM w) :
    Calls Tryz.prog 64 #[.string ⟨s.toArray⟩, .string ⟨sep.toArray⟩] w (Gives (.tuple #[str (Lib.cut s sep).1, str (Lib.cut s sep).2.1, .bool (Lib.cut s sep).2.2]) w) := by
  obtain ⟨m, hm⟩ := h
  refine (Tryz.strings_Cut ⟨s.toArray⟩ ⟨sep.toArray⟩ m w (by show s.length < _; omega) hm).mono ?_
  rintro e w' ⟨rfl, n, rfl⟩
  exact ⟨rfl, (Grew.refl w).drewN n⟩

theorem atoiL_any (s : List UInt8) (hs : s.length ≤ 1000000) (w : World) (h : Errs w) :
    Calls Tryz.prog 85 #[.string ⟨s.toArray⟩] w (fun e w' => ∃ v : Value, e = .returned (.tuple #[.int .i64 (Co.atoiVal s), v]) ∧ Grew w w') := by
  obtain ⟨⟨t, p, h1⟩, ⟨t2, p2, h2⟩⟩ := h
  have key : ∀ r, Lib.atoiAll s = r → Calls Tryz.prog 85 #[.string ⟨s.toArray⟩] w (fun e w' => ∃ v : Value, e = .returned (.tuple #[.int .i64 (Co.atoiVal s), v]) ∧ Grew w w') := by
    intro r ha
    have hsz : (⟨s.toArray⟩ : ByteArray).size ≤ 1000000 := hs
    rcases r with m | _ | _
    · have hv : Co.atoiVal s = m := by unfold Co.atoiVal; rw [ha]
      rw [hv]
      refine (Tryz.strconv_Atoi_ok ⟨s.toArray⟩ (by omega) m ha w).mono ?_
      rintro e w' ⟨rfl, hw⟩
      refine ⟨_, rfl, ?_⟩
      rcases hw with rfl | ⟨t, rfl⟩
      · exact Grew.refl _
      · exact grew_bytes _ _ _
    · have hv : Co.atoiVal s = 0 := by unfold Co.atoiVal; rw [ha]
      rw [hv]
      refine (Tryz.strconv_Atoi_syntax_var ⟨s.toArray⟩ (by omega) ha t p w h1).mono ?_
      rintro e w' ⟨N, rfl, _, _, hb⟩
      exact ⟨_, rfl, Grew.ofBelow hb⟩
    · have hv : Co.atoiVal s = Lib.atoiSat s := by unfold Co.atoiVal; rw [ha]
      rw [hv]
      refine (Tryz.strconv_Atoi_range_var ⟨s.toArray⟩ (by omega) ha t2 p2 w h2).mono ?_
      rintro e w' ⟨N, rfl, _, _, hb⟩
      exact ⟨_, rfl, Grew.ofBelow hb⟩
  exact key _ rfl

theorem bytes_inj {a b : List UInt8} (h : (⟨a.toArray⟩ : ByteArray) = ⟨b.toArray⟩) : a = b := by cases h; rfl
theorem idxFromS_names (x : List UInt8) : ∀ (zs : List (List UInt8)) (i : Nat), Lib.idxFromS (zs.map fun l => (⟨l.toArray⟩ : ByteArray)) ⟨x.toArray⟩ i = if x ∈ zs then ((i + zs.idxOf x : Nat) : Int) else -1
  | [], i => by simp [Lib.idxFromS]
  | z :: zs, i => by
    have ih := idxFromS_names x zs (i + 1)
    rw [List.map_cons, Lib.idxFromS]
    by_cases h : z = x
    · subst h; simp
    · have h1 : ¬ ((⟨z.toArray⟩ : ByteArray) = ⟨x.toArray⟩) := fun e => h (bytes_inj e)
      have h2 : ¬ x = z := fun e => h e.symm
      simp only [h1, if_false, ih, List.mem_cons, h2, false_or, List.idxOf_cons]
      have h3 : (z == x) = false := by simpa using h
      rw [h3]
      split
      · congr 1; simp; omega
      · rfl
theorem idx_any (v : Value) (x : List UInt8) (w : World) (h : NamesAt v w) :
    Calls Tryz.prog 151 #[v, .string ⟨x.toArray⟩] w fun e w' => e = .returned (.int .i64 (Co.idxName x)) ∧ w' = w := by
  obtain ⟨b, rfl, hc⟩ := h
  have hI := Tryz.slices_Index_string b 0 18 18 (Co.namesL.map fun l => (⟨l.toArray⟩ : ByteArray)) ⟨x.toArray⟩ w (by decide) (by decide) (by
    intro j hj
    have hj18 : j < 18 := hj
    rw [Nat.zero_add, hc j hj18]
    rw [List.getD_eq_getElem?_getD, List.getD_eq_getElem?_getD, List.getElem?_map]
    have hl : j < Co.namesL.length := hj18
    rw [List.getElem?_eq_getElem hl]; rfl)
  refine hI.mono ?_
  rintro e w' ⟨rfl, rfl⟩
  refine ⟨?_, rfl⟩
  have : Lib.idxOfS ((Co.namesL.map fun l => (⟨l.toArray⟩ : ByteArray)).take 18) ⟨x.toArray⟩ = Co.idxName x := by
    have ht : (Co.namesL.map fun l => (⟨l.toArray⟩ : ByteArray)).take 18 = Co.namesL.map fun l => (⟨l.toArray⟩ : ByteArray) := List.take_of_length_le (by decide)
    rw [ht]
    unfold Lib.idxOfS Co.idxName
    rw [idxFromS_names]
    simp
  rw [this]

theorem cut_len (s sep : List UInt8) : (Lib.cut s sep).1.length ≤ s.length ∧ (Lib.cut s sep).2.1.length ≤ s.length := by
  unfold Lib.cut
  split
  · simp only [List.length_take, List.length_drop]; omega
  · simp

def sLen : Value → Nat
  | .slice _ n _ => n
  | _ => 0
def J1 (l : List UInt8) (w : World) (a' : Act) (w' : World) : Prop :=
  ∃ (p : List Val) (rest : List UInt8) (more : Bool) (v4 u1 u7 u8 u9 u10 u11 u12 u13 u14 u15 u16 u17 u18 u19 u20 u21 u22 u23 u24 u25 u26 u27 u28 u29 u30 u31 u32 u33 u34 u35 u36 u37 u38 u39 u40 u41 u42 u43 u44 u45 u46 u47 u48 u49 u50 : Value), a' = { tmps := #[str l, u1, .slice none 0 0, .int .i64 0, v4, str rest, .bool more, u7, u8, u9, u10, u11, u12, u13, u14, u15, u16, u17, u18, u19, u20, u21, u22, u23, u24, u25, u26, u27, u28, u29, u30, u31, u32, u33, u34, u35, u36, u37, u38, u39, u40, u41, u42, u43, u44, u45, u46, u47, u48, u49, u50], defers := [] } ∧ p.length ≤ 24 ∧ rest.length ≤ 1000000 ∧ Co.instrs l = p ++ (if more then Co.readI (25 - p.length) rest else []) ∧ OwnAt w.heap.size 124 2 encI w' v4 p ∧ Grew w w'

def J0 (l : List UInt8) (w : World) (a' : Act) (w' : World) : Prop :=
  ∃ (p : List Val) (v4 u1 u5 u6 u7 u8 u9 u10 u11 u12 u13 u14 u15 u16 u17 u18 u19 u20 u21 u22 u23 u24 u25 u26 u27 u28 u29 u30 u31 u32 u33 u34 u35 u36 u37 u38 u39 u40 u41 u42 u43 u44 u45 u46 u47 u48 u49 u50 : Value), a' = { tmps := #[str l, u1, .slice none 0 0, .int .i64 0, v4, u5, u6, u7, u8, u9, u10, u11, u12, u13, u14, u15, u16, u17, u18, u19, u20, u21, u22, u23, u24, u25, u26, u27, u28, u29, u30, u31, u32, u33, u34, u35, u36, u37, u38, u39, u40, u41, u42, u43, u44, u45, u46, u47, u48, u49, u50], defers := [] } ∧ p.length ≤ 25 ∧ Co.instrs l = p ∧ OwnAt w.heap.size 124 2 encI w' v4 p ∧ Grew w w'

theorem own_len {base : Nat} {w : World} {v : Value} {l : List Val} (h : OwnAt base 124 2 encI w v l) : sLen v = l.length := by
  rcases h.form with ⟨rfl, rfl⟩ | ⟨b, cap, rfl, _⟩ <;> rfl

set_option maxHeartbeats 8000000 in
theorem codeParseO_any (l : List UInt8) (hs : l.length ≤ 1000000) (w : World) (hM : CellM w) (hE : Errs w) (hP : Pow w) (hA : Asc w) :
    Calls Tryz.prog 123 #[.string ⟨l.toArray⟩] w (fun e w' => ∃ v, e = .returned (.tuple #[v, .int .i64 (Co.parseI l).2]) ∧ OwnAt w.heap.size 124 2 encI w' v (Co.parseI l).1 ∧ Grew w w') := by
  have HM := Lib.hid hM
  have HE := Lib.hid hE
  have HP := Lib.hid hP
  have HA := Lib.hid hA
  clear hM hE hP hA
  go_enter Tryz.func123, Tryz.ntmps123
  go_wp2
  refine wp_scope_jumps2' 1 0 (J1 l w) (J0 l w) (fun a _ => 26 - sLen (a.tmps.getD 4 undef)) rfl rfl ?_ ?_ ?_
  · rintro a' w' ⟨p, v4, u1, u5, u6, u7, u8, u9, u10, u11, u12, u13, u14, u15, u16, u17, u18, u19, u20, u21, u22, u23, u24, u25, u26, u27, u28, u29, u30, u31, u32, u33, u34, u35, u36, u37, u38, u39, u40, u41, u42, u43, u44, u45, u46, u47, u48, u49, u50, rfl, hp, hi, hown, R, n, rfl⟩
    have HO := Lib.hid hown
    clear hown
    have hrows : ValsAt (w.more R n) v4 p := HO.out.rows encI_len
    by_cases hq : Co.textOut p = l
    · have hpi : Co.parseI l = (p, 0) := by unfold Co.parseI; rw [hi, if_pos hq]
      have HPI := Lib.hid hpi
      have HQ := Lib.hid hq
      clear hpi hi hq
      go_wp2_with (go_at_call 72; refine (codeText_any _ p _ (hrows.grew (by repeat (first | with_reducible exact Grew.refl _ | apply Grew.more | apply Grew.alloc | apply Grew.drew | apply Grew.drewN))) (HP.out.grew (by repeat (first | with_reducible exact Grew.refl _ | apply Grew.more | apply Grew.alloc | apply Grew.drew | apply Grew.drewN))) (HA.out.grew (by repeat (first | with_reducible exact Grew.refl _ | apply Grew.more | apply Grew.alloc | apply Grew.drew | apply Grew.drewN)))).mono ?_; rintro e w1 ⟨rfl, R3, n3, rfl⟩; rw [HQ.out])
      rw [Exit.noGoto_ret]
      exact bodyPost_ret (v := .tuple #[v4, .int .i64 0]) (by simp [results, Tryz.results123, go_sem]) rfl ⟨_, by rw [HPI.out], by rw [HPI.out]; exact HO.out.grew (by repeat (first | with_reducible exact Grew.refl _ | apply Grew.more | apply Grew.alloc | apply Grew.drew | apply Grew.drewN)), by repeat (first | with_reducible exact Grew.refl _ | apply Grew.more | apply Grew.alloc | apply Grew.drew | apply Grew.drewN)⟩
    · have hpi : Co.parseI l = ([], 4) := by unfold Co.parseI; rw [hi, if_neg hq]
      have HPI := Lib.hid hpi
      have hqb : (Co.textOut p == l) = false := beq_eq_false_iff_ne.2 hq
      clear hpi hi hq
      go_wp2_with (go_at_call 72; refine (codeText_any _ p _ (hrows.grew (by repeat (first | with_reducible exact Grew.refl _ | apply Grew.more | apply Grew.alloc | apply Grew.drew | apply Grew.drewN))) (HP.out.grew (by repeat (first | with_reducible exact Grew.refl _ | apply Grew.more | apply Grew.alloc | apply Grew.drew | apply Grew.drewN))) (HA.out.grew (by repeat (first | with_reducible exact Grew.refl _ | apply Grew.more | apply Grew.alloc | apply Grew.drew | apply Grew.drewN)))).mono ?_; rintro e w1 ⟨rfl, R3, n3, rfl⟩)
      rw [Exit.noGoto_ret]
      exact bodyPost_ret (v := .tuple #[.slice none 0 0, .int .i64 4]) (by simp [results, Tryz.results123, go_sem]) rfl ⟨_, by rw [HPI.out], by rw [HPI.out]; exact OwnAt.nil _, by repeat (first | with_reducible exact Grew.refl _ | apply Grew.more | apply Grew.alloc | apply Grew.drew | apply Grew.drewN)⟩
  · rintro hend a' w' ⟨p, rest, more, v4, u1, u7, u8, u9, u10, u11, u12, u13, u14, u15, u16, u17, u18, u19, u20, u21, u22, u23, u24, u25, u26, u27, u28, u29, u30, u31, u32, u33, u34, u35, u36, u37, u38, u39, u40, u41, u42, u43, u44, u45, u46, u47, u48, u49, u50, rfl, hp, hrest, hi, hown, R, n, rfl⟩
    have hsl := own_len hown
    have HO := Lib.hid hown
    have HI := Lib.hid hi
    have HS := Lib.hid hsl
    have HEND := Lib.hid hend
    clear hown hi hsl hend
    cases more
    · go_wp2
      go_step3
      refine .inr ⟨rfl, p, v4, _, _, _, _, _, _, _, _, _, _, _, _, _, _, _, _, _, _, _, _, _, _, _, _, _, _, _, _, _, _, _, _, _, _, _, _, _, _, _, _, _, _, _, _, _, _, _, rfl, by omega, ?_, HO.out.grew (by repeat (first | with_reducible exact Grew.refl _ | apply Grew.more | apply Grew.alloc | apply Grew.drew | apply Grew.drewN)), by repeat (first | with_reducible exact Grew.refl _ | apply Grew.more | apply Grew.alloc | apply Grew.drew | apply Grew.drewN)⟩
      have h := HI.out
      simpa using h
    · obtain ⟨hc1, hc2⟩ := cut_len rest Co.sep
      obtain ⟨hc3, hc4⟩ := cut_len (Lib.cut rest Co.sep).1 [32]
      have hl1 : (Lib.cut rest [59, 32]).1.length ≤ 1000000 := by show (Lib.cut rest Co.sep).1.length ≤ _; omega
      have hl2 : (Lib.cut (Lib.cut rest [59, 32]).1 [32]).2.1.length ≤ 1000000 := by show (Lib.cut (Lib.cut rest Co.sep).1 [32]).2.1.length ≤ _; omega
      have hr1 := Co.atoiVal_range (Lib.cut (Lib.cut rest [59, 32]).1 [32]).2.1
      have hl3 : (Lib.cut rest Co.sep).2.1.length ≤ 1000000 := by omega
      have hi2 : Co.instrs l = (p ++ [Co.insOf (Lib.cut rest Co.sep).1]) ++ (if (Lib.cut rest Co.sep).2.2 then Co.readI (25 - (p.length + 1)) (Lib.cut rest Co.sep).2.1 else []) := by
        rw [HI.out, if_pos rfl, show 25 - p.length = (25 - (p.length + 1)) + 1 by omega, Co.readI]
        simp
      have HI2 := Lib.hid hi2
      clear hc1 hc3 hc4 hc2 hi2 HI
      go_wp2_with (first
      | (go_at_call 64; refine (cut_any _ _ (by assumption) _ (HM.out.grew (by repeat (first | with_reducible exact Grew.refl _ | apply Grew.more | apply Grew.alloc | apply Grew.drew | apply Grew.drewN)))).mono ?_; rintro e w1 ⟨rfl, R3, n3, rfl⟩)
      | (go_at_call 85; refine (atoiL_any _ (by assumption) _ (HE.out.grew (by repeat (first | with_reducible exact Grew.refl _ | apply Grew.more | apply Grew.alloc | apply Grew.drew | apply Grew.drewN)))).mono ?_; rintro e w1 ⟨ve, rfl, R4, n4, rfl⟩)
      | (go_at_call 117; refine (names_any _ (HA.out.grew (by repeat (first | with_reducible exact Grew.refl _ | apply Grew.more | apply Grew.alloc | apply Grew.drew | apply Grew.drewN)))).mono ?_; rintro e w1 ⟨v2, rfl, hv2, R5, n5, rfl⟩; (have HV2 := Lib.hid hv2); clear hv2)
      | (go_at_call 151; refine (idx_any _ _ _ (NamesAt.st _ _ _ HV2.out (by repeat (first | with_reducible exact Grew.refl _ | apply Grew.more | apply Grew.alloc | apply Grew.drew | apply Grew.drewN)))).mono ?_; rintro e w1 ⟨rfl, rfl⟩)
      | (at_builtin; refine wpList_own1 rfl (.tmp 35) (.tmp 41) 46 _ _ _ _ (Co.insOf (Lib.cut rest Co.sep).1) rfl Tryz.underlying46 infoIns rfl (by decide) encI_len encI_one rfl (HO.out.grew (by repeat (first | with_reducible exact Grew.refl _ | apply Grew.more | apply Grew.alloc | apply Grew.drew | apply Grew.drewN))) (by repeat (first | with_reducible exact Grew.refl _ | apply Grew.more | apply Grew.alloc | apply Grew.drew | apply Grew.drewN)) rfl (encI_at _ _ _ _ rfl (by simp [go_sem])) (by omega) (by decide) ?_; intro v9 R9 n9 hown9; obtain ⟨b9, c9, rfl, hb9, hc9, hm9⟩ := hown9.form1; (have HO9 := Lib.hid hown9); clear hown9 hb9 hc9 hm9)
      )
      · go_step3
        have hle : p.length + 1 ≤ 24 := by omega
        refine .inl ⟨rfl, ⟨p ++ [Co.insOf (Lib.cut rest Co.sep).1], (Lib.cut rest Co.sep).2.1, (Lib.cut rest Co.sep).2.2, _, _, _, _, _, _, _, _, _, _, _, _, _, _, _, _, _, _, _, _, _, _, _, _, _, _, _, _, _, _, _, _, _, _, _, _, _, _, _, _, _, _, _, _, _, _, rfl, by simpa using hle, hl3, by rw [List.length_append]; exact HI2.out, HO9.out, by repeat (first | with_reducible exact Grew.refl _ | apply Grew.more | apply Grew.alloc | apply Grew.drew | apply Grew.drewN)⟩, ?_⟩
        have h4 := HS.out
        show 26 - sLen _ < 26 - sLen _
        simp [sLen] at *
        omega
      · go_step3
        rename_i hgt K9 hK
        refine hK _ _ (HEND.out _ _ _ ⟨p ++ [Co.insOf (Lib.cut rest Co.sep).1], _, _, _, _, _, _, _, _, _, _, _, _, _, _, _, _, _, _, _, _, _, _, _, _, _, _, _, _, _, _, _, _, _, _, _, _, _, _, _, _, _, _, _, _, _, _, _, _, rfl, by simp; omega, ?_, HO9.out, by repeat (first | with_reducible exact Grew.refl _ | apply Grew.more | apply Grew.alloc | apply Grew.drew | apply Grew.drewN)⟩)
        rw [HI2.out]
        have h25 : 25 - (p.length + 1) = 0 := by omega
        rw [h25]
        simp [Co.readI]
  · intro hbody
    have HB := Lib.hid hbody
    clear hbody
    go_wp2
    go_step3
    rename_i hK
    refine hK _ _ (HB.out _ _ ⟨[], l, !l.isEmpty, _, _, _, _, _, _, _, _, _, _, _, _, _, _, _, _, _, _, _, _, _, _, _, _, _, _, _, _, _, _, _, _, _, _, _, _, _, _, _, _, _, _, _, _, _, _, rfl, Nat.zero_le _, hs, ?_, OwnAt.nil _, Grew.refl _⟩)
    unfold Co.instrs
    cases l <;> simp
end Go.Proofs.YtlgbipfpnfphjaaGreatDoor


/-! slices.Equal at numbers and at instructions. -/
namespace Go.Proofs.YtlgbipfpnfphjaaGreatDoor
set_option linter.unusedSimpArgs false
set_option linter.unusedVariables false
open Go.RowKit Ga
set_option maxRecDepth 100000

set_option maxHeartbeats 4000000 in
theorem eqInts_any (v u : Value) (l m : List Int) (w : World) (hv : IntsAt w v l) (hu : IntsAt w u m) : Calls Tryz.prog 168 #[v, u] w (Gives (.bool (decide (l = m))) w) := by
  have HV := Lib.hid hv
  have HU := Lib.hid hu
  obtain ⟨a, cap, rfl, hm, -⟩ := ints_open hv
  obtain ⟨a2, cap2, rfl, hm2, -⟩ := ints_open hu
  clear hv hu
  by_cases hlen : l.length = m.length
  · have hD2 : ((l.length : Int) != (m.length : Int)) = false := by rw [hlen]; simp
    have HLEN := Lib.hid hlen
    clear hlen
    go_enter Tryz.func168, Tryz.ntmps168
    go_wp2
    go_loopg [13] l.length (fun gg s13 wr => ∃ g : Nat, g ≤ l.length ∧ l.length - g ≤ gg ∧ s13 = .int .i64 g ∧ Hid (Grew w wr) ∧ Hid (l.take g = m.take g))
    case atStart => exact ⟨0, by omega, by omega, rfl, Lib.hid (by repeat (first | with_reducible exact Grew.refl _ | apply Grew.more | apply Grew.alloc | apply Grew.drew | apply Grew.drewN)), Lib.hid rfl⟩
    case round =>
      obtain ⟨g, hg8, hgg, rfl, HGR, HNO⟩ := hrel
      by_cases hlt : g < l.length
      · have hlt2 : g < m.length := by have := HLEN.out; omega
        obtain ⟨av, cv, e, -, hx⟩ := ints_open (HV.out.grew HGR.out)
        cases e
        obtain ⟨av2, cv2, e, -, hx2⟩ := ints_open (HU.out.grew HGR.out)
        cases e
        obtain ⟨b, off, rfl, hb, cx⟩ := hx g hlt
        obtain ⟨b2, off2, rfl, hb2, dx⟩ := hx2 g hlt2
        have hs := take_eq_succ hlt hlt2 HNO.out
        have hf := neq_at hlt hlt2
        have HS := Lib.hid hs
        have HF := Lib.hid hf
        clear hx hx2 hs hf
        generalize l[g] = x at *
        generalize m[g] = y at *
        by_cases hr : x = y
        · cases hr
          go_upto_region 6 with fail
          go_quiet (fail)
          go_wp2
          go_roundg (l.length - (g + 1))
          case measure => omega
          case rel => exact ⟨g + 1, by omega, by omega, by go_num, Lib.hid (HGR.out.trans (by repeat (first | with_reducible exact Grew.refl _ | apply Grew.more | apply Grew.alloc | apply Grew.drew | apply Grew.drewN))), Lib.hid (HS.out (by first | exact rfl | trivial))⟩
        · have HR := Lib.hid hr
          have hfin : decide (l = m) = false := decide_eq_false (HF.out hr)
          have HFIN := Lib.hid hfin
          have hne : (x != y) = true := by rw [bne_iff_ne]; exact hr
          clear hr hfin
          go_upto_region 6 with fail
          go_quiet (fail)
          go_wp2
          go_ret
          exact ⟨by rw [HFIN.out]; rfl, HGR.out.trans (by repeat (first | with_reducible exact Grew.refl _ | apply Grew.more | apply Grew.alloc | apply Grew.drew | apply Grew.drewN))⟩
      · obtain rfl : g = l.length := by omega
        have hz := HNO.out
        rw [List.take_length, List.take_of_length_le (by have := HLEN.out; omega)] at hz
        have hfin : decide (l = m) = true := decide_eq_true hz
        have HFIN := Lib.hid hfin
        clear hz hfin
        go_wp2
        go_ret
        exact ⟨by rw [HFIN.out]; rfl, HGR.out⟩
  · have hD2 : ((l.length : Int) != (m.length : Int)) = true := by rw [bne_iff_ne]; omega
    have hfin : decide (l = m) = false := decide_eq_false fun h => hlen (by rw [h])
    have HFIN := Lib.hid hfin
    clear hfin hlen
    go_enter Tryz.func168, Tryz.ntmps168
    go_wp2
    go_ret
    exact ⟨by rw [HFIN.out]; rfl, by repeat (first | with_reducible exact Grew.refl _ | apply Grew.more | apply Grew.alloc | apply Grew.drew | apply Grew.drewN)⟩
set_option maxHeartbeats 4000000 in
theorem eqVals_any (v u : Value) (l m : List Val) (w : World) (hv : ValsAt w v l) (hu : ValsAt w u m) : Calls Tryz.prog 169 #[v, u] w (Gives (.bool (decide (l = m))) w) := by
  have HV := Lib.hid hv
  have HU := Lib.hid hu
  obtain ⟨a, cap, rfl, hm, -⟩ := hv.open2
  obtain ⟨a2, cap2, rfl, hm2, -⟩ := hu.open2
  clear hv hu
  by_cases hlen : l.length = m.length
  · have hD2 : ((l.length : Int) != (m.length : Int)) = false := by rw [hlen]; simp
    have HLEN := Lib.hid hlen
    clear hlen
    go_enter Tryz.func169, Tryz.ntmps169
    go_wp2
    go_loopg [13] l.length (fun gg s13 wr => ∃ g : Nat, g ≤ l.length ∧ l.length - g ≤ gg ∧ s13 = .int .i64 g ∧ Hid (Grew w wr) ∧ Hid (l.take g = m.take g))
    case atStart => exact ⟨0, by omega, by omega, rfl, Lib.hid (by repeat (first | with_reducible exact Grew.refl _ | apply Grew.more | apply Grew.alloc | apply Grew.drew | apply Grew.drewN)), Lib.hid rfl⟩
    case round =>
      obtain ⟨g, hg8, hgg, rfl, HGR, HNO⟩ := hrel
      by_cases hlt : g < l.length
      · have hlt2 : g < m.length := by have := HLEN.out; omega
        obtain ⟨av, cv, e, -, hx⟩ := (HV.out.grew HGR.out).open2
        cases e
        obtain ⟨av2, cv2, e, -, hx2⟩ := (HU.out.grew HGR.out).open2
        cases e
        obtain ⟨b, off, rfl, hb, cx, cy⟩ := hx g hlt
        obtain ⟨b2, off2, rfl, hb2, dx, dy⟩ := hx2 g hlt2
        have hs := take_eq_succ hlt hlt2 HNO.out
        have hf := neq_at hlt hlt2
        have HS := Lib.hid hs
        have HF := Lib.hid hf
        clear hx hx2 hs hf
        generalize l[g] = x at *
        generalize m[g] = y at *
        obtain ⟨x, x'⟩ := x
        obtain ⟨y, y'⟩ := y
        simp only at cx cy dx dy
        by_cases hr : ((x, x') : Val) = (y, y')
        · cases hr
          go_upto_region 6 with fail
          go_quiet (fail)
          go_wp2
          go_roundg (l.length - (g + 1))
          case measure => omega
          case rel => exact ⟨g + 1, by omega, by omega, by go_num, Lib.hid (HGR.out.trans (by repeat (first | with_reducible exact Grew.refl _ | apply Grew.more | apply Grew.alloc | apply Grew.drew | apply Grew.drewN))), Lib.hid (HS.out (by first | exact rfl | trivial))⟩
        · have HR := Lib.hid hr
          have hfin : decide (l = m) = false := decide_eq_false (HF.out hr)
          have HFIN := Lib.hid hfin
          have hq := run_neq_ins x x' y y' true (by
            have := HR.out
            by_cases e1 : x = y <;> by_cases e2 : x' = y' <;> simp [e1, e2]
            exact this (by rw [e1, e2]))
          clear hr hfin
          go_upto_region 6 with fail
          go_quiet (fail)
          go_wp2
          go_ret
          exact ⟨by rw [HFIN.out]; rfl, HGR.out.trans (by repeat (first | with_reducible exact Grew.refl _ | apply Grew.more | apply Grew.alloc | apply Grew.drew | apply Grew.drewN))⟩
      · obtain rfl : g = l.length := by omega
        have hz := HNO.out
        rw [List.take_length, List.take_of_length_le (by have := HLEN.out; omega)] at hz
        have hfin : decide (l = m) = true := decide_eq_true hz
        have HFIN := Lib.hid hfin
        clear hz hfin
        go_wp2
        go_ret
        exact ⟨by rw [HFIN.out]; rfl, HGR.out⟩
  · have hD2 : ((l.length : Int) != (m.length : Int)) = true := by rw [bne_iff_ne]; omega
    have hfin : decide (l = m) = false := decide_eq_false fun h => hlen (by rw [h])
    have HFIN := Lib.hid hfin
    clear hfin hlen
    go_enter Tryz.func169, Tryz.ntmps169
    go_wp2
    go_ret
    exact ⟨by rw [HFIN.out]; rfl, by repeat (first | with_reducible exact Grew.refl _ | apply Grew.more | apply Grew.alloc | apply Grew.drew | apply Grew.drewN)⟩
end Go.Proofs.YtlgbipfpnfphjaaGreatDoor

/-! What the listed variables give the walks. -/
namespace Go.Proofs.YtlgbipfpnfphjaaGreatDoor
set_option linter.unusedSimpArgs false
set_option linter.unusedVariables false
open Go.RowKit Go.Lib
set_option maxRecDepth 100000

theorem gTabType : (Tryz.prog.globals[4]?).map (·.type) = some 218 := by kernel_rfl
theorem cellsA : Tryz.prog.cellsOf 218 = 20 := by kernel_rfl
theorem cells1 : Tryz.prog.cellsOf 193 = 1 := by kernel_rfl
theorem tab_of_reads {P : Program} {W : World} {name : String} {k : IntKind} {zs : List Int} {g : Nat} {t e : TypeId} {n : Nat}
    (hg : P.globalNamed name = some g) (hty : (P.globals[g]?).map (·.type) = some t) (ht : P.underlying t = some (.array n e)) (he : P.underlying e = some (.int k)) (hce : P.cellsOf e = 1) (hct : P.cellsOf t = n)
    (h : VarReads P W name (tabData k zs)) : TabIs P W name k zs := by
  obtain ⟨g', t', cs, fuel, p, hg', hty', hvar, hd⟩ := h
  obtain rfl := Option.some.inj (hg.symm.trans hg')
  obtain rfl := Option.some.inj (hty.symm.trans hty')
  have hcs := cells_of_tab ht he hce hct hd
  unfold TabIs
  rw [hvar]
  congr 1
  exact Array.toList_inj.1 hcs
theorem pow_of {W : World} {l : List (String × DataW Unit)} (h : laidMet Tryz.prog l W) (hm : ("internal/strconv.uint64pow10", Rows.laid_internal_strconv_uint64pow10) ∈ l) : Pow W :=
  tab_of_reads gPow gTabType Tryz.underlying218 Tryz.underlying193 cells1 cellsA (laidMet.reads h hm)

theorem firstIs : Rows.laid_unicode_utf8_first = firstData := by kernel_rfl
theorem acceptIs : (Rows.laid_unicode_utf8_acceptRanges : DataW Unit) = acceptData := by kernel_rfl
theorem u8Extra : U8Extra Tryz.prog Tryz.lays260_ren :=
  { n3 := by kernel_rfl, n4 := by kernel_rfl, y3 := by kernel_rfl, y4 := by kernel_rfl, c5 := by kernel_rfl, c119 := by kernel_rfl, c138 := by kernel_rfl }
theorem utf8_of {W : World} {l : List (String × DataW Unit)} (h : laidMet Tryz.prog l W) (m3 : ("unicode/utf8.first", Rows.laid_unicode_utf8_first) ∈ l) (m4 : ("unicode/utf8.acceptRanges", Rows.laid_unicode_utf8_acceptRanges) ∈ l) :
    Lib.Utf8Tabs 6 7 W := by
  rw [firstIs] at m3
  rw [acceptIs] at m4
  exact utf8Tabs_of_readsT (U8Types.of260 Tryz.lays260) u8Extra (laidMet.reads h m3) (laidMet.reads h m4)

theorem gES : Tryz.prog.globalNamed "strconv.ErrSyntax" = some 2 := by kernel_rfl
theorem gESType : (Tryz.prog.globals[2]?).map (·.type) = some 91 := by kernel_rfl
theorem gER : Tryz.prog.globalNamed "strconv.ErrRange" = some 3 := by kernel_rfl
theorem gERType : (Tryz.prog.globals[3]?).map (·.type) = some 91 := by kernel_rfl
theorem cellsES : Tryz.prog.cellsOf 235 = 1 := by kernel_rfl
theorem cellsStr : Tryz.prog.cellsOf 9 = 1 := by kernel_rfl
theorem starES : "*" ++ "errors.errorString" = "*errors.errorString" := by decide
theorem rowES (u : TypeId) (h : Tryz.prog.typeName? 3 u = some "*errors.errorString") : u = 233 :=
  typeName_ptr_named (nm := "errors.errorString") (by rw [starES]; kernel_rfl) (by kernel_rfl) (by decide) u (by rw [starES]; exact h)
theorem errs_of {W : World} {r1 r2 : List (String × DataW Unit)} (h1 : laidMet Tryz.prog (("strconv.ErrRange", Rows.laid_strconv_ErrRange) :: r1) W) (h2 : laidMet Tryz.prog (("strconv.ErrSyntax", Rows.laid_strconv_ErrSyntax) :: r2) W) : Errs W := by
  obtain ⟨a1, s1, v1, -, -, -⟩ := laid_sentinel h1 gER gERType Tryz.underlying91 rowES Tryz.underlying233 Tryz.underlying235 rfl rfl Tryz.underlying9 cellsES cellsStr
  obtain ⟨a2, s2, v2, -, -, -⟩ := laid_sentinel h2 gES gESType Tryz.underlying91 rowES Tryz.underlying233 Tryz.underlying235 rfl rfl Tryz.underlying9 cellsES cellsStr
  exact ⟨⟨_, _, v2⟩, ⟨_, _, v1⟩⟩

/-- A witness: two errors in blocks of their own, behind the others. -/
noncomputable def layErrs (w : World) : World :=
  layBlocks ((w.alloc (.cells #[.string ⟨#[118, 97, 108, 117, 101, 32, 111, 117, 116, 32, 111, 102, 32, 114, 97, 110, 103, 101]⟩] 235)).alloc (.cells #[.string ⟨#[105, 110, 118, 97, 108, 105, 100, 32, 115, 121, 110, 116, 97, 120]⟩] 235))
    [(3, #[.iface 233 (.pointer (some ⟨w.heap.size, 0, none⟩))]), (2, #[.iface 233 (.pointer (some ⟨w.heap.size + 1, 0, none⟩))])]
end Go.Proofs.YtlgbipfpnfphjaaGreatDoor
