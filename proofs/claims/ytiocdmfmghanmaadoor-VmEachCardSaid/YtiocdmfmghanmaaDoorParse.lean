import Derived.Test.YtiocdmfmghanmaaDoorLastIndexAny
import Derived.Test.YtiocdmfmghanmaaDoorGaussText
import Derived.Test.YtiocdmfmghanmaaDoorTextMath
import Derived.Lib.AtoiTie
import Derived.Lib.PathFns
/-! gauss.Parse. -/
namespace Go.Proofs.YtiocdmfmghanmaaDoor
open Go.RowKit Ga
set_option linter.unusedSimpArgs false
set_option linter.unusedVariables false
set_option maxRecDepth 100000

/-- What strconv's errors are. -/
def Errs (w : World) : Prop := (∃ tp p, w.var? Tryd.prog "strconv.ErrSyntax" = some #[.iface tp p]) ∧ (∃ tp p, w.var? Tryd.prog "strconv.ErrRange" = some #[.iface tp p])
theorem Errs.grew {w w' : World} (h : Errs w) (g : Grew w w') : Errs w' := by
  obtain ⟨⟨t, p, h1⟩, ⟨t2, p2, h2⟩⟩ := h
  exact ⟨⟨t, p, var_grew h1 g⟩, ⟨t2, p2, var_grew h2 g⟩⟩

/-- strconv.Atoi of any text. -/
theorem atoi_any (s : ByteArray) (hs : s.size ≤ 281474976710656) (w : World) (h : Errs w) :
    Calls Tryd.prog 45 #[.string s] w (fun e w' => ∃ (n : Int) (v : Value), e = .returned (.tuple #[.int .i64 n, v]) ∧ (-9223372036854775808 ≤ n ∧ n ≤ 9223372036854775807) ∧ (∀ m, Lib.atoiAll s.data.toList = .ok m → n = m) ∧ Grew w w') := by
  obtain ⟨⟨t, p, h1⟩, ⟨t2, p2, h2⟩⟩ := h
  have key : ∀ r, Lib.atoiAll s.data.toList = r → Calls Tryd.prog 45 #[.string s] w (fun e w' => ∃ (n : Int) (v : Value), e = .returned (.tuple #[.int .i64 n, v]) ∧ (-9223372036854775808 ≤ n ∧ n ≤ 9223372036854775807) ∧ (∀ m, r = .ok m → n = m) ∧ Grew w w') := by
    intro r ha
    rcases r with m | _ | _
    · refine (Tryd.strconv_Atoi_ok s (by omega) m ha w).mono ?_
      rintro e w' ⟨rfl, hw⟩
      refine ⟨m, _, rfl, Lib.atoiAll_bounds ha, (fun m' hm => by cases hm; rfl), ?_⟩
      rcases hw with rfl | ⟨t, rfl⟩
      · exact Grew.refl _
      · exact grew_bytes _ _ _
    · refine (Tryd.strconv_Atoi_syntax_var s hs ha t p w h1).mono ?_
      rintro e w' ⟨N, rfl, _, _, hb⟩
      exact ⟨0, _, rfl, by omega, (fun m' hm => by cases hm), Grew.ofBelow hb⟩
    · refine (Tryd.strconv_Atoi_range_var s hs ha t2 p2 w h2).mono ?_
      rintro e w' ⟨N, rfl, _, _, hb⟩
      exact ⟨_, _, rfl, Lib.atoiSat_bounds _, (fun m' hm => by cases hm), Grew.ofBelow hb⟩
  exact key _ rfl

theorem pm_isPM (b : UInt8) : pm b = Tx.isPM b := by
  unfold pm Tx.isPM
  rw [Bool.eq_iff_iff]
  simp
theorem pmAt_split {a b : List UInt8} {x : UInt8} {k : Int} (hx : pm x = true) (hb : ∀ y ∈ b, pm y = false) (ha : ∀ y ∈ a ++ x :: b, y.toNat < 128) (h : PmAt (a ++ x :: b) k) : k = a.length := by
  obtain ⟨h1, h2, h3⟩ := h
  obtain ⟨h4, h5⟩ := h3 ha
  apply Classical.byContradiction
  intro hne
  by_cases hlt : k < a.length
  · have := h4 a.length x (by omega) (by simp)
    rw [hx] at this; cases this
  · have hin : k.toNat - a.length - 1 < b.length := by simp at h2; omega
    have e : (a ++ x :: b)[k.toNat]? = b[k.toNat - a.length - 1]? := by
      rw [List.getElem?_append_right (by omega), List.getElem?_cons, if_neg (by omega)]
    have := h5 b[k.toNat - a.length - 1] (by omega) (by rw [e]; exact List.getElem?_eq_getElem hin)
    rw [hb _ (List.getElem_mem _)] at this; cases this
theorem pmAt_text {r i k : Int} (h : PmAt (Tx.textL r i) k) : k = (Lib.itoa r).length := by
  obtain ⟨x, d, h1, h2, h3⟩ := Tx.imL_shape i
  have e : Tx.textL r i = Lib.itoa r ++ x :: (d ++ [105]) := by rw [Tx.textL_eq, h1]; simp
  have hasc := Tx.textL_ascii r i
  rw [e] at h hasc
  refine pmAt_split (by rw [pm_isPM]; exact h2) ?_ hasc h
  intro y hy
  rw [pm_isPM]
  rcases List.mem_append.1 hy with h | h
  · exact Tx.not_pm_of_dig (h3 y h)
  · simp at h; subst h; decide

/-- What Parse hands back. -/
noncomputable def parseOut (l : List UInt8) : Val × Int :=
  haveI := Classical.propDecidable
  if h : ∃ x : Val, l = Tx.textL (into x.1) (into x.2) then ((into h.choose.1, into h.choose.2), 0) else ((0, 0), 4)
theorem parseOut_text (p q : Int) : parseOut (Tx.textL (into p) (into q)) = ((into p, into q), 0) := by
  have h : ∃ x : Val, Tx.textL (into p) (into q) = Tx.textL (into x.1) (into x.2) := ⟨(p, q), rfl⟩
  obtain ⟨e1, e2⟩ := Tx.textL_inj h.choose_spec
  unfold parseOut
  rw [dif_pos h, ← e1, ← e2]
theorem parseOut_none {l : List UInt8} (h : ∀ x : Val, l ≠ Tx.textL (into x.1) (into x.2)) : parseOut l = ((0, 0), 4) := by
  unfold parseOut
  rw [dif_neg (by rintro ⟨x, hx⟩; exact h x hx)]

/-- A text of a right value, cut where Parse cuts it. -/
theorem cut_text {p q k : Int} (h : PmAt (Tx.textL p q) k) : 1 ≤ k ∧ ((Tx.textL p q).take k.toNat) = Lib.itoa p ∧ (((Tx.textL p q).take ((Tx.textL p q).length - 1)).drop k.toNat) = Tx.imL q := by
  have hk := pmAt_text h
  have h1 := Tx.itoa_pos p
  subst hk
  refine ⟨by omega, by rw [Int.toNat_natCast]; exact Tx.take_text p q, ?_⟩
  rw [Int.toNat_natCast, Tx.textL_eq]
  have e : (Lib.itoa p ++ (Tx.imL q ++ [105])).length - 1 = (Lib.itoa p ++ Tx.imL q).length := by simp only [List.length_append, List.length_cons, List.length_nil]; omega
  rw [e, ← List.append_assoc, List.take_left, List.drop_left]

set_option maxHeartbeats 4000000 in
theorem parse_any (l : List UInt8) (hs : l.length ≤ 1000000) (w : World) (hT : Lib.Utf8Tabs 6 7 w) (hE : Errs w) (hp : Pow w) :
    Calls Tryd.prog 15 #[.string ⟨l.toArray⟩] w (Gives (.tuple #[vv (parseOut l).1, .int .i64 (parseOut l).2]) w) := by
  have HT := Lib.hid hT
  have HE := Lib.hid hE
  have HP := Lib.hid hp
  clear hT hE hp
  have hsz : (⟨l.toArray⟩ : ByteArray).size = l.length := rfl
  generalize hs' : (⟨l.toArray⟩ : ByteArray) = s at *
  go_enter Tryd.func15, Tryd.ntmps15
  go_wp2_with (go_at_call 43; refine (lastIndexAny_any s (by unfold maxLen; omega) _ (utf8_grew HT.out (by repeat (first | with_reducible exact Grew.refl _ | apply Grew.more | apply Grew.alloc | apply Grew.drew | apply Grew.drewN)))).mono ?_; rintro e w1 ⟨k, rfl, hk, R1, n1, rfl⟩; (have HK := Lib.hid hk); clear hk)
  -- the letter at the end
  rotate_left
  · have hno : parseOut l = ((0, 0), 4) := parseOut_none (by
      rintro x rfl
      have := cut_text (k := k) (p := into x.1) (q := into x.2) (by have := HK.out; rw [← hs'] at this; exact this)
      omega)
    exact bodyPost_ret (v := .tuple #[.agg #[.int .i64 0, .int .i64 0], .int .i64 4]) (by simp [results, Tryd.results15, go_sem]) rfl ⟨by rw [hno], by repeat (first | with_reducible exact Grew.refl _ | apply Grew.more | apply Grew.alloc | apply Grew.drew | apply Grew.drewN)⟩
  have k0 : 1 ≤ k := by omega
  have k1 : k < s.size := by have := HK.out.2.1; rw [← hs'] at this; rw [hsz]; exact this
  obtain ⟨m, rfl⟩ : ∃ m : Nat, k = m := ⟨k.toNat, by omega⟩
  have m0 : 1 ≤ m := by omega
  have m1 : m + 1 ≤ s.size := by omega
  have m2 : (m : Int) ≤ (s.size : Int) - 1 := by omega
  clear k0 k1
  cases hsuf : Lib.hasSuffix s.data.toList [105]
  · go_wp2_with (go_at_call 44; refine (Tryd.strings_HasSuffix _ _ _ (by omega)).mono ?_; rintro e w1 ⟨rfl, rfl⟩)
    have hno : parseOut l = ((0, 0), 4) := parseOut_none (by
      rintro x rfl
      rw [← hs'] at hsuf
      have : Lib.hasSuffix (Tx.textL (into x.1) (into x.2)) [105] = false := hsuf
      rw [Tx.textL_eq, ← List.append_assoc] at this
      have h2 : Lib.hasSuffix (Lib.itoa (into x.1) ++ Tx.imL (into x.2) ++ [105]) [105] = true := by
        unfold Lib.hasSuffix; rw [List.isSuffixOf_iff_suffix]; exact List.suffix_append _ _
      rw [h2] at this; cases this)
    exact bodyPost_ret (v := .tuple #[.agg #[.int .i64 0, .int .i64 0], .int .i64 4]) (by simp [results, Tryd.results15, go_sem]) rfl ⟨by rw [hno], by repeat (first | with_reducible exact Grew.refl _ | apply Grew.more | apply Grew.alloc | apply Grew.drew | apply Grew.drewN)⟩
  go_wp2_with (first
    | (go_at_call 44; refine (Tryd.strings_HasSuffix _ _ _ (by omega)).mono ?_; rintro e w1 ⟨rfl, rfl⟩)
    | (go_at_call 45; (with_reducible refine (atoi_any (s.extract 0 m) (by simp; omega) _ (HE.out.grew (by repeat (first | with_reducible exact Grew.refl _ | apply Grew.more | apply Grew.alloc | apply Grew.drew | apply Grew.drewN)))).mono ?_); rintro e w1 ⟨a, va, rfl, hba, hoa, R2, n2, rfl⟩; (have HOA := Lib.hid hoa); clear hoa)
    | (go_at_call 45; (with_reducible refine (atoi_any (s.extract m (l.length - 1)) (by simp; omega) _ (HE.out.grew (by repeat (first | with_reducible exact Grew.refl _ | apply Grew.more | apply Grew.alloc | apply Grew.drew | apply Grew.drewN)))).mono ?_); rintro e w1 ⟨b, vb, rfl, hbb, hob, R3, n3, rfl⟩; (have HOB := Lib.hid hob); clear hob)
    )
  have hex : ∀ X Y, l = Tx.textL (into X) (into Y) → a = into X ∧ b = into Y := by
    rintro X Y rfl
    have hc := cut_text (k := (m : Int)) (p := into X) (q := into Y) (by have := HK.out; rw [← hs'] at this; exact this)
    rw [Int.toNat_natCast] at hc
    obtain ⟨_, hc1, hc2⟩ := hc
    have rX := into_range X
    have rY := into_range Y
    have lX := Tx.itoa_len6 (into X) (by omega)
    have lY := Tx.itoa_len6 (into Y) (by omega)
    constructor
    · refine HOA.out _ ?_
      have e : (s.extract 0 m).data.toList = Lib.itoa (into X) := by rw [Lib.extract_data, ← hs']; simpa using hc1
      rw [e, Lib.atoiAll_short _ (by omega), Tx.atoi_itoa]; rfl
    · refine HOB.out _ ?_
      have e : (s.extract m ((Tx.textL (into X) (into Y)).length - 1)).data.toList = Tx.imL (into Y) := by
        rw [Lib.extract_data, ← hs', ← hc2, List.drop_take]
      have lI : (Tx.imL (into Y)).length ≤ 8 := by unfold Tx.imL; split <;> (try simp only [List.length_cons]) <;> omega
      rw [e, Lib.atoiAll_short _ (by omega), Tx.atoi_imL]; rfl
  have HEX := Lib.hid hex
  clear hex HOA HOB HK
  by_cases htx : l = Tx.textL (into a) (into b)
  · obtain ⟨ea, eb⟩ := HEX.out a b htx
    have hr : rightV (a, b) = true := by
      unfold rightV
      simp only
      rw [Bool.and_eq_true, decide_eq_true_iff, decide_eq_true_iff]
      exact ⟨ea, eb⟩
    have hpo : parseOut l = ((a, b), 0) := by
      rw [htx, parseOut_text, ← ea, ← eb]
    have HPO := Lib.hid hpo
    have HR := Lib.hid hr
    have htl : s.toList = Tx.textL (into a) (into b) := by rw [← htx, Lib.toList_data, ← hs']
    clear hpo htx ea eb hr
    go_wp2_with (first
      | (go_at_call 12; refine (text_xyL _ _ _ (HP.out.grew (by repeat (first | with_reducible exact Grew.refl _ | apply Grew.more | apply Grew.alloc | apply Grew.drew | apply Grew.drewN)))).mono ?_; rintro e w1 ⟨rfl, R4, n4, rfl⟩)
      | (go_at_call 46; refine (right_any (a, b) _).mono ?_; rintro e w1 ⟨rfl, R5, n5, rfl⟩; rw [HR.out])
      )
    exact bodyPost_ret (v := .tuple #[.agg #[.int .i64 a, .int .i64 b], .int .i64 0]) (by simp [results, Tryd.results15, go_sem]) rfl ⟨by rw [HPO.out], by repeat (first | with_reducible exact Grew.refl _ | apply Grew.more | apply Grew.alloc | apply Grew.drew | apply Grew.drewN)⟩
  · have hno : parseOut l = ((0, 0), 4) := parseOut_none (by
      intro x hx
      obtain ⟨ea, eb⟩ := HEX.out x.1 x.2 hx
      apply htx
      rw [ea, eb, into_into, into_into]; exact hx)
    have HNO := Lib.hid hno
    have htl : ¬ (Tx.textL (into a) (into b) = s.toList) := by
      rw [Lib.toList_data, ← hs']; exact fun h => htx h.symm
    clear hno htx
    go_wp2_with (go_at_call 12; refine (text_xyL _ _ _ (HP.out.grew (by repeat (first | with_reducible exact Grew.refl _ | apply Grew.more | apply Grew.alloc | apply Grew.drew | apply Grew.drewN)))).mono ?_; rintro e w1 ⟨rfl, R4, n4, rfl⟩)
    exact bodyPost_ret (v := .tuple #[.agg #[.int .i64 0, .int .i64 0], .int .i64 4]) (by simp [results, Tryd.results15, go_sem]) rfl ⟨by rw [HNO.out], by repeat (first | with_reducible exact Grew.refl _ | apply Grew.more | apply Grew.alloc | apply Grew.drew | apply Grew.drewN)⟩
end Go.Proofs.YtiocdmfmghanmaaDoor
