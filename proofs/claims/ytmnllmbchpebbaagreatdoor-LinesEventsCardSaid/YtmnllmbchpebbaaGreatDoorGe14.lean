import Derived.Test.YtmnllmbchpebbaaGreatDoorGe8
import Derived.Test.YtmnllmbchpebbaaGreatDoorGe2
import Derived.Test.YtmnllmbchpebbaaGreatDoorGe10
import Derived.Test.YtmnllmbchpebbaaGreatDoorGe5
/-! code.Parse. -/
namespace Go.Proofs.YtmnllmbchpebbaaGreatDoor
set_option linter.unusedSimpArgs false
set_option linter.unusedVariables false
open Go.RowKit Ga
set_option maxRecDepth 100000

/-- What strings.Index reads. -/
def CellM (w : World) : Prop := ∃ m : Int, w.cell? ⟨0, 0, none⟩ = some (.int .i64 m)

theorem CellM.grew {w w' : World} (h : CellM w) (g : Grew w w') : CellM w' := let ⟨m, hm⟩ := h; ⟨m, cell_grew hm g⟩
theorem cut_any (s sep : List UInt8) (hs : s.length ≤ 1000000) (w : World) (h : CellM w) :
    Calls Tryz.prog 54 #[.string ⟨s.toArray⟩, .string ⟨sep.toArray⟩] w (Gives (.tuple #[str (Lib.cut s sep).1, str (Lib.cut s sep).2.1, .bool (Lib.cut s sep).2.2]) w) := by
  obtain ⟨m, hm⟩ := h
  refine (Tryz.strings_Cut ⟨s.toArray⟩ ⟨sep.toArray⟩ m w (by show s.length < _; omega) hm).mono ?_
  rintro e w' ⟨rfl, n, rfl⟩
  exact ⟨rfl, (Grew.refl w).drewN n⟩

theorem atoiL_any (s : List UInt8) (hs : s.length ≤ 1000000) (w : World) (h : Errs w) :
    Calls Tryz.prog 62 #[.string ⟨s.toArray⟩] w (fun e w' => ∃ v : Value, e = .returned (.tuple #[.int .i64 (Co.atoiVal s), v]) ∧ Grew w w') := by
  obtain ⟨⟨t, p, h1⟩, ⟨t2, p2, h2⟩⟩ := h
  have key : ∀ r, Lib.atoiAll s = r → Calls Tryz.prog 62 #[.string ⟨s.toArray⟩] w (fun e w' => ∃ v : Value, e = .returned (.tuple #[.int .i64 (Co.atoiVal s), v]) ∧ Grew w w') := by
    intro r ha
    have hsz : (⟨s.toArray⟩ : ByteArray).size ≤ 1000000 := hs
    rcases r with m | _ | _
    · have hv : Co.atoiVal s = m := by unfold Co.atoiVal; rw [ha]
      rw [hv]
      refine (Tryz.strconv_Atoi_ok ⟨s.toArray⟩ (by omega) m ha w).mono ?_
      rintro e w' ⟨rfl, hw⟩
      refine ⟨_, rfl, ?_⟩
      rcases hw with rfl | ⟨t, rfl⟩
      · exact Grew.refl _
      · exact grew_bytes _ _ _
    · have hv : Co.atoiVal s = 0 := by unfold Co.atoiVal; rw [ha]
      rw [hv]
      refine (Tryz.strconv_Atoi_syntax_var ⟨s.toArray⟩ (by omega) ha t p w h1).mono ?_
      rintro e w' ⟨N, rfl, _, _, hb⟩
      exact ⟨_, rfl, Grew.ofBelow hb⟩
    · have hv : Co.atoiVal s = Lib.atoiSat s := by unfold Co.atoiVal; rw [ha]
      rw [hv]
      refine (Tryz.strconv_Atoi_range_var ⟨s.toArray⟩ (by omega) ha t2 p2 w h2).mono ?_
      rintro e w' ⟨N, rfl, _, _, hb⟩
      exact ⟨_, rfl, Grew.ofBelow hb⟩
  exact key _ rfl

theorem bytes_inj {a b : List UInt8} (h : (⟨a.toArray⟩ : ByteArray) = ⟨b.toArray⟩) : a = b := by cases h; rfl
theorem idxFromS_names (x : List UInt8) : ∀ (zs : List (List UInt8)) (i : Nat), Lib.idxFromS (zs.map fun l => (⟨l.toArray⟩ : ByteArray)) ⟨x.toArray⟩ i = if x ∈ zs then ((i + zs.idxOf x : Nat) : Int) else -1
  | [], i => by simp [Lib.idxFromS]
  | z :: zs, i => by
    have ih := idxFromS_names x zs (i + 1)
    rw [List.map_cons, Lib.idxFromS]
    by_cases h : z = x
    · subst h; simp
    · have h1 : ¬ ((⟨z.toArray⟩ : ByteArray) = ⟨x.toArray⟩) := fun e => h (bytes_inj e)
      have h2 : ¬ x = z := fun e => h e.symm
      simp only [h1, if_false, ih, List.mem_cons, h2, false_or, List.idxOf_cons]
      have h3 : (z == x) = false := by simpa using h
      rw [h3]
      split
      · congr 1; simp; omega
      · rfl
theorem idx_any (v : Value) (x : List UInt8) (w : World) (h : NamesAt v w) :
    Calls Tryz.prog 136 #[v, .string ⟨x.toArray⟩] w fun e w' => e = .returned (.int .i64 (Co.idxName x)) ∧ w' = w := by
  obtain ⟨b, rfl, hc⟩ := h
  have hI := Tryz.slices_Index_string b 0 18 18 (Co.namesL.map fun l => (⟨l.toArray⟩ : ByteArray)) ⟨x.toArray⟩ w (by decide) (by decide) (by
    intro j hj
    have hj18 : j < 18 := hj
    rw [Nat.zero_add, hc j hj18]
    rw [List.getD_eq_getElem?_getD, List.getD_eq_getElem?_getD, List.getElem?_map]
    have hl : j < Co.namesL.length := hj18
    rw [List.getElem?_eq_getElem hl]; rfl)
  refine hI.mono ?_
  rintro e w' ⟨rfl, rfl⟩
  refine ⟨?_, rfl⟩
  have : Lib.idxOfS ((Co.namesL.map fun l => (⟨l.toArray⟩ : ByteArray)).take 18) ⟨x.toArray⟩ = Co.idxName x := by
    have ht : (Co.namesL.map fun l => (⟨l.toArray⟩ : ByteArray)).take 18 = Co.namesL.map fun l => (⟨l.toArray⟩ : ByteArray) := List.take_of_length_le (by decide)
    rw [ht]
    unfold Lib.idxOfS Co.idxName
    rw [idxFromS_names]
    simp
  rw [this]

theorem cut_len (s sep : List UInt8) : (Lib.cut s sep).1.length ≤ s.length ∧ (Lib.cut s sep).2.1.length ≤ s.length := by
  unfold Lib.cut
  split
  · simp only [List.length_take, List.length_drop]; omega
  · simp

def sLen : Value → Nat
  | .slice _ n _ => n
  | _ => 0
def J1 (l : List UInt8) (w : World) (a' : Act) (w' : World) : Prop :=
  ∃ (p : List Val) (rest : List UInt8) (more : Bool) (v4 u1 u7 u8 u9 u10 u11 u12 u13 u14 u15 u16 u17 u18 u19 u20 u21 u22 u23 u24 u25 u26 u27 u28 u29 u30 u31 u32 u33 u34 u35 u36 u37 u38 u39 u40 u41 u42 u43 u44 u45 u46 u47 u48 u49 u50 : Value), a' = { tmps := #[str l, u1, .slice none 0 0, .int .i64 0, v4, str rest, .bool more, u7, u8, u9, u10, u11, u12, u13, u14, u15, u16, u17, u18, u19, u20, u21, u22, u23, u24, u25, u26, u27, u28, u29, u30, u31, u32, u33, u34, u35, u36, u37, u38, u39, u40, u41, u42, u43, u44, u45, u46, u47, u48, u49, u50], defers := [] } ∧ p.length ≤ 24 ∧ rest.length ≤ 1000000 ∧ Co.instrs l = p ++ (if more then Co.readI (25 - p.length) rest else []) ∧ OwnAt w.heap.size 131 2 encI w' v4 p ∧ Grew w w'

def J0 (l : List UInt8) (w : World) (a' : Act) (w' : World) : Prop :=
  ∃ (p : List Val) (v4 u1 u5 u6 u7 u8 u9 u10 u11 u12 u13 u14 u15 u16 u17 u18 u19 u20 u21 u22 u23 u24 u25 u26 u27 u28 u29 u30 u31 u32 u33 u34 u35 u36 u37 u38 u39 u40 u41 u42 u43 u44 u45 u46 u47 u48 u49 u50 : Value), a' = { tmps := #[str l, u1, .slice none 0 0, .int .i64 0, v4, u5, u6, u7, u8, u9, u10, u11, u12, u13, u14, u15, u16, u17, u18, u19, u20, u21, u22, u23, u24, u25, u26, u27, u28, u29, u30, u31, u32, u33, u34, u35, u36, u37, u38, u39, u40, u41, u42, u43, u44, u45, u46, u47, u48, u49, u50], defers := [] } ∧ p.length ≤ 25 ∧ Co.instrs l = p ∧ OwnAt w.heap.size 131 2 encI w' v4 p ∧ Grew w w'

theorem own_len {base : Nat} {w : World} {v : Value} {l : List Val} (h : OwnAt base 131 2 encI w v l) : sLen v = l.length := by
  rcases h.form with ⟨rfl, rfl⟩ | ⟨b, cap, rfl, _⟩ <;> rfl

set_option maxHeartbeats 8000000 in
theorem codeParseO_any (l : List UInt8) (hs : l.length ≤ 1000000) (w : World) (hM : CellM w) (hE : Errs w) (hP : Pow w) (hA : Asc w) :
    Calls Tryz.prog 103 #[.string ⟨l.toArray⟩] w (fun e w' => ∃ v, e = .returned (.tuple #[v, .int .i64 (Co.parseI l).2]) ∧ OwnAt w.heap.size 131 2 encI w' v (Co.parseI l).1 ∧ Grew w w') := by
  have HM := Lib.hid hM
  have HE := Lib.hid hE
  have HP := Lib.hid hP
  have HA := Lib.hid hA
  clear hM hE hP hA
  go_enter Tryz.func103, Tryz.ntmps103
  go_wp2
  refine wp_scope_jumps2' 1 0 (J1 l w) (J0 l w) (fun a _ => 26 - sLen (a.tmps.getD 4 undef)) rfl rfl ?_ ?_ ?_
  · rintro a' w' ⟨p, v4, u1, u5, u6, u7, u8, u9, u10, u11, u12, u13, u14, u15, u16, u17, u18, u19, u20, u21, u22, u23, u24, u25, u26, u27, u28, u29, u30, u31, u32, u33, u34, u35, u36, u37, u38, u39, u40, u41, u42, u43, u44, u45, u46, u47, u48, u49, u50, rfl, hp, hi, hown, R, n, rfl⟩
    have HO := Lib.hid hown
    clear hown
    have hrows : ValsAt (w.more R n) v4 p := HO.out.rows encI_len
    by_cases hq : Co.textOut p = l
    · have hpi : Co.parseI l = (p, 0) := by unfold Co.parseI; rw [hi, if_pos hq]
      have HPI := Lib.hid hpi
      have HQ := Lib.hid hq
      clear hpi hi hq
      go_wp2_with (go_at_call 69; refine (codeText_any _ p _ (hrows.grew (by repeat (first | with_reducible exact Grew.refl _ | apply Grew.more | apply Grew.alloc | apply Grew.drew | apply Grew.drewN))) (HP.out.grew (by repeat (first | with_reducible exact Grew.refl _ | apply Grew.more | apply Grew.alloc | apply Grew.drew | apply Grew.drewN))) (HA.out.grew (by repeat (first | with_reducible exact Grew.refl _ | apply Grew.more | apply Grew.alloc | apply Grew.drew | apply Grew.drewN)))).mono ?_; rintro e w1 ⟨rfl, R3, n3, rfl⟩; rw [HQ.out])
      rw [Exit.noGoto_ret]
      exact bodyPost_ret (v := .tuple #[v4, .int .i64 0]) (by simp [results, Tryz.results103, go_sem]) rfl ⟨_, by rw [HPI.out], by rw [HPI.out]; exact HO.out.grew (by repeat (first | with_reducible exact Grew.refl _ | apply Grew.more | apply Grew.alloc | apply Grew.drew | apply Grew.drewN)), by repeat (first | with_reducible exact Grew.refl _ | apply Grew.more | apply Grew.alloc | apply Grew.drew | apply Grew.drewN)⟩
    · have hpi : Co.parseI l = ([], 4) := by unfold Co.parseI; rw [hi, if_neg hq]
      have HPI := Lib.hid hpi
      have hqb : (Co.textOut p == l) = false := beq_eq_false_iff_ne.2 hq
      clear hpi hi hq
      go_wp2_with (go_at_call 69; refine (codeText_any _ p _ (hrows.grew (by repeat (first | with_reducible exact Grew.refl _ | apply Grew.more | apply Grew.alloc | apply Grew.drew | apply Grew.drewN))) (HP.out.grew (by repeat (first | with_reducible exact Grew.refl _ | apply Grew.more | apply Grew.alloc | apply Grew.drew | apply Grew.drewN))) (HA.out.grew (by repeat (first | with_reducible exact Grew.refl _ | apply Grew.more | apply Grew.alloc | apply Grew.drew | apply Grew.drewN)))).mono ?_; rintro e w1 ⟨rfl, R3, n3, rfl⟩)
      rw [Exit.noGoto_ret]
      exact bodyPost_ret (v := .tuple #[.slice none 0 0, .int .i64 4]) (by simp [results, Tryz.results103, go_sem]) rfl ⟨_, by rw [HPI.out], by rw [HPI.out]; exact OwnAt.nil _, by repeat (first | with_reducible exact Grew.refl _ | apply Grew.more | apply Grew.alloc | apply Grew.drew | apply Grew.drewN)⟩
  · rintro hend a' w' ⟨p, rest, more, v4, u1, u7, u8, u9, u10, u11, u12, u13, u14, u15, u16, u17, u18, u19, u20, u21, u22, u23, u24, u25, u26, u27, u28, u29, u30, u31, u32, u33, u34, u35, u36, u37, u38, u39, u40, u41, u42, u43, u44, u45, u46, u47, u48, u49, u50, rfl, hp, hrest, hi, hown, R, n, rfl⟩
    have hsl := own_len hown
    have HO := Lib.hid hown
    have HI := Lib.hid hi
    have HS := Lib.hid hsl
    have HEND := Lib.hid hend
    clear hown hi hsl hend
    cases more
    · go_wp2
      go_step3
      refine .inr ⟨rfl, p, v4, _, _, _, _, _, _, _, _, _, _, _, _, _, _, _, _, _, _, _, _, _, _, _, _, _, _, _, _, _, _, _, _, _, _, _, _, _, _, _, _, _, _, _, _, _, _, _, rfl, by omega, ?_, HO.out.grew (by repeat (first | with_reducible exact Grew.refl _ | apply Grew.more | apply Grew.alloc | apply Grew.drew | apply Grew.drewN)), by repeat (first | with_reducible exact Grew.refl _ | apply Grew.more | apply Grew.alloc | apply Grew.drew | apply Grew.drewN)⟩
      have h := HI.out
      simpa using h
    · obtain ⟨hc1, hc2⟩ := cut_len rest Co.sep
      obtain ⟨hc3, hc4⟩ := cut_len (Lib.cut rest Co.sep).1 [32]
      have hl1 : (Lib.cut rest [59, 32]).1.length ≤ 1000000 := by show (Lib.cut rest Co.sep).1.length ≤ _; omega
      have hl2 : (Lib.cut (Lib.cut rest [59, 32]).1 [32]).2.1.length ≤ 1000000 := by show (Lib.cut (Lib.cut rest Co.sep).1 [32]).2.1.length ≤ _; omega
      have hr1 := Co.atoiVal_range (Lib.cut (Lib.cut rest [59, 32]).1 [32]).2.1
      have hl3 : (Lib.cut rest Co.sep).2.1.length ≤ 1000000 := by omega
      have hi2 : Co.instrs l = (p ++ [Co.insOf (Lib.cut rest Co.sep).1]) ++ (if (Lib.cut rest Co.sep).2.2 then Co.readI (25 - (p.length + 1)) (Lib.cut rest Co.sep).2.1 else []) := by
        rw [HI.out, if_pos rfl, show 25 - p.length = (25 - (p.length + 1)) + 1 by omega, Co.readI]
        simp
      have HI2 := Lib.hid hi2
      clear hc1 hc3 hc4 hc2 hi2 HI
      go_wp2_with (first
      | (go_at_call 54; refine (cut_any _ _ (by assumption) _ (HM.out.grew (by repeat (first | with_reducible exact Grew.refl _ | apply Grew.more | apply Grew.alloc | apply Grew.drew | apply Grew.drewN)))).mono ?_; rintro e w1 ⟨rfl, R3, n3, rfl⟩)
      | (go_at_call 62; refine (atoiL_any _ (by assumption) _ (HE.out.grew (by repeat (first | with_reducible exact Grew.refl _ | apply Grew.more | apply Grew.alloc | apply Grew.drew | apply Grew.drewN)))).mono ?_; rintro e w1 ⟨ve, rfl, R4, n4, rfl⟩)
      | (go_at_call 109; refine (names_any _ (HA.out.grew (by repeat (first | with_reducible exact Grew.refl _ | apply Grew.more | apply Grew.alloc | apply Grew.drew | apply Grew.drewN)))).mono ?_; rintro e w1 ⟨v2, rfl, hv2, R5, n5, rfl⟩; (have HV2 := Lib.hid hv2); clear hv2)
      | (go_at_call 136; refine (idx_any _ _ _ (NamesAt.st _ _ _ HV2.out (by repeat (first | with_reducible exact Grew.refl _ | apply Grew.more | apply Grew.alloc | apply Grew.drew | apply Grew.drewN)))).mono ?_; rintro e w1 ⟨rfl, rfl⟩)
      | (at_builtin; refine wpList_own1 rfl (.tmp 35) (.tmp 41) 39 _ _ _ _ (Co.insOf (Lib.cut rest Co.sep).1) rfl Tryz.underlying39 infoIns rfl (by decide) encI_len encI_one rfl (HO.out.grew (by repeat (first | with_reducible exact Grew.refl _ | apply Grew.more | apply Grew.alloc | apply Grew.drew | apply Grew.drewN))) (by repeat (first | with_reducible exact Grew.refl _ | apply Grew.more | apply Grew.alloc | apply Grew.drew | apply Grew.drewN)) rfl (encI_at _ _ _ _ rfl (by simp [go_sem])) (by omega) (by decide) ?_; intro v9 R9 n9 hown9; obtain ⟨b9, c9, rfl, hb9, hc9, hm9⟩ := hown9.form1; (have HO9 := Lib.hid hown9); clear hown9 hb9 hc9 hm9)
      )
      · go_step3
        have hle : p.length + 1 ≤ 24 := by omega
        refine .inl ⟨rfl, ⟨p ++ [Co.insOf (Lib.cut rest Co.sep).1], (Lib.cut rest Co.sep).2.1, (Lib.cut rest Co.sep).2.2, _, _, _, _, _, _, _, _, _, _, _, _, _, _, _, _, _, _, _, _, _, _, _, _, _, _, _, _, _, _, _, _, _, _, _, _, _, _, _, _, _, _, _, _, _, _, rfl, by simpa using hle, hl3, by rw [List.length_append]; exact HI2.out, HO9.out, by repeat (first | with_reducible exact Grew.refl _ | apply Grew.more | apply Grew.alloc | apply Grew.drew | apply Grew.drewN)⟩, ?_⟩
        have h4 := HS.out
        show 26 - sLen _ < 26 - sLen _
        simp [sLen] at *
        omega
      · go_step3
        rename_i hgt K9 hK
        refine hK _ _ (HEND.out _ _ _ ⟨p ++ [Co.insOf (Lib.cut rest Co.sep).1], _, _, _, _, _, _, _, _, _, _, _, _, _, _, _, _, _, _, _, _, _, _, _, _, _, _, _, _, _, _, _, _, _, _, _, _, _, _, _, _, _, _, _, _, _, _, _, _, rfl, by simp; omega, ?_, HO9.out, by repeat (first | with_reducible exact Grew.refl _ | apply Grew.more | apply Grew.alloc | apply Grew.drew | apply Grew.drewN)⟩)
        rw [HI2.out]
        have h25 : 25 - (p.length + 1) = 0 := by omega
        rw [h25]
        simp [Co.readI]
  · intro hbody
    have HB := Lib.hid hbody
    clear hbody
    go_wp2
    go_step3
    rename_i hK
    refine hK _ _ (HB.out _ _ ⟨[], l, !l.isEmpty, _, _, _, _, _, _, _, _, _, _, _, _, _, _, _, _, _, _, _, _, _, _, _, _, _, _, _, _, _, _, _, _, _, _, _, _, _, _, _, _, _, _, _, _, _, _, rfl, Nat.zero_le _, hs, ?_, OwnAt.nil _, Grew.refl _⟩)
    unfold Co.instrs
    cases l <;> simp
end Go.Proofs.YtmnllmbchpebbaaGreatDoor

