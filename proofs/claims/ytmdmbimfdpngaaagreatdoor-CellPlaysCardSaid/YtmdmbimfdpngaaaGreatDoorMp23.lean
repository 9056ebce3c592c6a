import Derived.Test.YtmdmbimfdpngaaaGreatDoorMp22
import Derived.Test.YtmdmbimfdpngaaaGreatDoorMp12
import Derived.Test.YtmdmbimfdpngaaaGreatDoorMp21
import Derived.Test.YtmdmbimfdpngaaaGreatDoorMp5
import Derived.Test.YtmdmbimfdpngaaaGreatDoorMp7
import Derived.Deep.RegionLaw
/-! code.Parse. -/
namespace Go.Proofs.YtmdmbimfdpngaaaGreatDoor
set_option linter.unusedSimpArgs false
set_option linter.unusedVariables false
open Go.RowKit Ga
set_option maxRecDepth 100000

/-- What strings.Index reads. -/
def CellM (w : World) : Prop := ∃ m : Int, w.cell? ⟨2, 0, none⟩ = some (.int .i64 m)

theorem CellM.grew {w w' : World} (h : CellM w) (g : Grew w w') : CellM w' := let ⟨m, hm⟩ := h; ⟨m, cell_grew hm g⟩
theorem cut_any (s sep : List UInt8) (hs : s.length ≤ 1000000) (w : World) (h : CellM w) :
    Calls Tryz.prog 73 #[.string ⟨s.toArray⟩, .string ⟨sep.toArray⟩] w (Gives (.tuple #[str (Lib.cut s sep).1, str (Lib.cut s sep).2.1, .bool (Lib.cut s sep).2.2]) w) := by
  obtain ⟨m, hm⟩ := h
  refine (Tryz.strings_Cut ⟨s.toArray⟩ ⟨sep.toArray⟩ m w (by show s.length < _; omega) hm).mono ?_
  rintro e w' ⟨rfl, n, rfl⟩
  exact ⟨rfl, (Grew.refl w).drewN n⟩

theorem atoiL_any (s : List UInt8) (hs : s.length ≤ 1000000) (w : World) (h : Errs w) :
    Calls Tryz.prog 74 #[.string ⟨s.toArray⟩] w (fun e w' => ∃ v : Value, e = .returned (.tuple #[.int .i64 (Co.atoiVal s), v]) ∧ Grew w w') := by
  obtain ⟨⟨t, p, h1⟩, ⟨t2, p2, h2⟩⟩ := h
  have key : ∀ r, Lib.atoiAll s = r → Calls Tryz.prog 74 #[.string ⟨s.toArray⟩] w (fun e w' => ∃ v : Value, e = .returned (.tuple #[.int .i64 (Co.atoiVal s), v]) ∧ Grew w w') := by
    intro r ha
    have hsz : (⟨s.toArray⟩ : ByteArray).size ≤ 1000000 := hs
    rcases r with m | _ | _
    · have hv : Co.atoiVal s = m := by unfold Co.atoiVal; rw [ha]
      rw [hv]
      refine (Tryz.strconv_Atoi_ok ⟨s.toArray⟩ (by omega) m ha w).mono ?_
      rintro e w' ⟨rfl, hw⟩
      refine ⟨_, rfl, ?_⟩
      rcases hw with rfl | ⟨t, rfl⟩
      · exact Grew.refl _
      · exact grew_bytes _ _ _
    · have hv : Co.atoiVal s = 0 := by unfold Co.atoiVal; rw [ha]
      rw [hv]
      refine (Tryz.strconv_Atoi_syntax_var ⟨s.toArray⟩ (by omega) ha t p w h1).mono ?_
      rintro e w' ⟨N, rfl, _, _, hb⟩
      exact ⟨_, rfl, Grew.ofBelow hb⟩
    · have hv : Co.atoiVal s = Lib.atoiSat s := by unfold Co.atoiVal; rw [ha]
      rw [hv]
      refine (Tryz.strconv_Atoi_range_var ⟨s.toArray⟩ (by omega) ha t2 p2 w h2).mono ?_
      rintro e w' ⟨N, rfl, _, _, hb⟩
      exact ⟨_, rfl, Grew.ofBelow hb⟩
  exact key _ rfl

theorem bytes_inj {a b : List UInt8} (h : (⟨a.toArray⟩ : ByteArray) = ⟨b.toArray⟩) : a = b := by cases h; rfl
theorem idxFromS_names (x : List UInt8) : ∀ (zs : List (List UInt8)) (i : Nat), Lib.idxFromS (zs.map fun l => (⟨l.toArray⟩ : ByteArray)) ⟨x.toArray⟩ i = if x ∈ zs then ((i + zs.idxOf x : Nat) : Int) else -1
  | [], i => by simp [Lib.idxFromS]
  | z :: zs, i => by
    have ih := idxFromS_names x zs (i + 1)
    rw [List.map_cons, Lib.idxFromS]
    by_cases h : z = x
    · subst h; simp
    · have h1 : ¬ ((⟨z.toArray⟩ : ByteArray) = ⟨x.toArray⟩) := fun e => h (bytes_inj e)
      have h2 : ¬ x = z := fun e => h e.symm
      simp only [h1, if_false, ih, List.mem_cons, h2, false_or, List.idxOf_cons]
      have h3 : (z == x) = false := by simpa using h
      rw [h3]
      split
      · congr 1; simp; omega
      · rfl
theorem idx_any (v : Value) (x : List UInt8) (w : World) (h : NamesAt v w) :
    Calls Tryz.prog 75 #[v, .string ⟨x.toArray⟩] w fun e w' => e = .returned (.int .i64 (Co.idxName x)) ∧ w' = w := by
  obtain ⟨b, rfl, hc⟩ := h
  have hI := Tryz.slices_Index_string b 0 18 18 (Co.namesL.map fun l => (⟨l.toArray⟩ : ByteArray)) ⟨x.toArray⟩ w (by decide) (by decide) (by
    intro j hj
    have hj18 : j < 18 := hj
    rw [Nat.zero_add, hc j hj18]
    rw [List.getD_eq_getElem?_getD, List.getD_eq_getElem?_getD, List.getElem?_map]
    have hl : j < Co.namesL.length := hj18
    rw [List.getElem?_eq_getElem hl]; rfl)
  refine hI.mono ?_
  rintro e w' ⟨rfl, rfl⟩
  refine ⟨?_, rfl⟩
  have : Lib.idxOfS ((Co.namesL.map fun l => (⟨l.toArray⟩ : ByteArray)).take 18) ⟨x.toArray⟩ = Co.idxName x := by
    have ht : (Co.namesL.map fun l => (⟨l.toArray⟩ : ByteArray)).take 18 = Co.namesL.map fun l => (⟨l.toArray⟩ : ByteArray) := List.take_of_length_le (by decide)
    rw [ht]
    unfold Lib.idxOfS Co.idxName
    rw [idxFromS_names]
    simp
  rw [this]

theorem cut_len (s sep : List UInt8) : (Lib.cut s sep).1.length ≤ s.length ∧ (Lib.cut s sep).2.1.length ≤ s.length := by
  unfold Lib.cut
  split
  · simp only [List.length_take, List.length_drop]; omega
  · simp

def sLen : Value → Nat
  | .slice _ n _ => n
  | _ => 0
def J1 (l : List UInt8) (w : World) (a' : Act) (w' : World) : Prop :=
  ∃ (p : List Val) (rest : List UInt8) (more : Bool) (v4 u1 u7 u8 u9 u10 u11 u12 u13 u14 u15 u16 u17 u18 u19 u20 u21 u22 u23 u24 u25 u26 u27 u28 u29 u30 u31 u32 u33 u34 u35 u36 u37 u38 u39 u40 u41 u42 u43 u44 u45 u46 u47 u48 u49 u50 : Value), a' = { tmps := #[str l, u1, .slice none 0 0, .int .i64 0, v4, str rest, .bool more, u7, u8, u9, u10, u11, u12, u13, u14, u15, u16, u17, u18, u19, u20, u21, u22, u23, u24, u25, u26, u27, u28, u29, u30, u31, u32, u33, u34, u35, u36, u37, u38, u39, u40, u41, u42, u43, u44, u45, u46, u47, u48, u49, u50], defers := [] } ∧ p.length ≤ 24 ∧ rest.length ≤ 1000000 ∧ Co.instrs l = p ++ (if more then Co.readI (25 - p.length) rest else []) ∧ OwnAt w.heap.size 124 2 encI w' v4 p ∧ Grew w w'

def J0 (l : List UInt8) (w : World) (a' : Act) (w' : World) : Prop :=
  ∃ (p : List Val) (v4 u1 u5 u6 u7 u8 u9 u10 u11 u12 u13 u14 u15 u16 u17 u18 u19 u20 u21 u22 u23 u24 u25 u26 u27 u28 u29 u30 u31 u32 u33 u34 u35 u36 u37 u38 u39 u40 u41 u42 u43 u44 u45 u46 u47 u48 u49 u50 : Value), a' = { tmps := #[str l, u1, .slice none 0 0, .int .i64 0, v4, u5, u6, u7, u8, u9, u10, u11, u12, u13, u14, u15, u16, u17, u18, u19, u20, u21, u22, u23, u24, u25, u26, u27, u28, u29, u30, u31, u32, u33, u34, u35, u36, u37, u38, u39, u40, u41, u42, u43, u44, u45, u46, u47, u48, u49, u50], defers := [] } ∧ p.length ≤ 25 ∧ Co.instrs l = p ∧ OwnAt w.heap.size 124 2 encI w' v4 p ∧ Grew w w'

theorem own_len {base : Nat} {w : World} {v : Value} {l : List Val} (h : OwnAt base 124 2 encI w v l) : sLen v = l.length := by
  rcases h.form with ⟨rfl, rfl⟩ | ⟨b, cap, rfl, _⟩ <;> rfl

set_option maxHeartbeats 8000000 in
theorem codeParse_any (l : List UInt8) (hs : l.length ≤ 1000000) (w : World) (hM : CellM w) (hE : Errs w) (hP : Pow w) (hA : Asc w) :
    Calls Tryz.prog 44 #[.string ⟨l.toArray⟩] w (fun e w' => ∃ v, e = .returned (.tuple #[v, .int .i64 (Co.parseI l).2]) ∧ ValsAt w' v (Co.parseI l).1 ∧ Grew w w') := by
  have HM := Lib.hid hM
  have HE := Lib.hid hE
  have HP := Lib.hid hP
  have HA := Lib.hid hA
  clear hM hE hP hA
  go_enter Tryz.func44, Tryz.ntmps44
  go_wp2
  refine wp_scope_jumps2' 1 0 (J1 l w) (J0 l w) (fun a _ => 26 - sLen (a.tmps.getD 4 undef)) rfl rfl ?_ ?_ ?_
  · rintro a' w' ⟨p, v4, u1, u5, u6, u7, u8, u9, u10, u11, u12, u13, u14, u15, u16, u17, u18, u19, u20, u21, u22, u23, u24, u25, u26, u27, u28, u29, u30, u31, u32, u33, u34, u35, u36, u37, u38, u39, u40, u41, u42, u43, u44, u45, u46, u47, u48, u49, u50, rfl, hp, hi, hown, R, n, rfl⟩
    have HO := Lib.hid hown
    clear hown
    have hrows : ValsAt (w.more R n) v4 p := HO.out.rows encI_len
    by_cases hq : Co.textOut p = l
    · have hpi : Co.parseI l = (p, 0) := by unfold Co.parseI; rw [hi, if_pos hq]
      have HPI := Lib.hid hpi
      have HQ := Lib.hid hq
      clear hpi hi hq
      go_wp2_with (go_at_call 77; refine (codeText_any _ p _ (hrows.grew (by repeat (first | with_reducible exact Grew.refl _ | apply Grew.more | apply Grew.alloc | apply Grew.drew | apply Grew.drewN))) (HP.out.grew (by repeat (first | with_reducible exact Grew.refl _ | apply Grew.more | apply Grew.alloc | apply Grew.drew | apply Grew.drewN))) (HA.out.grew (by repeat (first | with_reducible exact Grew.refl _ | apply Grew.more | apply Grew.alloc | apply Grew.drew | apply Grew.drewN)))).mono ?_; rintro e w1 ⟨rfl, R3, n3, rfl⟩; rw [HQ.out])
      rw [Exit.noGoto_ret]
      exact bodyPost_ret (v := .tuple #[v4, .int .i64 0]) (by simp [results, Tryz.results44, go_sem]) rfl ⟨_, by rw [HPI.out], by rw [HPI.out]; exact hrows.grew (by repeat (first | with_reducible exact Grew.refl _ | apply Grew.more | apply Grew.alloc | apply Grew.drew | apply Grew.drewN)), by repeat (first | with_reducible exact Grew.refl _ | apply Grew.more | apply Grew.alloc | apply Grew.drew | apply Grew.drewN)⟩
    · have hpi : Co.parseI l = ([], 4) := by unfold Co.parseI; rw [hi, if_neg hq]
      have HPI := Lib.hid hpi
      have hqb : (Co.textOut p == l) = false := beq_eq_false_iff_ne.2 hq
      clear hpi hi hq
      go_wp2_with (go_at_call 77; refine (codeText_any _ p _ (hrows.grew (by repeat (first | with_reducible exact Grew.refl _ | apply Grew.more | apply Grew.alloc | apply Grew.drew | apply Grew.drewN))) (HP.out.grew (by repeat (first | with_reducible exact Grew.refl _ | apply Grew.more | apply Grew.alloc | apply Grew.drew | apply Grew.drewN))) (HA.out.grew (by repeat (first | with_reducible exact Grew.refl _ | apply Grew.more | apply Grew.alloc | apply Grew.drew | apply Grew.drewN)))).mono ?_; rintro e w1 ⟨rfl, R3, n3, rfl⟩)
      rw [Exit.noGoto_ret]
      exact bodyPost_ret (v := .tuple #[.slice none 0 0, .int .i64 4]) (by simp [results, Tryz.results44, go_sem]) rfl ⟨_, by rw [HPI.out], by rw [HPI.out]; exact RowsAt.nil, by repeat (first | with_reducible exact Grew.refl _ | apply Grew.more | apply Grew.alloc | apply Grew.drew | apply Grew.drewN)⟩
  · rintro hend a' w' ⟨p, rest, more, v4, u1, u7, u8, u9, u10, u11, u12, u13, u14, u15, u16, u17, u18, u19, u20, u21, u22, u23, u24, u25, u26, u27, u28, u29, u30, u31, u32, u33, u34, u35, u36, u37, u38, u39, u40, u41, u42, u43, u44, u45, u46, u47, u48, u49, u50, rfl, hp, hrest, hi, hown, R, n, rfl⟩
    have hsl := own_len hown
    have HO := Lib.hid hown
    have HI := Lib.hid hi
    have HS := Lib.hid hsl
    have HEND := Lib.hid hend
    clear hown hi hsl hend
    cases more
    · go_wp2
      go_step3
      refine .inr ⟨rfl, p, v4, _, _, _, _, _, _, _, _, _, _, _, _, _, _, _, _, _, _, _, _, _, _, _, _, _, _, _, _, _, _, _, _, _, _, _, _, _, _, _, _, _, _, _, _, _, _, _, rfl, by omega, ?_, HO.out.grew (by repeat (first | with_reducible exact Grew.refl _ | apply Grew.more | apply Grew.alloc | apply Grew.drew | apply Grew.drewN)), by repeat (first | with_reducible exact Grew.refl _ | apply Grew.more | apply Grew.alloc | apply Grew.drew | apply Grew.drewN)⟩
      have h := HI.out
      simpa using h
    · obtain ⟨hc1, hc2⟩ := cut_len rest Co.sep
      obtain ⟨hc3, hc4⟩ := cut_len (Lib.cut rest Co.sep).1 [32]
      have hl1 : (Lib.cut rest [59, 32]).1.length ≤ 1000000 := by show (Lib.cut rest Co.sep).1.length ≤ _; omega
      have hl2 : (Lib.cut (Lib.cut rest [59, 32]).1 [32]).2.1.length ≤ 1000000 := by show (Lib.cut (Lib.cut rest Co.sep).1 [32]).2.1.length ≤ _; omega
      have hr1 := Co.atoiVal_range (Lib.cut (Lib.cut rest [59, 32]).1 [32]).2.1
      have hl3 : (Lib.cut rest Co.sep).2.1.length ≤ 1000000 := by omega
      have hi2 : Co.instrs l = (p ++ [Co.insOf (Lib.cut rest Co.sep).1]) ++ (if (Lib.cut rest Co.sep).2.2 then Co.readI (25 - (p.length + 1)) (Lib.cut rest Co.sep).2.1 else []) := by
        rw [HI.out, if_pos rfl, show 25 - p.length = (25 - (p.length + 1)) + 1 by omega, Co.readI]
        simp
      have HI2 := Lib.hid hi2
      clear hc1 hc3 hc4 hc2 hi2 HI
      go_wp2_with (first
      | (go_at_call 73; refine (cut_any _ _ (by assumption) _ (HM.out.grew (by repeat (first | with_reducible exact Grew.refl _ | apply Grew.more | apply Grew.alloc | apply Grew.drew | apply Grew.drewN)))).mono ?_; rintro e w1 ⟨rfl, R3, n3, rfl⟩)
      | (go_at_call 74; refine (atoiL_any _ (by assumption) _ (HE.out.grew (by repeat (first | with_reducible exact Grew.refl _ | apply Grew.more | apply Grew.alloc | apply Grew.drew | apply Grew.drewN)))).mono ?_; rintro e w1 ⟨ve, rfl, R4, n4, rfl⟩)
      | (go_at_call 76; refine (names_any _ (HA.out.grew (by repeat (first | with_reducible exact Grew.refl _ | apply Grew.more | apply Grew.alloc | apply Grew.drew | apply Grew.drewN)))).mono ?_; rintro e w1 ⟨v2, rfl, hv2, R5, n5, rfl⟩; (have HV2 := Lib.hid hv2); clear hv2)
      | (go_at_call 75; refine (idx_any _ _ _ (NamesAt.st _ _ _ HV2.out (by repeat (first | with_reducible exact Grew.refl _ | apply Grew.more | apply Grew.alloc | apply Grew.drew | apply Grew.drewN)))).mono ?_; rintro e w1 ⟨rfl, rfl⟩)
      | (at_builtin; refine wpList_own1 rfl (.tmp 35) (.tmp 41) 38 _ _ _ _ (Co.insOf (Lib.cut rest Co.sep).1) rfl Tryz.underlying38 infoIns rfl (by decide) encI_len encI_one rfl (HO.out.grew (by repeat (first | with_reducible exact Grew.refl _ | apply Grew.more | apply Grew.alloc | apply Grew.drew | apply Grew.drewN))) (by repeat (first | with_reducible exact Grew.refl _ | apply Grew.more | apply Grew.alloc | apply Grew.drew | apply Grew.drewN)) rfl (encI_at _ _ _ _ rfl (by simp [go_sem])) (by omega) (by decide) ?_; intro v9 R9 n9 hown9; obtain ⟨b9, c9, rfl, hb9, hc9, hm9⟩ := hown9.form1; (have HO9 := Lib.hid hown9); clear hown9 hb9 hc9 hm9)
      )
      · go_step3
        have hle : p.length + 1 ≤ 24 := by omega
        refine .inl ⟨rfl, ⟨p ++ [Co.insOf (Lib.cut rest Co.sep).1], (Lib.cut rest Co.sep).2.1, (Lib.cut rest Co.sep).2.2, _, _, _, _, _, _, _, _, _, _, _, _, _, _, _, _, _, _, _, _, _, _, _, _, _, _, _, _, _, _, _, _, _, _, _, _, _, _, _, _, _, _, _, _, _, _, rfl, by simpa using hle, hl3, by rw [List.length_append]; exact HI2.out, HO9.out, by repeat (first | with_reducible exact Grew.refl _ | apply Grew.more | apply Grew.alloc | apply Grew.drew | apply Grew.drewN)⟩, ?_⟩
        have h4 := HS.out
        show 26 - sLen _ < 26 - sLen _
        simp [sLen] at *
        omega
      · go_step3
        rename_i hgt K9 hK
        refine hK _ _ (HEND.out _ _ _ ⟨p ++ [Co.insOf (Lib.cut rest Co.sep).1], _, _, _, _, _, _, _, _, _, _, _, _, _, _, _, _, _, _, _, _, _, _, _, _, _, _, _, _, _, _, _, _, _, _, _, _, _, _, _, _, _, _, _, _, _, _, _, _, rfl, by simp; omega, ?_, HO9.out, by repeat (first | with_reducible exact Grew.refl _ | apply Grew.more | apply Grew.alloc | apply Grew.drew | apply Grew.drewN)⟩)
        rw [HI2.out]
        have h25 : 25 - (p.length + 1) = 0 := by omega
        rw [h25]
        simp [Co.readI]
  · intro hbody
    have HB := Lib.hid hbody
    clear hbody
    go_wp2
    go_step3
    rename_i hK
    refine hK _ _ (HB.out _ _ ⟨[], l, !l.isEmpty, _, _, _, _, _, _, _, _, _, _, _, _, _, _, _, _, _, _, _, _, _, _, _, _, _, _, _, _, _, _, _, _, _, _, _, _, _, _, _, _, _, _, _, _, _, _, rfl, Nat.zero_le _, hs, ?_, OwnAt.nil _, Grew.refl _⟩)
    unfold Co.instrs
    cases l <;> simp

end Go.Proofs.YtmdmbimfdpngaaaGreatDoor


/-! vm: the machine: push and pop. -/
namespace Go.Proofs.YtmdmbimfdpngaaaGreatDoor
set_option linter.unusedSimpArgs false
set_option linter.unusedVariables false
open Go.RowKit Ga
set_option maxRecDepth 100000

theorem infoVal : (Tryz.prog.info? 47).map (fun i => (i.zero, i.size, i.bytes)) = some (some (.agg #[.int .i64 0, .int .i64 0]), 2, 16) := by kernel_rfl

/-- The machine at block B. -/
structure MachAt (base B : Nat) (vp : Value) (inp : Val) (W : World) (vo vs : Value) (s : Vm.St) : Prop where
  hB : base ≤ B
  cB : W.heap[B]? = some (.cells #[vo, .int .i64 s.c0.1, .int .i64 s.c0.2, .int .i64 s.c1.1, .int .i64 s.c1.2, .int .i64 s.steps, vp, .int .i64 inp.1, .int .i64 inp.2, .int .i64 s.pc, vs] 194)
  ho : OwnAt base 47 2 encI W vo s.out
  hs : OwnAt base 47 2 encI W vs s.stack
  ne : ∀ q, vo.ownBlock = some q → vs.ownBlock ≠ some q
/-- .. wherever its slices lie. -/
def Mach (base B : Nat) (vp : Value) (inp : Val) (W : World) (s : Vm.St) : Prop := ∃ vo vs, MachAt base B vp inp W vo vs s
section
variable {base B : Nat} {vp vo vs : Value} {inp : Val} {W W' : World} {s : Vm.St}
theorem MachAt.grew (h : MachAt base B vp inp W vo vs s) (g : Grew W W') : MachAt base B vp inp W' vo vs s :=
  { h with cB := grew_heap g h.cB, ho := h.ho.grew g, hs := h.hs.grew g }
theorem Mach.grew (h : Mach base B vp inp W s) (g : Grew W W') : Mach base B vp inp W' s := let ⟨vo, vs, h⟩ := h; ⟨vo, vs, h.grew g⟩
theorem MachAt.neO (h : MachAt base B vp inp W vo vs s) : ∀ q, vo.ownBlock = some q → B ≠ q := fun q hq e => h.ho.other h.cB (by decide) (e ▸ hq)
theorem MachAt.neS (h : MachAt base B vp inp W vo vs s) : ∀ q, vs.ownBlock = some q → B ≠ q := fun q hq e => h.hs.other h.cB (by decide) (e ▸ hq)
theorem MachAt.ltB (h : MachAt base B vp inp W vo vs s) : B < W.heap.size := heap_lt h.cB
theorem MachAt.ltS (h : MachAt base B vp inp W vo vs s) : ∀ q, vs.ownBlock = some q → q < W.heap.size := fun q hq => let ⟨_, _, hc⟩ := h.hs.block hq; heap_lt hc
end
/-- Blocks but B and the stack's are as they were. -/
def Rest (B : Nat) (vs : Value) (W W' : World) : Prop := W.heap.size ≤ W'.heap.size ∧ ∀ q, q < W.heap.size → q ≠ B → vs.ownBlock ≠ some q → W'.heap[q]? = W.heap[q]?
theorem Rest.more {B : Nat} {vs : Value} {W W' W'' : World} (h : Rest B vs W W') (g : Grew W' W'') : Rest B vs W W'' :=
  ⟨Nat.le_trans h.1 g.below.size, fun q h0 h1 h2 => (g.below.block q (Nat.lt_of_lt_of_le h0 h.1)).trans (h.2 q h0 h1 h2)⟩
theorem rest_set (B : Nat) (vs : Value) (W : World) (v : Value) : Rest B vs W (W.setCell ⟨B, 10, none⟩ v) := ⟨by rw [World.size_setCell]; exact Nat.le_refl _, fun q _ h1 _ => set_other (fun e => h1 e.symm)⟩
/-- What a push or a pop leaves. -/
structure Moved (w0 : World) (B : Nat) (vp : Value) (inp : Val) (W : World) (vo vs : Value) (s' : Vm.St) (W' : World) (vs' : Value) : Prop where
  grew : Grew w0 W'
  at_ : MachAt w0.heap.size B vp inp W' vo vs' s'
  rest : Rest B vs W W'
  own : ∀ q, vs'.ownBlock = some q → vs.ownBlock = some q ∨ W.heap.size ≤ q
/-- Blocks of other types but B are as they were. -/
def Kept (B : Nat) (W W' : World) : Prop := ∀ q c t, W.heap[q]? = some (.cells c t) → t ≠ 47 → q ≠ B → W'.heap[q]? = some (.cells c t)
theorem Kept.refl (B : Nat) (W : World) : Kept B W W := fun _ _ _ h _ _ => h
theorem Kept.trans {B : Nat} {W W' W'' : World} (h : Kept B W W') (g : Kept B W' W'') : Kept B W W'' := fun q c t hq ht hB => g q c t (h q c t hq ht hB) ht hB
theorem Kept.grew {W W' : World} (B : Nat) (g : Grew W W') : Kept B W W' := fun q c t hq _ _ => grew_heap g hq
theorem Rest.kept {w0 W W' : World} {B : Nat} {vp : Value} {inp : Val} {vo vs : Value} {s : Vm.St} (h : Rest B vs W W') (hm : MachAt w0.heap.size B vp inp W vo vs s) : Kept B W W' := fun q c t hq ht hB =>
  (h.2 q (heap_lt hq) hB (hm.hs.other hq ht)).trans hq
theorem encI_new (W : World) (a : Val) (t : TypeId) (b : Nat) {c : Array Value} (hc : c = #[.int .i64 a.1, .int .i64 a.2]) (hb : b = W.heap.size) : ∀ j u, ([a].flatMap encI)[j]? = some u → (W.alloc (.cells c t)).cell? ⟨b, j, none⟩ = some u := by
  intro j u hj
  rw [List.flatMap_cons, List.flatMap_nil, List.append_nil] at hj
  exact encI_at W a t b hc hb j u hj

theorem own_one {base : Nat} {e : TypeId} {w : World} {v : Value} {l : List Val} {y : Val} (h : OwnAt base e 2 encI w v (l ++ [y])) : ∃ b cap, v = .slice (some ⟨b, 0, none⟩) (l.length + 1) cap := by
  obtain ⟨b, cap, hv⟩ := own_some' h (by simp)
  rw [List.length_append] at hv
  exact ⟨b, cap, hv⟩
/-- The stack behind a push: what the appended slice gives. -/
theorem MachAt.pushed {w0 W W1 W9 : World} {B : Nat} {vp vo vs v9 : Value} {inp : Val} {s : Vm.St} {v : Val} (h : MachAt w0.heap.size B vp inp W vo vs s) (g : Grew W W1) (hA : Appended w0 47 2 encI W1 vs (s.stack ++ [v]) v9 W9) :
    W9.heap[B]? = some (.cells #[vo, .int .i64 s.c0.1, .int .i64 s.c0.2, .int .i64 s.c1.1, .int .i64 s.c1.2, .int .i64 s.steps, vp, .int .i64 inp.1, .int .i64 inp.2, .int .i64 s.pc, vs] 194) ∧ Moved w0 B vp inp W vo vs (Vm.push1 s v) (W9.setCell ⟨B, 10, none⟩ v9) v9 := by
  obtain ⟨h1, h2, h3, h4, h5⟩ := hA
  have hB1 := grew_heap g h.cB
  have hB9 : W9.heap[B]? = some (.cells #[vo, .int .i64 s.c0.1, .int .i64 s.c0.2, .int .i64 s.c1.1, .int .i64 s.c1.2, .int .i64 s.steps, vp, .int .i64 inp.1, .int .i64 inp.2, .int .i64 s.pc, vs] 194) :=
    (h4 B (heap_lt hB1) (fun e => h.neS B e rfl)).trans hB1
  have hsz := g.below.size
  refine ⟨hB9, h1.set h.hB _, ⟨h.hB, by rw [set_self hB9]; rfl, ?_, ?_, fun q hq e => ?_⟩, ⟨by rw [World.size_setCell]; omega, fun q q0 q1 q2 => ?_⟩, fun q hq => ?_⟩
  · refine (h.ho.grew g).same fun q hq => ?_
    rw [set_other (h.neO q hq)]
    obtain ⟨_, c, hc⟩ := (h.ho.grew g).block hq
    exact h4 q (heap_lt hc) (h.ne q hq)
  · refine h2.same fun q hq => ?_
    rw [set_other]
    rintro rfl
    exact h2.other hB9 (by decide) hq
  · rcases h5 q e with h6 | h6
    · exact h.ne q hq h6
    · obtain ⟨_, c, hc⟩ := (h.ho.grew g).block hq
      have := heap_lt hc
      omega
  · rw [set_other (fun e => q1 e.symm), h4 q (by omega) q2]
    exact g.below.block q q0
  · rcases h5 q hq with h6 | h6
    · exact .inl h6
    · exact .inr (by omega)

set_option maxHeartbeats 4000000 in
theorem push_any (w0 W : World) (B : Nat) (vp : Value) (inp : Val) (s : Vm.St) (x y : Int) (vo vs : Value) (h : MachAt w0.heap.size B vp inp W vo vs s) (hg : Grew w0 W) (hl : s.stack.length ≤ 1000) :
    Calls Tryz.prog 168 #[.pointer (some ⟨B, 0, none⟩), .agg #[.int .i64 x, .int .i64 y]] W fun e W' => e = .returned (.tuple #[]) ∧ ∃ vs', Moved w0 B vp inp W vo vs (Vm.push1 s (x, y)) W' vs' := by
  have hc := cell_of (o := 10) h.cB
  have hp := Pre.mk (heap_lt h.cB)
  simp at hc
  have HM := Lib.hid h
  have HG := Lib.hid hg
  clear h hg
  go_enter Tryz.func168, Tryz.ntmps168
  go_wp2
  go_region_law (refine step_ownK (w0 := w0) rfl (.tmp 8) (.tmp 10) 108 _ _ _ _ [(x, y)] rfl Tryz.underlying108 infoVal rfl (by decide) encI_len encI_one rfl (HM.out.hs.grew (by repeat (first | with_reducible exact Grew.refl _ | apply Grew.more | apply Grew.alloc | apply Grew.drew | apply Grew.drewN))) (HG.out.trans (by repeat (first | with_reducible exact Grew.refl _ | apply Grew.more | apply Grew.alloc | apply Grew.drew | apply Grew.drewN))) rfl (encI_new _ _ _ _ rfl (by simp [go_sem])) (by simp; omega) (by decide) Nat.one_pos ?_; intro v9 W9 hA9; obtain ⟨hB9, hm9⟩ := HM.out.pushed (by repeat (first | with_reducible exact Grew.refl _ | apply Grew.more | apply Grew.alloc | apply Grew.drew | apply Grew.drewN)) hA9; obtain ⟨b9, c9, rfl⟩ := own_one hA9.2.1; (have hc9 := cell_of (o := 10) hB9); (have hf9 := frozen_of (o := 10) hB9); simp at hc9; (have HM9 := Lib.hid hm9); clear hA9 hm9 hB9)
  all_goals
    go_wp2
    go_end0
    exact ⟨rfl, _, HM9.out⟩

/-- .. behind a pop -/
theorem MachAt.popped {base B : Nat} {vp vo : Value} {inp : Val} {W : World} {b n cap : Nat} {s : Vm.St} (h : MachAt base B vp inp W vo (.slice (some ⟨b, 0, none⟩) n cap) s) (m : Nat) (hm : m = s.stack.length - 1) : MachAt base B vp inp (W.setCell ⟨B, 10, none⟩ (.slice (some ⟨b, 0, none⟩) m cap)) vo (.slice (some ⟨b, 0, none⟩) m cap) (Vm.pop1 s) := by
  subst hm
  have hcut := h.hs.cut encI_len (m := s.stack.length - 1) (Nat.sub_le _ _)
  refine ⟨h.hB, by rw [set_self h.cB]; rfl, ?_, ?_, h.ne⟩
  · exact h.ho.same fun q hq => set_other (h.neO q hq)
  · have : (Vm.pop1 s).stack = s.stack.take (s.stack.length - 1) := by show s.stack.dropLast = _; rw [List.dropLast_eq_take]
    rw [this]
    exact hcut.same fun q hq => set_other (h.neS q hq)

set_option maxHeartbeats 4000000 in
theorem pop_any (w0 W : World) (B : Nat) (vp : Value) (inp : Val) (s : Vm.St) (vo vs : Value) (h : MachAt w0.heap.size B vp inp W vo vs s) (hg : Grew w0 W) (h0 : 0 < s.stack.length) (hl : s.stack.length ≤ 1000) :
    Calls Tryz.prog 169 #[.pointer (some ⟨B, 0, none⟩)] W fun e W' => e = .returned (.agg #[.int .i64 (Vm.top1 s).1, .int .i64 (Vm.top1 s).2]) ∧ ∃ vs', Moved w0 B vp inp W vo vs (Vm.pop1 s) W' vs' := by
  obtain ⟨b, cap, rfl⟩ := own_some' h.hs h0
  have hc := cell_of (o := 10) h.cB
  have hf := frozen_of (o := 10) h.cB
  have hp := Pre.mk (heap_lt h.cB)
  simp at hc
  have hcap : s.stack.length ≤ cap ∧ cap ≤ maxLen := by
    rcases h.hs.form with ⟨h, _⟩ | ⟨_, _, h, _, h1, h2⟩
    · cases h
    · cases h; exact ⟨h1, h2⟩
  obtain ⟨hcap1, hcap2⟩ := hcap
  unfold maxLen at hcap2
  have hr : ValsAt W (.slice (some ⟨b, 0, none⟩) s.stack.length cap) s.stack := h.hs.rows encI_len
  obtain ⟨a', cap', e', _, hx⟩ := hr.open2
  cases e'
  obtain ⟨b', off, e', hb, hx0, hx1⟩ := hx (s.stack.length - 1) (by omega)
  cases e'
  have ht : s.stack[s.stack.length - 1] = Vm.top1 s := by
    unfold Vm.top1
    rw [List.getLastD_eq_getLast?, List.getLast?_eq_getElem?, List.getElem?_eq_getElem (by omega)]; rfl
  rw [ht] at hx0 hx1
  have HM := Lib.hid h
  have HG := Lib.hid hg
  generalize htt : Vm.top1 s = t at *
  obtain ⟨x, y⟩ := t
  simp only at hx0 hx1 ⊢
  rw [Nat.zero_add] at hx0 hx1
  have hk1 : ((s.stack.length : Int) - 1).toNat = s.stack.length - 1 := by omega
  clear h hg hr hx ht htt
  go_enter Tryz.func169, Tryz.ntmps169
  go_wp2
  refine bodyPost_ret (v := .agg #[.int .i64 x, .int .i64 y]) (by simp [results, Tryz.results169, go_sem]) rfl ⟨rfl, _, (HG.out.set HM.out.hB _).trans (by repeat (first | with_reducible exact Grew.refl _ | apply Grew.more | apply Grew.alloc | apply Grew.drew | apply Grew.drewN)), (HM.out.popped _ rfl).grew (by repeat (first | with_reducible exact Grew.refl _ | apply Grew.more | apply Grew.alloc | apply Grew.drew | apply Grew.drewN)), (rest_set B (.slice (some ⟨b, 0, none⟩) s.stack.length cap) W (.slice (some ⟨b, 0, none⟩) (s.stack.length - 1) cap)).more (by repeat (first | with_reducible exact Grew.refl _ | apply Grew.more | apply Grew.alloc | apply Grew.drew | apply Grew.drewN)), fun q hq => .inl hq⟩
end Go.Proofs.YtmdmbimfdpngaaaGreatDoor
