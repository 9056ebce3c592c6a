import Derived.Test.YtmnllmbchpebbaaGreatDoorGe5
import Derived.Test.YtmnllmbchpebbaaGreatDoorGe3
import Derived.Test.YtmnllmbchpebbaaGreatDoorGe4
import Derived.Test.YtmnllmbchpebbaaGreatDoorGe0
/-! forebayref03.Text. -/
namespace Go.Proofs.YtmnllmbchpebbaaGreatDoor
set_option linter.unusedSimpArgs false
set_option linter.unusedVariables false
open Go.RowKit Ga
set_option maxRecDepth 100000

theorem textL_lt {x y : Int} (h : y < 0) : Tx.textL x y = Lib.itoa x ++ Lib.itoa y ++ [105] := by unfold Tx.textL; rw [if_pos h]; simp
theorem textL_ge {x y : Int} (h : ¬ y < 0) : Tx.textL x y = Lib.itoa x ++ [43] ++ Lib.itoa y ++ [105] := by unfold Tx.textL; rw [if_neg h]

set_option maxHeartbeats 1000000 in
theorem refText_any (x y : Int) (h : okVal (x, y)) (w : World) : Calls Tryz.prog 40 #[.agg #[.int .i64 x, .int .i64 y]] w (Gives (str (Tx.textL x y)) w) := by
  obtain ⟨hx, hy⟩ := h
  simp only at hx hy
  have l1 := itoa_len x (by omega)
  have l2 := itoa_len y (by omega)
  by_cases hneg : y < 0
  · go_enter Tryz.func40, Tryz.ntmps40
    go_wp2
    refine wp_region_seq 9 Tryz.mixed (by kernel_rfl) (by kernel_rfl) ?_
    iterate 9
      apply Seq.val
      focus
        rintro w1 u ⟨R1, n1, rfl⟩ hF
        simp [moreFacts, Fact.more, Oper.deps, Region.binds, List.filter_cons, World.more_drew] at hF
        simp [putFacts, Oper.deps, Region.binds, List.filter_cons, Region.dstOf, Fact.at, Act.put, World.more_drew]
        go_wp2_with (first
          | (go_at_call 19; refine (digits_any _ (by omega) _).mono ?_; rintro e w1 ⟨rfl, rfl⟩)
          )
        exact ⟨by repeat (first | with_reducible exact Grew.refl _ | apply Grew.more | apply Grew.alloc | apply Grew.drew | apply Grew.drewN), rfl, _, _, rfl, rfl, rfl⟩
    rintro u w1 ⟨R1, n1, rfl⟩ hF
    clear hF
    simp [putFacts, Region.dstOf, Fact.at, Act.put, List.range_succ, World.more_drew]
    go_wp2
    go_ret
    refine ⟨?_, ?_⟩
    · rw [textL_lt hneg]
      exact congrArg (fun b => Ending.returned (Value.string b)) (by first | (rw [← str_cat, ← str_cat]; done) | (rw [← str_cat, ← str_cat]; rfl))
    · repeat (first | with_reducible exact Grew.refl _ | apply Grew.more | apply Grew.alloc | apply Grew.drew | apply Grew.drewN)
  · go_enter Tryz.func40, Tryz.ntmps40
    go_wp2
    refine wp_region_seq 10 Tryz.mixed (by kernel_rfl) (by kernel_rfl) ?_
    iterate 10
      apply Seq.val
      focus
        rintro w1 u ⟨R1, n1, rfl⟩ hF
        simp [moreFacts, Fact.more, Oper.deps, Region.binds, List.filter_cons, World.more_drew] at hF
        simp [putFacts, Oper.deps, Region.binds, List.filter_cons, Region.dstOf, Fact.at, Act.put, World.more_drew]
        go_wp2_with (first
          | (go_at_call 19; refine (digits_any _ (by omega) _).mono ?_; rintro e w1 ⟨rfl, rfl⟩)
          )
        exact ⟨by repeat (first | with_reducible exact Grew.refl _ | apply Grew.more | apply Grew.alloc | apply Grew.drew | apply Grew.drewN), rfl, _, _, rfl, rfl, rfl⟩
    rintro u w1 ⟨R1, n1, rfl⟩ hF
    clear hF
    simp [putFacts, Region.dstOf, Fact.at, Act.put, List.range_succ, World.more_drew]
    go_wp2
    go_ret
    refine ⟨?_, ?_⟩
    · rw [textL_ge (by omega)]
      exact congrArg (fun b => Ending.returned (Value.string b)) (by first | (rw [← str_cat, ← str_cat, ← str_cat]; done) | (rw [← str_cat, ← str_cat, ← str_cat]; rfl))
    · repeat (first | with_reducible exact Grew.refl _ | apply Grew.more | apply Grew.alloc | apply Grew.drew | apply Grew.drewN)
end Go.Proofs.YtmnllmbchpebbaaGreatDoor

/-! The names of the operations; code.Text and the document's. -/
namespace Go.Proofs.YtmnllmbchpebbaaGreatDoor
set_option linter.unusedSimpArgs false
set_option linter.unusedVariables false
open Go.RowKit Ga
set_option maxRecDepth 100000

/-- A pointer to a cell that holds x. -/
def PtsTo (x v : Value) (w : World) : Prop := ∃ b o, v = .pointer (some ⟨b, o, none⟩) ∧ w.cell? ⟨b, o, none⟩ = some x
theorem cell_grew {w w' : World} {b o : Nat} {x : Value} (h : w.cell? ⟨b, o, none⟩ = some x) (g : Grew w w') : w'.cell? ⟨b, o, none⟩ = some x := by
  obtain ⟨R, n, rfl⟩ := g
  rw [World.cell?_more_past R n _ _ (Pre.ofCell h)]; exact h
theorem PtsTo.st (x : Value) : ∀ v w w', PtsTo x v w → Grew w w' → PtsTo x v w' := fun _ _ _ ⟨b, o, h1, h2⟩ g => ⟨b, o, h1, cell_grew h2 g⟩

/-- A slice of eighteen texts, the names. -/
def NamesAt (v : Value) (w : World) : Prop := ∃ b, v = .slice (some ⟨b, 0, none⟩) 18 18 ∧ ∀ j, j < 18 → w.cell? ⟨b, j, none⟩ = some (.string ⟨(Co.namesL.getD j []).toArray⟩)
theorem NamesAt.st : ∀ v w w', NamesAt v w → Grew w w' → NamesAt v w' := fun _ _ _ ⟨b, h1, h2⟩ g => ⟨b, h1, fun j hj => cell_grew (h2 j hj) g⟩
theorem namesVals_at : ∀ j, j < 18 → ((Co.namesL.map fun l => Value.string ⟨l.toArray⟩).toArray)[j]? = some (.string ⟨(Co.namesL.getD j []).toArray⟩) := by
  intro j hj
  have h : j < Co.namesL.length := hj
  rw [List.getD_eq_getElem?_getD, List.getElem?_eq_getElem h]
  simp [List.getElem?_eq_getElem h]
theorem NamesAt.fresh (w : World) (t : TypeId) : NamesAt (.slice (some ⟨w.heap.size, 0, none⟩) 18 18) (w.alloc (.cells (Co.namesL.map fun l => Value.string ⟨l.toArray⟩).toArray t)) :=
  ⟨_, rfl, fun j hj => by rw [World.cell?_alloc_at _ _ _ _ (by simp)]; exact namesVals_at j hj⟩

/-- The table that strings.Fields reads. -/
def Asc (w : World) : Prop := Lib.TabIs Tryz.prog w "strings.asciiSpace" .u8 Lib.asciiSpaceTab
theorem Asc.grew {w w' : World} (h : Asc w) (g : Grew w w') : Asc w' := var_grew h g

def namesS : List UInt8 := [72, 65, 76, 84, 32, 80, 85, 83, 72, 32, 80, 85, 83, 72, 73, 32, 73, 78, 32, 76, 79, 65, 68, 32, 83, 84, 79, 82, 69, 32, 65, 68, 68, 32, 83, 85, 66, 32, 77, 85, 76, 32, 67, 79, 78, 74, 32, 84, 85, 82, 78, 32, 68, 85, 80, 32, 83, 87, 65, 80, 32, 68, 82, 79, 80, 32, 69, 77, 73, 84, 32, 74, 90, 32, 74, 77, 80, 32, 76, 84]
theorem namesS_fields : Lib.fields namesS = Co.namesL := by decide +kernel
theorem namesS_ascii : ∀ b ∈ namesS, b.toNat < 128 := by decide

theorem names_any (w : World) (h : Asc w) : Calls Tryz.prog 109 #[] w fun e w' => ∃ v, e = .returned v ∧ NamesAt v w' ∧ Grew w w' := by
  have hF := Tryz.strings_Fields ⟨namesS.toArray⟩ w (by decide) (fun j b hb => namesS_ascii b (List.mem_of_getElem? hb)) h
  go_enter Tryz.func109, Tryz.ntmps109
  go_wp2_with (go_at_call 146; refine hF.mono ?_; rintro e w1 ⟨rfl, hw⟩; rw [hw])
  go_ret
  refine ⟨_, rfl, ?_, ?_⟩
  · show NamesAt (.slice (some ⟨w.heap.size, 0, none⟩) (Lib.fields namesS).length (Lib.fields namesS).length) (w.alloc (.cells ((Lib.fields namesS).map fun l => Value.string ⟨l.toArray⟩).toArray 9))
    rw [namesS_fields]
    exact NamesAt.fresh w _
  · repeat (first | with_reducible exact Grew.refl _ | apply Grew.more | apply Grew.alloc | apply Grew.drew | apply Grew.drewN)

theorem refNames_any (w : World) : Calls Tryz.prog 94 #[] w fun e w' => ∃ v, e = .returned v ∧ NamesAt v w' ∧ Grew w w' := by
  go_enter Tryz.func94, Tryz.ntmps94
  go_wp2
  go_ret
  refine ⟨_, rfl, ?_, ?_⟩
  · exact NamesAt.fresh w _
  · repeat (first | with_reducible exact Grew.refl _ | apply Grew.more | apply Grew.alloc | apply Grew.drew | apply Grew.drewN)

def encS (l : List UInt8) : List Value := [.string ⟨l.toArray⟩]
theorem infoStr : (Tryz.prog.info? 9).map (fun i => (i.zero, i.size, i.bytes)) = some (some (.string ByteArray.empty), 1, 16) := by kernel_rfl
theorem encS_len (l : List UInt8) : (encS l).length = 1 := rfl
theorem encS_one (l : List UInt8) : ∀ u ∈ encS l, u.oneCell' = true := by intro u hu; simp [encS] at hu; subst hu; rfl
theorem encS_new (W : World) (l : List UInt8) (t : TypeId) (b : Nat) (hb : b = W.heap.size) : ∀ j u, (encS l)[j]? = some u → (W.alloc (.cells #[.string ⟨l.toArray⟩] t)).cell? ⟨b, j, none⟩ = some u := by
  intro j u hu
  rw [new_cells W _ t b hb j]
  simpa [encS] using hu

theorem encS_at (W : World) (l : List UInt8) (x : ByteArray) (t : TypeId) (b : Nat) (hx : x = ⟨l.toArray⟩) (hb : b = W.heap.size) : ∀ j u, (encS l)[j]? = some u → (W.alloc (.cells #[.string x] t)).cell? ⟨b, j, none⟩ = some u := by
  subst hx; exact encS_new W l t b hb
theorem flatMap_encS (l : List (List UInt8)) : l.flatMap encS = l.map fun x => Value.string ⟨x.toArray⟩ := by
  induction l with
  | nil => rfl
  | cons x l ih => rw [List.flatMap_cons, ih]; rfl

/-- strings.Join of texts that were gathered. -/
theorem join_any (v : Value) (xs : List (List UInt8)) (sep : List UInt8) (base : Nat) (w : World) (h : OwnAt base 9 1 encS w v xs) (hn : xs.length ≤ 1000) (hlen : (Lib.join xs sep).length ≤ 1000000) :
    Calls Tryz.prog 14 #[v, .string ⟨sep.toArray⟩] w (Gives (str (Lib.join xs sep)) w) := by
  rcases h.form with ⟨rfl, rfl⟩ | ⟨b, cap, rfl, hb, hc, hm⟩
  · refine (Tryz.strings_Join_none none 0 _ w).mono ?_
    rintro e w' ⟨rfl, rfl⟩
    exact ⟨rfl, Grew.refl _⟩
  · have hr := h.rows encS_len
    have e1 : (xs.map fun l => (⟨l.toArray⟩ : ByteArray)).map (·.data.toList) = xs := by
      rw [List.map_map]; simp [Function.comp_def]
    by_cases hnil : xs = []
    · subst hnil
      refine (Tryz.strings_Join_none (some ⟨b, 0, none⟩) cap _ w).mono ?_
      rintro e w' ⟨rfl, rfl⟩
      exact ⟨rfl, Grew.refl _⟩
    · obtain ⟨a, cap', hv, _, hx⟩ := hr
      obtain ⟨b', off, hab, hx⟩ := hx hnil
      cases hv
      cases hab
      have hcell : ∀ (j : Nat) x, (xs.map fun l => (⟨l.toArray⟩ : ByteArray))[j]? = some x → w.cell? ⟨b, 0 + j, none⟩ = some (.string x) := by
        intro j x hj
        rw [List.getElem?_map] at hj
        cases hq : xs[j]? with
        | none => rw [hq] at hj; cases hj
        | some y =>
          rw [hq] at hj; cases hj
          have := hx j y hq 0 (.string ⟨y.toArray⟩) rfl
          simpa using this
      have hlt : b < w.heap.size := by
        cases xs with
        | nil => exact absurd rfl hnil
        | cons x xs => exact World.block_lt_of_cell? w _ (hcell 0 ⟨x.toArray⟩ rfl)
      have hJ := Tryz.strings_Join b 0 cap (xs.map fun l => (⟨l.toArray⟩ : ByteArray)) ⟨sep.toArray⟩ w hcell hlt (by simp; omega) (by simpa using hc) (by rw [e1]; show (Lib.join xs sep).length ≤ _; omega)
      rw [List.length_map, e1] at hJ
      refine hJ.mono ?_
      rintro e w' ⟨rfl, hb⟩
      exact ⟨rfl, Grew.ofBelow hb⟩

end Go.Proofs.YtmnllmbchpebbaaGreatDoor

/-! code.Text. -/
namespace Go.Proofs.YtmnllmbchpebbaaGreatDoor
set_option linter.unusedSimpArgs false
set_option linter.unusedVariables false
open Go.RowKit Ga
set_option maxRecDepth 100000

theorem str_cat3 (a b c : List UInt8) : (⟨a.toArray⟩ ++ (⟨b.toArray⟩ ++ ⟨c.toArray⟩) : ByteArray) = ⟨(a ++ (b ++ c)).toArray⟩ := by rw [str_cat, str_cat]
theorem words_succ {l : List Val} {k : Nat} (h : k < l.length) : (l.take (k + 1)).map Co.word = (l.take k).map Co.word ++ [Co.word l[k]] := by
  rw [List.take_succ_eq_append_getElem h, List.map_append]; rfl
theorem word_has {x y : Int} (h : Co.hasA x = true) : Co.word (x, y) = Co.nameOf x ++ ([32] ++ Lib.itoa y) := by
  unfold Co.word; simp only; rw [if_pos h]; rfl
theorem word_not {x y : Int} (h : Co.hasA x = false) : Co.word (x, y) = Co.nameOf x := by
  unfold Co.word; simp only; rw [h]; simp

set_option maxHeartbeats 4000000 in
theorem codeText_any (v : Value) (l : List Val) (w : World) (hv : ValsAt w v l) (hp : Pow w) (ha : Asc w) : Calls Tryz.prog 69 #[v] w (Gives (str (Co.textOut l)) w) := by
  obtain ⟨a, cap, rfl, hm, hl⟩ := hv.open2
  have HV := Lib.hid hv
  have HP := Lib.hid hp
  have HA := Lib.hid ha
  clear hv hp ha
  cases hf : Co.fitsI l
  · have ht : Co.textOut l = [] := by unfold Co.textOut; rw [hf]; rfl
    rw [ht]
    clear hl ht
    have HF := Lib.hid hf
    clear hf
    go_enter Tryz.func69, Tryz.ntmps69
    go_wp2_with (go_at_call 108; refine (codeFits_any _ l _ HV.out).mono ?_; rintro e w1 ⟨rfl, R3, n3, rfl⟩; rw [HF.out])
    go_ret
    refine ⟨rfl, ?_⟩
    repeat (first | with_reducible exact Grew.refl _ | apply Grew.more | apply Grew.alloc | apply Grew.drew | apply Grew.drewN)
  · have ht : Co.textOut l = Lib.join (l.map Co.word) [59, 32] := by unfold Co.textOut; rw [hf]; rfl
    obtain ⟨h24, hr⟩ := Co.fits_parts hf
    have htl := Co.textI_len l hr
    have HT := Lib.hid ht
    have HR := Lib.hid hr
    have HF := Lib.hid hf
    have HL := Lib.hid htl
    clear hf ht hr htl
    go_enter Tryz.func69, Tryz.ntmps69
    go_wp2_with (go_at_call 108; refine (codeFits_any _ l _ HV.out).mono ?_; rintro e w1 ⟨rfl, R3, n3, rfl⟩; rw [HF.out])
    go_loopw [3, 15] (fun v3 i wr => ∃ (k : Nat), k ≤ l.length ∧ i = .int .i64 k ∧ OwnAt w.heap.size 9 1 encS wr v3 ((l.take k).map Co.word) ∧ Grew w wr) (fun _ i _ => l.length - (intOf i).toNat)
    case atStart => exact ⟨0, Nat.zero_le _, rfl, OwnAt.nil _, by repeat (first | with_reducible exact Grew.refl _ | apply Grew.more | apply Grew.alloc | apply Grew.drew | apply Grew.drewN)⟩
    case round =>
      obtain ⟨k, hk, rfl, hown, R, n, rfl⟩ := hrel
      by_cases hlt : k < l.length
      · obtain ⟨b, off, rfl, hb, hx, hy⟩ := hl k hlt
        have hws := words_succ hlt
        have hri := HR.out l[k] (List.getElem_mem hlt)
        generalize l[k] = xy at *
        obtain ⟨x, y⟩ := xy
        obtain ⟨x0, x1, _, _⟩ := Co.right_parts hri
        have hya := Co.right_arg hri
        simp only at hx hy x0 x1 hya
        have HO := Lib.hid hown
        have HW := Lib.hid hws
        clear hl hws hown hri
        obtain ⟨m, rfl⟩ : ∃ m : Nat, x = m := ⟨x.toNat, by omega⟩
        have hm18 : m < 18 := by omega
        have hn5 : (Co.namesL.getD m []).length ≤ 5 := by
          have key : ∀ n < 18, (Co.namesL.getD n []).length ≤ 5 := by decide
          exact key m hm18
        have hi7 := Tx.itoa_len6 y (by omega)
        have hnm : Co.nameOf (m : Int) = Co.namesL.getD m [] := by unfold Co.nameOf; rw [Int.toNat_natCast]
        generalize hN : Co.namesL.getD m [] = nm at hn5 hnm
        have HN := Lib.hid hN
        have HM := Lib.hid hnm
        clear hN hnm
        cases hh : Co.hasA (m : Int)
        all_goals
          have HH := Lib.hid hh
          clear hh
          go_wp2_with fail
          refine wp_region_seq 6 Tryz.mixed (by kernel_rfl) (by kernel_rfl) ?_
          apply Seq.of NamesAt NamesAt.st
          focus
            rintro w1 u ⟨R1, n1, rfl⟩ hF
            simp [moreFacts, Fact.more, Oper.deps, Region.binds, List.filter_cons, World.more_drew] at hF
            simp [putFacts, Oper.deps, Region.binds, List.filter_cons, Region.dstOf, Fact.at, Act.put, World.more_drew]
            go_wp2_with (first
              | (go_at_call 109; refine (names_any _ (HA.out.grew (by repeat (first | with_reducible exact Grew.refl _ | apply Grew.more | apply Grew.alloc | apply Grew.drew | apply Grew.drewN)))).mono ?_; rintro e w1 ⟨v2, rfl, hv2, R2, n2, rfl⟩)
              )
            exact ⟨by repeat (first | with_reducible exact Grew.refl _ | apply Grew.more | apply Grew.alloc | apply Grew.drew | apply Grew.drewN), rfl, _, _, rfl, rfl, hv2⟩
          iterate 2
            apply Seq.val
            focus
              rintro w1 u ⟨R1, n1, rfl⟩ hF
              simp [moreFacts, Fact.more, Oper.deps, Region.binds, List.filter_cons, World.more_drew] at hF
              simp [putFacts, Oper.deps, Region.binds, List.filter_cons, Region.dstOf, Fact.at, Act.put, World.more_drew]
              go_wp2
              exact ⟨by repeat (first | with_reducible exact Grew.refl _ | apply Grew.more | apply Grew.alloc | apply Grew.drew | apply Grew.drewN), rfl, _, _, rfl, rfl, rfl⟩
          apply Seq.of (PtsTo (.string ⟨nm.toArray⟩)) (PtsTo.st _)
          focus
            rintro w1 u ⟨R1, n1, rfl⟩ hF
            simp [moreFacts, Fact.more, Oper.deps, Region.binds, List.filter_cons, World.more_drew] at hF
            simp [putFacts, Oper.deps, Region.binds, List.filter_cons, Region.dstOf, Fact.at, Act.put, World.more_drew]
            obtain ⟨b7, hb7, hc7⟩ := hF; (have hc8 := hc7 m hm18); clear hc7; rw [HN.out] at hc8; rw [hb7]
            go_wp2
            exact ⟨by repeat (first | with_reducible exact Grew.refl _ | apply Grew.more | apply Grew.alloc | apply Grew.drew | apply Grew.drewN), rfl, _, _, rfl, rfl, ⟨b7, m, rfl, hc8⟩⟩
          apply Seq.val
          focus
            rintro w1 u ⟨R1, n1, rfl⟩ hF
            simp [moreFacts, Fact.more, Oper.deps, Region.binds, List.filter_cons, World.more_drew] at hF
            simp [putFacts, Oper.deps, Region.binds, List.filter_cons, Region.dstOf, Fact.at, Act.put, World.more_drew]
            obtain ⟨b7, o7, hb7, hc7⟩ := hF; rw [hb7]
            go_wp2
            exact ⟨by repeat (first | with_reducible exact Grew.refl _ | apply Grew.more | apply Grew.alloc | apply Grew.drew | apply Grew.drewN), rfl, _, _, rfl, rfl, rfl⟩
          apply Seq.val
          focus
            rintro w1 u ⟨R1, n1, rfl⟩ hF
            simp [moreFacts, Fact.more, Oper.deps, Region.binds, List.filter_cons, World.more_drew] at hF
            simp [putFacts, Oper.deps, Region.binds, List.filter_cons, Region.dstOf, Fact.at, Act.put, World.more_drew]
            go_wp2
            exact ⟨by repeat (first | with_reducible exact Grew.refl _ | apply Grew.more | apply Grew.alloc | apply Grew.drew | apply Grew.drewN), rfl, _, _, rfl, rfl, rfl⟩
          rintro u w1 ⟨R1, n1, rfl⟩ hF
          clear hF
          simp [putFacts, Region.dstOf, Fact.at, Act.put, List.range_succ, World.more_drew]
          go_wp2_with (first
            | (go_at_call 110; refine (bounds_any _ _).mono ?_; rintro e w1 ⟨rfl, rfl⟩; rw [HH.out])
            | (go_at_call 33; refine (itoa_any _ (by omega) _ (HP.out.grew (by repeat (first | with_reducible exact Grew.refl _ | apply Grew.more | apply Grew.alloc | apply Grew.drew | apply Grew.drewN)))).mono ?_; rintro e w1 ⟨rfl, R4, n4, rfl⟩)
            | (at_builtin; refine wpList_own1 rfl (.tmp 38) (.tmp 40) 50 _ _ _ _ (Co.word ((m : Int), y)) rfl Tryz.underlying50 infoStr rfl (by decide) encS_len encS_one rfl (HO.out.grew (by repeat (first | with_reducible exact Grew.refl _ | apply Grew.more | apply Grew.alloc | apply Grew.drew | apply Grew.drewN))) (by repeat (first | with_reducible exact Grew.refl _ | apply Grew.more | apply Grew.alloc | apply Grew.drew | apply Grew.drewN)) rfl (encS_at _ _ _ _ _ (by first | (rw [word_not HH.out, HM.out]; done) | (rw [word_has HH.out, HM.out]; exact str_cat3 _ _ _)) (by simp [go_sem])) (by simp; omega) (by decide) ?_; intro v9 R9 n9 hown9)
            )
          go_roundw
          case rel => exact ⟨k + 1, by omega, by go_num, by rw [HW.out]; exact hown9, by repeat (first | with_reducible exact Grew.refl _ | apply Grew.more | apply Grew.alloc | apply Grew.drew | apply Grew.drewN)⟩
          case measure => first | (simp [intOf]; done) | (simp [intOf]; omega)
      · obtain rfl : k = l.length := by omega
        rw [List.take_length] at hown
        have HO := Lib.hid hown
        clear hown hl
        go_wp2_with (go_at_call 14; refine (join_any _ (l.map Co.word) [59, 32] _ _ (HO.out.grew (by repeat (first | with_reducible exact Grew.refl _ | apply Grew.more | apply Grew.alloc | apply Grew.drew | apply Grew.drewN))) (by simp; omega) (by have h := HL.out; unfold Co.textI Co.sep at h; omega)).mono ?_; rintro e w1 ⟨rfl, R3, n3, rfl⟩)
        go_ret
        refine ⟨?_, ?_⟩
        · rw [HT.out]; rfl
        · repeat (first | with_reducible exact Grew.refl _ | apply Grew.more | apply Grew.alloc | apply Grew.drew | apply Grew.drewN)

end Go.Proofs.YtmnllmbchpebbaaGreatDoor

/-! forebayref04.Text. -/
namespace Go.Proofs.YtmnllmbchpebbaaGreatDoor
set_option linter.unusedSimpArgs false
set_option linter.unusedVariables false
open Go.RowKit Ga
set_option maxRecDepth 100000

theorem text_step {l : List Val} {k : Nat} (h : k < l.length) : Co.textI (l.take (k + 1)) = if k = 0 then Co.word l[k] else Co.textI (l.take k) ++ Co.sep ++ Co.word l[k] := by
  rw [List.take_succ_eq_append_getElem h, Co.textI_snoc]
  by_cases hk : k = 0
  · subst hk; simp
  · rw [if_neg hk, if_neg (by intro e; have h2 := congrArg List.length e; rw [List.length_take, List.length_nil] at h2; omega)]
theorem cat4 (T nm it : List UInt8) : (⟨T.toArray⟩ ++ ⟨#[59, 32]⟩ ++ ⟨nm.toArray⟩ ++ ⟨#[32]⟩ ++ ⟨it.toArray⟩ : ByteArray) = ⟨(T ++ [59, 32] ++ (nm ++ ([32] ++ it))).toArray⟩ := by
  have e1 : (⟨#[59, 32]⟩ : ByteArray) = ⟨([59, 32] : List UInt8).toArray⟩ := rfl
  have e2 : (⟨#[32]⟩ : ByteArray) = ⟨([32] : List UInt8).toArray⟩ := rfl
  rw [e1, e2, str_cat, str_cat, str_cat, str_cat]
  simp only [List.append_assoc]
theorem cat2 (T nm : List UInt8) : (⟨T.toArray⟩ ++ ⟨#[59, 32]⟩ ++ ⟨nm.toArray⟩ : ByteArray) = ⟨(T ++ [59, 32] ++ nm).toArray⟩ := by
  have e1 : (⟨#[59, 32]⟩ : ByteArray) = ⟨([59, 32] : List UInt8).toArray⟩ := rfl
  rw [e1, str_cat, str_cat]
theorem cat3 (T nm it : List UInt8) : (⟨T.toArray⟩ ++ ⟨nm.toArray⟩ ++ ⟨#[32]⟩ ++ ⟨it.toArray⟩ : ByteArray) = ⟨(T ++ (nm ++ ([32] ++ it))).toArray⟩ := by
  have e2 : (⟨#[32]⟩ : ByteArray) = ⟨([32] : List UInt8).toArray⟩ := rfl
  rw [e2, str_cat, str_cat, str_cat]
  simp only [List.append_assoc]
set_option maxHeartbeats 4000000 in
theorem codeRefText_any (v : Value) (l : List Val) (w : World) (hv : ValsAt w v l) (hf : Co.fitsI l = true) : Calls Tryz.prog 50 #[v] w (Gives (str (Co.textI l)) w) := by
  obtain ⟨a, cap, rfl, hm, hl⟩ := hv.open2
  obtain ⟨h24, hr⟩ := Co.fits_parts hf
  have HR := Lib.hid hr
  clear hf hr hv
  go_enter Tryz.func50, Tryz.ntmps50
  go_wp2
  go_loopw [3, 4] (fun t i wr => ∃ (k : Nat), k ≤ l.length ∧ i = .int .i64 k ∧ t = str (Co.textI (l.take k)) ∧ Grew w wr) (fun _ i _ => l.length - (intOf i).toNat)
  case atStart => exact ⟨0, Nat.zero_le _, rfl, rfl, Grew.refl _⟩
  case round =>
    obtain ⟨k, hk, rfl, rfl, R, n, rfl⟩ := hrel
    by_cases hlt : k < l.length
    · obtain ⟨b, off, rfl, hb, hx, hy⟩ := hl k hlt
      have hws := text_step hlt
      have hri := HR.out l[k] (List.getElem_mem hlt)
      have htl := Co.textI_len (l.take k) (fun i hi => HR.out i (List.mem_of_mem_take hi))
      rw [List.length_take_of_le hk] at htl
      have htl' : (Co.textI (l.take k)).length ≤ 384 := by omega
      have hT0 : k = 0 → Co.textI (l.take k) = [] := by rintro rfl; rfl
      generalize l[k] = xy at *
      generalize Co.textI (l.take k) = T at *
      obtain ⟨x, y⟩ := xy
      obtain ⟨x0, x1, _, _⟩ := Co.right_parts hri
      have hya := Co.right_arg hri
      simp only at hx hy x0 x1 hya
      have HW := Lib.hid hws
      have HT0 := Lib.hid hT0
      clear hT0 hl hws hri htl
      obtain ⟨m, rfl⟩ : ∃ m : Nat, x = m := ⟨x.toNat, by omega⟩
      have hm18 : m < 18 := by omega
      have hn5 : (Co.namesL.getD m []).length ≤ 5 := by
        have key : ∀ n < 18, (Co.namesL.getD n []).length ≤ 5 := by decide
        exact key m hm18
      have hi7 := Tx.itoa_len6 y (by omega)
      have hnm : Co.nameOf (m : Int) = Co.namesL.getD m [] := by unfold Co.nameOf; rw [Int.toNat_natCast]
      generalize hN : Co.namesL.getD m [] = nm at hn5 hnm
      have HN := Lib.hid hN
      have HM := Lib.hid hnm
      clear hN hnm
      by_cases hk0 : 0 < k
      all_goals
        go_wp2_with fail
        refine wp_region_seq 10 Tryz.mixed (by kernel_rfl) (by kernel_rfl) ?_
        iterate 1
          apply Seq.val
          focus
            rintro w1 u ⟨R1, n1, rfl⟩ hF
            simp [moreFacts, Fact.more, Oper.deps, Region.binds, List.filter_cons, World.more_drew] at hF
            simp [putFacts, Oper.deps, Region.binds, List.filter_cons, Region.dstOf, Fact.at, Act.put, World.more_drew]
            go_wp2
            exact ⟨by repeat (first | with_reducible exact Grew.refl _ | apply Grew.more | apply Grew.alloc | apply Grew.drew | apply Grew.drewN), rfl, _, _, rfl, rfl, rfl⟩
        apply Seq.of NamesAt NamesAt.st
        focus
          rintro w1 u ⟨R1, n1, rfl⟩ hF
          simp [moreFacts, Fact.more, Oper.deps, Region.binds, List.filter_cons, World.more_drew] at hF
          simp [putFacts, Oper.deps, Region.binds, List.filter_cons, Region.dstOf, Fact.at, Act.put, World.more_drew]
          go_wp2_with (first
            | (go_at_call 94; refine (refNames_any _).mono ?_; rintro e w1 ⟨v2, rfl, hv2, R2, n2, rfl⟩)
            )
          exact ⟨by repeat (first | with_reducible exact Grew.refl _ | apply Grew.more | apply Grew.alloc | apply Grew.drew | apply Grew.drewN), rfl, _, _, rfl, rfl, hv2⟩
        iterate 5
          apply Seq.val
          focus
            rintro w1 u ⟨R1, n1, rfl⟩ hF
            simp [moreFacts, Fact.more, Oper.deps, Region.binds, List.filter_cons, World.more_drew] at hF
            simp [putFacts, Oper.deps, Region.binds, List.filter_cons, Region.dstOf, Fact.at, Act.put, World.more_drew]
            go_wp2
            exact ⟨by repeat (first | with_reducible exact Grew.refl _ | apply Grew.more | apply Grew.alloc | apply Grew.drew | apply Grew.drewN), rfl, _, _, rfl, rfl, rfl⟩
        apply Seq.of (PtsTo (.string ⟨nm.toArray⟩)) (PtsTo.st _)
        focus
          rintro w1 u ⟨R1, n1, rfl⟩ hF
          simp [moreFacts, Fact.more, Oper.deps, Region.binds, List.filter_cons, World.more_drew] at hF
          simp [putFacts, Oper.deps, Region.binds, List.filter_cons, Region.dstOf, Fact.at, Act.put, World.more_drew]
          obtain ⟨b7, hb7, hc7⟩ := hF; (have hc8 := hc7 m hm18); clear hc7; rw [HN.out] at hc8; rw [hb7]
          go_wp2
          exact ⟨by repeat (first | with_reducible exact Grew.refl _ | apply Grew.more | apply Grew.alloc | apply Grew.drew | apply Grew.drewN), rfl, _, _, rfl, rfl, ⟨b7, m, rfl, hc8⟩⟩
        apply Seq.val
        focus
          rintro w1 u ⟨R1, n1, rfl⟩ hF
          simp [moreFacts, Fact.more, Oper.deps, Region.binds, List.filter_cons, World.more_drew] at hF
          simp [putFacts, Oper.deps, Region.binds, List.filter_cons, Region.dstOf, Fact.at, Act.put, World.more_drew]
          obtain ⟨b7, o7, hb7, hc7⟩ := hF; rw [hb7]
          go_wp2
          exact ⟨by repeat (first | with_reducible exact Grew.refl _ | apply Grew.more | apply Grew.alloc | apply Grew.drew | apply Grew.drewN), rfl, _, _, rfl, rfl, rfl⟩
        iterate 1
          apply Seq.val
          focus
            rintro w1 u ⟨R1, n1, rfl⟩ hF
            simp [moreFacts, Fact.more, Oper.deps, Region.binds, List.filter_cons, World.more_drew] at hF
            simp [putFacts, Oper.deps, Region.binds, List.filter_cons, Region.dstOf, Fact.at, Act.put, World.more_drew]
            go_wp2
            exact ⟨by repeat (first | with_reducible exact Grew.refl _ | apply Grew.more | apply Grew.alloc | apply Grew.drew | apply Grew.drewN), rfl, _, _, rfl, rfl, rfl⟩
        rintro u w1 ⟨R1, n1, rfl⟩ hF
        clear hF
        simp [putFacts, Region.dstOf, Fact.at, Act.put, List.range_succ, World.more_drew]
        go_wp2_with (go_at_call 19; refine (digits_any _ (by omega) _).mono ?_; rintro e w1 ⟨rfl, rfl⟩)
        all_goals
          go_roundw
          case rel =>
            refine ⟨k + 1, by omega, by go_num, ?_, by repeat (first | with_reducible exact Grew.refl _ | apply Grew.more | apply Grew.alloc | apply Grew.drew | apply Grew.drewN)⟩
            rw [HW.out]
            first
              | rw [if_neg (show ¬ k = 0 by omega)]
              | (rw [if_pos (show k = 0 by omega)]; rw [HT0.out (by omega)])
            first
              | (rw [word_has (show Co.hasA _ = true by unfold Co.hasA; grind), HM.out]; first | exact congrArg Value.string (cat4 _ _ _) | exact congrArg Value.string (cat3 [] _ _))
              | (rw [word_not (show Co.hasA _ = false by unfold Co.hasA; grind), HM.out]; first | exact congrArg Value.string (cat2 _ _) | exact congrArg Value.string (str_cat [] _))
          case measure => first | (simp [intOf]; done) | (simp [intOf]; omega)
    · obtain rfl : k = l.length := by omega
      rw [List.take_length]
      clear hl
      go_wp2
      go_ret
      refine ⟨rfl, ?_⟩
      repeat (first | with_reducible exact Grew.refl _ | apply Grew.more | apply Grew.alloc | apply Grew.drew | apply Grew.drewN)
end Go.Proofs.YtmnllmbchpebbaaGreatDoor
