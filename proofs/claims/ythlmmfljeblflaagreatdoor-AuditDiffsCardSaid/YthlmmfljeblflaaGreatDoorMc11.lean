import Derived.Test.YthlmmfljeblflaaGreatDoorMc8
import Derived.Test.YthlmmfljeblflaaGreatDoorMc5
import Derived.Test.YthlmmfljeblflaaGreatDoorMc4
import Derived.Test.YthlmmfljeblflaaGreatDoorShelfJ
import Derived.Test.YthlmmfljeblflaaGreatDoorMc0
import Derived.Test.YthlmmfljeblflaaGreatDoorMc3
import Derived.Test.YthlmmfljeblflaaGreatDoorMc6
/-! code.Fits, forebayref04.Fits and Same. -/
namespace Go.Proofs.YthlmmfljeblflaaGreatDoor
set_option linter.unusedSimpArgs false
set_option linter.unusedVariables false
open Go.RowKit Ga
set_option maxRecDepth 100000

theorem fits1_any (x y : Int) (w : World) : Calls Tryz.prog 123 #[.agg #[.int .i64 x, .int .i64 y]] w (Gives (.bool (!Co.rightI (x, y))) w) := by
  go_enter Tryz.func123, Tryz.ntmps123
  go_wp2_with (first
    | (go_at_call 124; refine (codeRight_any _ _ _).mono ?_; rintro e w1 ⟨rfl, R3, n3, rfl⟩)
    )
  go_ret
  refine ⟨rfl, ?_⟩
  repeat (first | with_reducible exact Grew.refl _ | apply Grew.more | apply Grew.alloc | apply Grew.drew | apply Grew.drewN)

theorem take_all_succ {α : Type} {p : α → Bool} {l : List α} {k : Nat} (h : k < l.length) (h1 : (l.take k).all p = true) (h2 : p l[k] = true) : (l.take (k + 1)).all p = true := by
  rw [List.take_succ_eq_append_getElem h, List.all_append, h1]; simp [h2]
theorem all_false_at {α : Type} {p : α → Bool} {l : List α} {k : Nat} (h : k < l.length) (h2 : p l[k] = false) : l.all p = false := by
  rw [List.all_eq_false]; exact ⟨l[k], List.getElem_mem h, by simp [h2]⟩

set_option maxHeartbeats 1000000 in
/-- .. where the first wrong instruction stands. -/
theorem indexWrong_any (v : Value) (l : List Val) (w : World) (hv : ValsAt w v l) :
    Calls Tryz.prog 158 #[v, .func (.func 123) #[] #[]] w fun e w' => ∃ k : Int, e = .returned (.int .i64 k) ∧ decide (0 ≤ k) = !l.all Co.rightI ∧ Grew w w' := by
  obtain ⟨a, cap, rfl, hm, hl⟩ := hv.open2
  go_enter Tryz.func158, Tryz.ntmps158
  go_wp2
  go_loopw [8] (fun i wr => ∃ (k : Nat), k ≤ l.length ∧ i = .int .i64 k ∧ (l.take k).all Co.rightI = true ∧ Grew w wr) (fun i _ => l.length - (intOf i).toNat)
  case atStart => exact ⟨0, Nat.zero_le _, rfl, rfl, Grew.refl _⟩
  case round =>
    obtain ⟨k, hk, rfl, hall, R, n, rfl⟩ := hrel
    have HA := Lib.hid hall
    clear hall
    by_cases hlt : k < l.length
    · obtain ⟨b, off, rfl, hb, hx, hy⟩ := hl k hlt
      have hs := take_all_succ (p := Co.rightI) hlt HA.out
      have hf := all_false_at (p := Co.rightI) hlt
      generalize l[k] = xy at *
      obtain ⟨x, y⟩ := xy
      cases hr : Co.rightI (x, y)
      all_goals
        have HS := Lib.hid hs
        have HF := Lib.hid hf
        have HR := Lib.hid hr
        clear hs hl hf hr
        simp only at hx hy
        go_wp2_with (go_at_call 123; refine (fits1_any _ _ _).mono ?_; rintro e w1 ⟨rfl, R3, n3, rfl⟩; rw [HR.out])
      · go_ret
        refine ⟨k, rfl, ?_, ?_⟩
        · rw [HF.out HR.out]; simp
        · repeat (first | with_reducible exact Grew.refl _ | apply Grew.more | apply Grew.alloc | apply Grew.drew | apply Grew.drewN)
      · go_roundw
        case rel => exact ⟨k + 1, by omega, by go_num, HS.out HR.out, by repeat (first | with_reducible exact Grew.refl _ | apply Grew.more | apply Grew.alloc | apply Grew.drew | apply Grew.drewN)⟩
        case measure => first | (simp [intOf]; done) | (simp [intOf]; omega)
    · obtain rfl : k = l.length := by omega
      have hz := HA.out
      rw [List.take_length] at hz
      have HZ := Lib.hid hz
      clear hz hl HA
      go_wp2
      go_ret
      refine ⟨-1, rfl, ?_, ?_⟩
      · rw [HZ.out]; rfl
      · repeat (first | with_reducible exact Grew.refl _ | apply Grew.more | apply Grew.alloc | apply Grew.drew | apply Grew.drewN)

theorem containsWrong_any (v : Value) (l : List Val) (w : World) (hv : ValsAt w v l) :
    Calls Tryz.prog 125 #[v, .func (.func 123) #[] #[]] w (Gives (.bool (!l.all Co.rightI)) w) := by
  have HV := Lib.hid hv
  clear hv
  go_enter Tryz.func125, Tryz.ntmps125
  go_wp2_with (go_at_call 158; refine (indexWrong_any _ l _ HV.out).mono ?_; rintro e w1 ⟨k, rfl, hk, R3, n3, rfl⟩; (have HK := Lib.hid hk); clear hk)
  go_ret
  refine ⟨ret_bool HK.out, ?_⟩
  repeat (first | with_reducible exact Grew.refl _ | apply Grew.more | apply Grew.alloc | apply Grew.drew | apply Grew.drewN)

set_option maxHeartbeats 1000000 in
theorem codeFits_any (v : Value) (l : List Val) (w : World) (hv : ValsAt w v l) : Calls Tryz.prog 85 #[v] w (Gives (.bool (Co.fitsI l)) w) := by
  obtain ⟨a, cap, rfl, hm, -⟩ := hv.open2
  have HV := Lib.hid hv
  clear hv
  have hF : Co.fitsI l = (decide (l.length ≤ 24) && l.all Co.rightI) := rfl
  have HF := Lib.hid hF
  clear hF
  go_enter Tryz.func85, Tryz.ntmps85
  go_wp2_with (go_at_call 125; refine (containsWrong_any _ l _ HV.out).mono ?_; rintro e w1 ⟨rfl, R3, n3, rfl⟩)
  all_goals
    go_ret
    refine ⟨ret_bool (by rw [HF.out]; grind), ?_⟩
    repeat (first | with_reducible exact Grew.refl _ | apply Grew.more | apply Grew.alloc | apply Grew.drew | apply Grew.drewN)

theorem run_neq_ins (x y p q : Int) (b : Bool) (hb : b = !(decide (x = p) && decide (y = q))) (w : World) : (binOp .neq 83 (.agg #[.int .i64 x, .int .i64 y]) (.agg #[.int .i64 p, .int .i64 q])).run Tryz.prog w = .ok (.bool b) w := by
  subst hb
  by_cases h1 : x = p <;> by_cases h2 : y = q <;> simp [go_sem, h1, h2, Tryz.underlying83, Tryz.underlying3]
theorem take_eq_succ {α : Type} {l m : List α} {k : Nat} (h : k < l.length) (hm : k < m.length) (h1 : l.take k = m.take k) (h2 : l[k] = m[k]) : l.take (k + 1) = m.take (k + 1) := by
  rw [List.take_succ_eq_append_getElem h, List.take_succ_eq_append_getElem hm, h1, h2]
theorem neq_at {α : Type} {l m : List α} {k : Nat} (h : k < l.length) (hm : k < m.length) (h2 : l[k] ≠ m[k]) : l ≠ m := by
  rintro rfl; exact h2 rfl

set_option maxHeartbeats 2000000 in
theorem refSame_any (v u : Value) (l m : List Val) (w : World) (hv : ValsAt w v l) (hu : ValsAt w u m) : Calls Tryz.prog 21 #[v, u] w (Gives (.bool (decide (l = m))) w) := by
  obtain ⟨a, cap, rfl, hm, hl⟩ := hv.open2
  obtain ⟨a2, cap2, rfl, hm2, hl2⟩ := hu.open2
  clear hv hu
  by_cases hlen : l.length = m.length
  · have hD : decide ((l.length : Int) = (m.length : Int)) = true := by rw [hlen]; simp
    have hD2 : ((l.length : Int) != (m.length : Int)) = false := by rw [hlen]; simp
    have HLEN := Lib.hid hlen
    clear hlen
    go_enter Tryz.func21, Tryz.ntmps21
    go_wp2
    go_loopw [5] (fun i wr => ∃ (k : Nat), k ≤ l.length ∧ i = .int .i64 k ∧ l.take k = m.take k ∧ Grew w wr) (fun i _ => l.length - (intOf i).toNat)
    case atStart => exact ⟨0, Nat.zero_le _, rfl, rfl, Grew.refl _⟩
    case round =>
      obtain ⟨k, hk, rfl, hall, R, n, rfl⟩ := hrel
      have HA := Lib.hid hall
      clear hall
      by_cases hlt : k < l.length
      · have hlt2 : k < m.length := by have := HLEN.out; omega
        obtain ⟨b, off, rfl, hb, hx, hy⟩ := hl k hlt
        obtain ⟨b2, off2, rfl, hb2, hx2, hy2⟩ := hl2 k hlt2
        have hs := take_eq_succ hlt hlt2 HA.out
        have hf := neq_at hlt hlt2
        generalize l[k] = xy at *
        generalize m[k] = xy2 at *
        obtain ⟨x, y⟩ := xy
        obtain ⟨x2, y2⟩ := xy2
        simp only at hx hy hx2 hy2
        by_cases hr : ((x, y) : Val) = (x2, y2)
        all_goals
          have HS := Lib.hid hs
          have HF2 := Lib.hid hf
          have HR := Lib.hid hr
          clear hs hl hl2 hf
        · cases hr
          go_wp2
          refine wp_region_seq 9 Tryz.mixed (by kernel_rfl) (by kernel_rfl) ?_
          iterate 9
            apply Seq.val
            focus
              rintro w1 u ⟨R1, n1, rfl⟩ hF
              simp [moreFacts, Fact.more, Oper.deps, Region.binds, List.filter_cons, World.more_drew] at hF
              simp [putFacts, Oper.deps, Region.binds, List.filter_cons, Region.dstOf, Fact.at, Act.put, World.more_drew]
              go_wp2
              exact ⟨by repeat (first | with_reducible exact Grew.refl _ | apply Grew.more | apply Grew.alloc | apply Grew.drew | apply Grew.drewN), rfl, _, _, rfl, rfl, rfl⟩
          rintro u w1 ⟨R1, n1, rfl⟩ hF
          clear hF
          simp [putFacts, Region.dstOf, Fact.at, Act.put, List.range_succ, World.more_drew]
          go_wp2
          go_roundw
          case rel => exact ⟨k + 1, by omega, by go_num, HS.out (by first | exact rfl | trivial), by repeat (first | with_reducible exact Grew.refl _ | apply Grew.more | apply Grew.alloc | apply Grew.drew | apply Grew.drewN)⟩
          case measure => first | (simp [intOf]; done) | (simp [intOf]; omega)
        · have hq := run_neq_ins x y x2 y2 true (by
            have := HR.out
            by_cases e1 : x = x2 <;> by_cases e2 : y = y2 <;> simp [e1, e2]
            exact this (by rw [e1, e2]))
          go_wp2
          refine wp_region_seq 9 Tryz.mixed (by kernel_rfl) (by kernel_rfl) ?_
          iterate 9
            apply Seq.val
            focus
              rintro w1 u ⟨R1, n1, rfl⟩ hF
              simp [moreFacts, Fact.more, Oper.deps, Region.binds, List.filter_cons, World.more_drew] at hF
              simp [putFacts, Oper.deps, Region.binds, List.filter_cons, Region.dstOf, Fact.at, Act.put, World.more_drew]
              go_wp2
              exact ⟨by repeat (first | with_reducible exact Grew.refl _ | apply Grew.more | apply Grew.alloc | apply Grew.drew | apply Grew.drewN), rfl, _, _, rfl, rfl, rfl⟩
          rintro u w1 ⟨R1, n1, rfl⟩ hF
          clear hF
          simp [putFacts, Region.dstOf, Fact.at, Act.put, List.range_succ, World.more_drew]
          go_wp2
          go_ret
          refine ⟨ret_bool (by rw [decide_eq_false (HF2.out HR.out)]), ?_⟩
          repeat (first | with_reducible exact Grew.refl _ | apply Grew.more | apply Grew.alloc | apply Grew.drew | apply Grew.drewN)
      · obtain rfl : k = l.length := by omega
        have hz := HA.out
        rw [List.take_length, List.take_of_length_le (by have := HLEN.out; omega)] at hz
        have HZ := Lib.hid hz
        clear hz hl hl2 HA
        go_wp2
        go_ret
        refine ⟨ret_bool ?_, ?_⟩
        · rw [HZ.out]; simp
        · repeat (first | with_reducible exact Grew.refl _ | apply Grew.more | apply Grew.alloc | apply Grew.drew | apply Grew.drewN)
  · have hD2 : ((l.length : Int) != (m.length : Int)) = true := by rw [bne_iff_ne]; omega
    have hne : l ≠ m := fun e => hlen (by rw [e])
    have HNE := Lib.hid hne
    clear hne hlen hl hl2
    go_enter Tryz.func21, Tryz.ntmps21
    go_wp2
    go_ret
    refine ⟨ret_bool (by rw [decide_eq_false HNE.out]), ?_⟩
    repeat (first | with_reducible exact Grew.refl _ | apply Grew.more | apply Grew.alloc | apply Grew.drew | apply Grew.drewN)
end Go.Proofs.YthlmmfljeblflaaGreatDoor

/-! The names of the operations; code.Text and the document's. -/
namespace Go.Proofs.YthlmmfljeblflaaGreatDoor
set_option linter.unusedSimpArgs false
set_option linter.unusedVariables false
open Go.RowKit Ga
set_option maxRecDepth 100000

/-- A pointer to a cell that holds x. -/
def PtsTo (x v : Value) (w : World) : Prop := ∃ b o, v = .pointer (some ⟨b, o, none⟩) ∧ w.cell? ⟨b, o, none⟩ = some x
theorem cell_grew {w w' : World} {b o : Nat} {x : Value} (h : w.cell? ⟨b, o, none⟩ = some x) (g : Grew w w') : w'.cell? ⟨b, o, none⟩ = some x := by
  obtain ⟨R, n, rfl⟩ := g
  rw [World.cell?_more_past R n _ _ (Pre.ofCell h)]; exact h
theorem PtsTo.st (x : Value) : ∀ v w w', PtsTo x v w → Grew w w' → PtsTo x v w' := fun _ _ _ ⟨b, o, h1, h2⟩ g => ⟨b, o, h1, cell_grew h2 g⟩

/-- A slice of eighteen texts, the names. -/
def NamesAt (v : Value) (w : World) : Prop := ∃ b, v = .slice (some ⟨b, 0, none⟩) 18 18 ∧ ∀ j, j < 18 → w.cell? ⟨b, j, none⟩ = some (.string ⟨(Co.namesL.getD j []).toArray⟩)
theorem NamesAt.st : ∀ v w w', NamesAt v w → Grew w w' → NamesAt v w' := fun _ _ _ ⟨b, h1, h2⟩ g => ⟨b, h1, fun j hj => cell_grew (h2 j hj) g⟩
theorem namesVals_at : ∀ j, j < 18 → ((Co.namesL.map fun l => Value.string ⟨l.toArray⟩).toArray)[j]? = some (.string ⟨(Co.namesL.getD j []).toArray⟩) := by
  intro j hj
  have h : j < Co.namesL.length := hj
  rw [List.getD_eq_getElem?_getD, List.getElem?_eq_getElem h]
  simp [List.getElem?_eq_getElem h]
theorem NamesAt.fresh (w : World) (t : TypeId) : NamesAt (.slice (some ⟨w.heap.size, 0, none⟩) 18 18) (w.alloc (.cells (Co.namesL.map fun l => Value.string ⟨l.toArray⟩).toArray t)) :=
  ⟨_, rfl, fun j hj => by rw [World.cell?_alloc_at _ _ _ _ (by simp)]; exact namesVals_at j hj⟩

/-- The table that strings.Fields reads. -/
def Asc (w : World) : Prop := Lib.TabIs Tryz.prog w "strings.asciiSpace" .u8 Lib.asciiSpaceTab
theorem Asc.grew {w w' : World} (h : Asc w) (g : Grew w w') : Asc w' := var_grew h g

def encS (l : List UInt8) : List Value := [.string ⟨l.toArray⟩]
theorem infoStr : (Tryz.prog.info? 9).map (fun i => (i.zero, i.size, i.bytes)) = some (some (.string ByteArray.empty), 1, 16) := by kernel_rfl
theorem encS_len (l : List UInt8) : (encS l).length = 1 := rfl
theorem encS_one (l : List UInt8) : ∀ u ∈ encS l, u.oneCell' = true := by intro u hu; simp [encS] at hu; subst hu; rfl
/-- strings.Join of texts that were gathered. -/
theorem join_any (v : Value) (xs : List (List UInt8)) (sep : List UInt8) (base : Nat) (w : World) (h : OwnAt base 9 1 encS w v xs) (hn : xs.length ≤ 1000) (hlen : (Lib.join xs sep).length ≤ 1000000) :
    Calls Tryz.prog 29 #[v, .string ⟨sep.toArray⟩] w (Gives (str (Lib.join xs sep)) w) := by
  rcases h.form with ⟨rfl, rfl⟩ | ⟨b, cap, rfl, hb, hc, hm⟩
  · refine (Tryz.strings_Join_none none 0 _ w).mono ?_
    rintro e w' ⟨rfl, rfl⟩
    exact ⟨rfl, Grew.refl _⟩
  · have hr := h.rows encS_len
    have e1 : (xs.map fun l => (⟨l.toArray⟩ : ByteArray)).map (·.data.toList) = xs := by
      rw [List.map_map]; simp [Function.comp_def]
    by_cases hnil : xs = []
    · subst hnil
      refine (Tryz.strings_Join_none (some ⟨b, 0, none⟩) cap _ w).mono ?_
      rintro e w' ⟨rfl, rfl⟩
      exact ⟨rfl, Grew.refl _⟩
    · obtain ⟨a, cap', hv, _, hx⟩ := hr
      obtain ⟨b', off, hab, hx⟩ := hx hnil
      cases hv
      cases hab
      have hcell : ∀ (j : Nat) x, (xs.map fun l => (⟨l.toArray⟩ : ByteArray))[j]? = some x → w.cell? ⟨b, 0 + j, none⟩ = some (.string x) := by
        intro j x hj
        rw [List.getElem?_map] at hj
        cases hq : xs[j]? with
        | none => rw [hq] at hj; cases hj
        | some y =>
          rw [hq] at hj; cases hj
          have := hx j y hq 0 (.string ⟨y.toArray⟩) rfl
          simpa using this
      have hlt : b < w.heap.size := by
        cases xs with
        | nil => exact absurd rfl hnil
        | cons x xs => exact World.block_lt_of_cell? w _ (hcell 0 ⟨x.toArray⟩ rfl)
      have hJ := Tryz.strings_Join b 0 cap (xs.map fun l => (⟨l.toArray⟩ : ByteArray)) ⟨sep.toArray⟩ w hcell hlt (by simp; omega) (by simpa using hc) (by rw [e1]; show (Lib.join xs sep).length ≤ _; omega)
      rw [List.length_map, e1] at hJ
      refine hJ.mono ?_
      rintro e w' ⟨rfl, hb⟩
      exact ⟨rfl, Grew.ofBelow hb⟩

end Go.Proofs.YthlmmfljeblflaaGreatDoor

/-! code.Text. -/
namespace Go.Proofs.YthlmmfljeblflaaGreatDoor
set_option linter.unusedSimpArgs false
set_option linter.unusedVariables false
open Go.RowKit Ga
set_option maxRecDepth 100000

end Go.Proofs.YthlmmfljeblflaaGreatDoor

/-! forebayref04.Text. -/
namespace Go.Proofs.YthlmmfljeblflaaGreatDoor
set_option linter.unusedSimpArgs false
set_option linter.unusedVariables false
open Go.RowKit Ga
set_option maxRecDepth 100000

end Go.Proofs.YthlmmfljeblflaaGreatDoor

/-! code.Parse. -/
namespace Go.Proofs.YthlmmfljeblflaaGreatDoor
set_option linter.unusedSimpArgs false
set_option linter.unusedVariables false
open Go.RowKit Ga
set_option maxRecDepth 100000

/-- What strings.Index reads. -/
def CellM (w : World) : Prop := ∃ m : Int, w.cell? ⟨1, 0, none⟩ = some (.int .i64 m)

theorem CellM.grew {w w' : World} (h : CellM w) (g : Grew w w') : CellM w' := let ⟨m, hm⟩ := h; ⟨m, cell_grew hm g⟩
end Go.Proofs.YthlmmfljeblflaaGreatDoor


/-! code.Put, forebayref01.Put and Get, forebayref04.Put. -/
namespace Go.Proofs.YthlmmfljeblflaaGreatDoor
set_option linter.unusedSimpArgs false
set_option linter.unusedVariables false
open Go.RowKit Ga
set_option maxRecDepth 100000

/-- A program's numbers. -/
def nums (l : List Val) : List Int := l.flatMap fun i => [i.1, i.2]
def putI (l : List Val) : List UInt8 := Oc.be l.length ++ Oc.bes (nums l)
theorem nums_len : ∀ (l : List Val), (nums l).length = l.length * 2
  | [] => rfl
  | i :: l => by have := nums_len l; unfold nums at *; simp at *; omega
/-! ### the document's -/
end Go.Proofs.YthlmmfljeblflaaGreatDoor

/-! octet.Writer: what a write leaves as it was. -/
namespace Go.Proofs.YthlmmfljeblflaaGreatDoor
set_option linter.unusedSimpArgs false
set_option linter.unusedVariables false
open Go.RowKit Ga
set_option maxRecDepth 100000

/-- all blocks stand as they stood but the writer's own -/
def KeptW (base B : Nat) (W W' : World) : Prop := W.heap.size ≤ W'.heap.size ∧ ∀ q, q < W.heap.size → q ≠ B → Safe base q W → W'.heap[q]? = W.heap[q]?
theorem KeptW.refl (base B : Nat) (W : World) : KeptW base B W W := ⟨Nat.le_refl _, fun _ _ _ _ => rfl⟩
theorem KeptW.ofGrew {base B : Nat} {W W' : World} (g : Grew W W') : KeptW base B W W' := ⟨g.below.size, fun q hq _ _ => g.below.block q hq⟩
theorem KeptW.trans {base B : Nat} {a b c : World} (h : KeptW base B a b) (k : KeptW base B b c) : KeptW base B a c :=
  ⟨Nat.le_trans h.1 k.1, fun q hq hn hs => by
    have h1 := h.2 q hq hn hs
    rw [k.2 q (Nat.lt_of_lt_of_le hq h.1) hn (hs.sameBlock h1), h1]⟩
end Go.Proofs.YthlmmfljeblflaaGreatDoor

/-! code.Get and forebayref04.Get. -/
namespace Go.Proofs.YthlmmfljeblflaaGreatDoor
set_option linter.unusedSimpArgs false
set_option linter.unusedVariables false
open Go.RowKit Ga
set_option maxRecDepth 100000

end Go.Proofs.YthlmmfljeblflaaGreatDoor

/-! A program's bytes: what is put is got, what is got was put. -/
namespace Go.Proofs.YthlmmfljeblflaaGreatDoor
set_option linter.unusedSimpArgs false
set_option linter.unusedVariables false
open Go.RowKit Ga
set_option maxRecDepth 100000

end Go.Proofs.YthlmmfljeblflaaGreatDoor
