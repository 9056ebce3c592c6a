import Derived.Test.YtiocdmfmghanmaaGreatDoorCode2
import Derived.Test.YtiocdmfmghanmaaGreatDoorMk14
import Derived.Test.YtiocdmfmghanmaaGreatDoorShelf
import Derived.Test.YtiocdmfmghanmaaGreatDoorOwn
/-! The names of the operations; code.Text and the document's. -/
namespace Go.Proofs.YtiocdmfmghanmaaGreatDoor
set_option linter.unusedSimpArgs false
set_option linter.unusedVariables false
open Go.RowKit Ga
set_option maxRecDepth 100000

/-- A pointer to a cell that holds x. -/
def PtsTo (x v : Value) (w : World) : Prop := ∃ b o, v = .pointer (some ⟨b, o, none⟩) ∧ w.cell? ⟨b, o, none⟩ = some x
theorem cell_grew {w w' : World} {b o : Nat} {x : Value} (h : w.cell? ⟨b, o, none⟩ = some x) (g : Grew w w') : w'.cell? ⟨b, o, none⟩ = some x := by
  obtain ⟨R, n, rfl⟩ := g
  rw [World.cell?_more_past R n _ _ (Pre.ofCell h)]; exact h
theorem PtsTo.st (x : Value) : ∀ v w w', PtsTo x v w → Grew w w' → PtsTo x v w' := fun _ _ _ ⟨b, o, h1, h2⟩ g => ⟨b, o, h1, cell_grew h2 g⟩

/-- A slice of eighteen texts, the names. -/
def NamesAt (v : Value) (w : World) : Prop := ∃ b, v = .slice (some ⟨b, 0, none⟩) 18 18 ∧ ∀ j, j < 18 → w.cell? ⟨b, j, none⟩ = some (.string ⟨(Co.namesL.getD j []).toArray⟩)
theorem NamesAt.st : ∀ v w w', NamesAt v w → Grew w w' → NamesAt v w' := fun _ _ _ ⟨b, h1, h2⟩ g => ⟨b, h1, fun j hj => cell_grew (h2 j hj) g⟩
theorem namesVals_at : ∀ j, j < 18 → ((Co.namesL.map fun l => Value.string ⟨l.toArray⟩).toArray)[j]? = some (.string ⟨(Co.namesL.getD j []).toArray⟩) := by
  intro j hj
  have h : j < Co.namesL.length := hj
  rw [List.getD_eq_getElem?_getD, List.getElem?_eq_getElem h]
  simp [List.getElem?_eq_getElem h]
theorem NamesAt.fresh (w : World) (t : TypeId) : NamesAt (.slice (some ⟨w.heap.size, 0, none⟩) 18 18) (w.alloc (.cells (Co.namesL.map fun l => Value.string ⟨l.toArray⟩).toArray t)) :=
  ⟨_, rfl, fun j hj => by rw [World.cell?_alloc_at _ _ _ _ (by simp)]; exact namesVals_at j hj⟩

/-- The table that strings.Fields reads. -/
def Asc (w : World) : Prop := Lib.TabIs Tryz.prog w "strings.asciiSpace" .u8 Lib.asciiSpaceTab
theorem Asc.grew {w w' : World} (h : Asc w) (g : Grew w w') : Asc w' := var_grew h g

def namesS : List UInt8 := [72, 65, 76, 84, 32, 80, 85, 83, 72, 32, 80, 85, 83, 72, 73, 32, 73, 78, 32, 76, 79, 65, 68, 32, 83, 84, 79, 82, 69, 32, 65, 68, 68, 32, 83, 85, 66, 32, 77, 85, 76, 32, 67, 79, 78, 74, 32, 84, 85, 82, 78, 32, 68, 85, 80, 32, 83, 87, 65, 80, 32, 68, 82, 79, 80, 32, 69, 77, 73, 84, 32, 74, 90, 32, 74, 77, 80, 32, 76, 84]
theorem namesS_fields : Lib.fields namesS = Co.namesL := by decide +kernel
theorem namesS_ascii : ∀ b ∈ namesS, b.toNat < 128 := by decide

theorem names_any (w : World) (h : Asc w) : Calls Tryz.prog 27 #[] w fun e w' => ∃ v, e = .returned v ∧ NamesAt v w' ∧ Grew w w' := by
  have hF := Tryz.strings_Fields ⟨namesS.toArray⟩ w (by decide) (fun j b hb => namesS_ascii b (List.mem_of_getElem? hb)) h
  go_enter Tryz.func27, Tryz.ntmps27
  go_wp2_with (go_at_call 40; refine hF.mono ?_; rintro e w1 ⟨rfl, hw⟩; rw [hw])
  go_ret
  refine ⟨_, rfl, ?_, ?_⟩
  · show NamesAt (.slice (some ⟨w.heap.size, 0, none⟩) (Lib.fields namesS).length (Lib.fields namesS).length) (w.alloc (.cells ((Lib.fields namesS).map fun l => Value.string ⟨l.toArray⟩).toArray 9))
    rw [namesS_fields]
    exact NamesAt.fresh w _
  · repeat (first | with_reducible exact Grew.refl _ | apply Grew.more | apply Grew.alloc | apply Grew.drew | apply Grew.drewN)


def encS (l : List UInt8) : List Value := [.string ⟨l.toArray⟩]
theorem infoStr : (Tryz.prog.info? 9).map (fun i => (i.zero, i.size, i.bytes)) = some (some (.string ByteArray.empty), 1, 16) := by kernel_rfl
theorem encS_len (l : List UInt8) : (encS l).length = 1 := rfl
theorem encS_one (l : List UInt8) : ∀ u ∈ encS l, u.oneCell' = true := by intro u hu; simp [encS] at hu; subst hu; rfl
theorem encS_new (W : World) (l : List UInt8) (t : TypeId) (b : Nat) (hb : b = W.heap.size) : ∀ j u, (encS l)[j]? = some u → (W.alloc (.cells #[.string ⟨l.toArray⟩] t)).cell? ⟨b, j, none⟩ = some u := by
  intro j u hu
  rw [new_cells W _ t b hb j]
  simpa [encS] using hu

theorem encS_at (W : World) (l : List UInt8) (x : ByteArray) (t : TypeId) (b : Nat) (hx : x = ⟨l.toArray⟩) (hb : b = W.heap.size) : ∀ j u, (encS l)[j]? = some u → (W.alloc (.cells #[.string x] t)).cell? ⟨b, j, none⟩ = some u := by
  subst hx; exact encS_new W l t b hb
theorem flatMap_encS (l : List (List UInt8)) : l.flatMap encS = l.map fun x => Value.string ⟨x.toArray⟩ := by
  induction l with
  | nil => rfl
  | cons x l ih => rw [List.flatMap_cons, ih]; rfl

/-- strings.Join of texts that were gathered. -/
theorem join_any (v : Value) (xs : List (List UInt8)) (sep : List UInt8) (base : Nat) (w : World) (h : OwnAt base 9 1 encS w v xs) (hn : xs.length ≤ 1000) (hlen : (Lib.join xs sep).length ≤ 1000000) :
    Calls Tryz.prog 44 #[v, .string ⟨sep.toArray⟩] w (Gives (str (Lib.join xs sep)) w) := by
  rcases h.form with ⟨rfl, rfl⟩ | ⟨b, cap, rfl, hb, hc, hm⟩
  · refine (Tryz.strings_Join_none none 0 _ w).mono ?_
    rintro e w' ⟨rfl, rfl⟩
    exact ⟨rfl, Grew.refl _⟩
  · have hr := h.rows encS_len
    have e1 : (xs.map fun l => (⟨l.toArray⟩ : ByteArray)).map (·.data.toList) = xs := by
      rw [List.map_map]; simp [Function.comp_def]
    by_cases hnil : xs = []
    · subst hnil
      refine (Tryz.strings_Join_none (some ⟨b, 0, none⟩) cap _ w).mono ?_
      rintro e w' ⟨rfl, rfl⟩
      exact ⟨rfl, Grew.refl _⟩
    · obtain ⟨a, cap', hv, _, hx⟩ := hr
      obtain ⟨b', off, hab, hx⟩ := hx hnil
      cases hv
      cases hab
      have hcell : ∀ (j : Nat) x, (xs.map fun l => (⟨l.toArray⟩ : ByteArray))[j]? = some x → w.cell? ⟨b, 0 + j, none⟩ = some (.string x) := by
        intro j x hj
        rw [List.getElem?_map] at hj
        cases hq : xs[j]? with
        | none => rw [hq] at hj; cases hj
        | some y =>
          rw [hq] at hj; cases hj
          have := hx j y hq 0 (.string ⟨y.toArray⟩) rfl
          simpa using this
      have hlt : b < w.heap.size := by
        cases xs with
        | nil => exact absurd rfl hnil
        | cons x xs => exact World.block_lt_of_cell? w _ (hcell 0 ⟨x.toArray⟩ rfl)
      have hJ := Tryz.strings_Join b 0 cap (xs.map fun l => (⟨l.toArray⟩ : ByteArray)) ⟨sep.toArray⟩ w hcell hlt (by simp; omega) (by simpa using hc) (by rw [e1]; show (Lib.join xs sep).length ≤ _; omega)
      rw [List.length_map, e1] at hJ
      refine hJ.mono ?_
      rintro e w' ⟨rfl, hb⟩
      exact ⟨rfl, Grew.ofBelow hb⟩
end Go.Proofs.YtiocdmfmghanmaaGreatDoor
