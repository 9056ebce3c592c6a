import Derived.Test.YtiocdmfmghanmaaGreatDoorShelf
import Derived.Test.YtiocdmfmghanmaaGreatDoorRegion
import Derived.Test.YtiocdmfmghanmaaGreatDoorGaussB
import Derived.Scope
import Derived.Laws.RangeString
import Derived.Lib.TrimU
import Derived.Lib.TrimAscii
import Derived.Lib.AsciiSet
import Derived.Lib.Hide
import Derived.Deep.WholeRow
/-! strings.IndexRune of a rune beyond ASCII in "+-": -1. -/
namespace Go.Proofs.YtiocdmfmghanmaaGreatDoor
open Go.RowKit
set_option linter.unusedSimpArgs false
set_option linter.unusedVariables false
set_option maxRecDepth 100000


theorem iter_grew (w : World) (s : ByteArray) (k : Nat) : Grew w (w.iter s k) := (Grew.refl w).alloc _
theorem next_pm0 (w : World) (ty : TypeId) : (Instr.next (.pointer (some ⟨w.heap.size, 0, none⟩)) true ty).run Tryz.prog (w.iter ⟨#[43, 45]⟩ 0) = .ok (.tuple #[.bool true, .int .i64 0, .int .i32 43]) (w.iter ⟨#[43, 45]⟩ 1) :=
  run_next_ascii w ⟨#[43, 45]⟩ 0 ty (by decide) (by decide)
theorem next_pm1 (w : World) (ty : TypeId) : (Instr.next (.pointer (some ⟨w.heap.size, 0, none⟩)) true ty).run Tryz.prog (w.iter ⟨#[43, 45]⟩ 1) = .ok (.tuple #[.bool true, .int .i64 1, .int .i32 45]) (w.iter ⟨#[43, 45]⟩ 2) :=
  run_next_ascii w ⟨#[43, 45]⟩ 1 ty (by decide) (by decide)
theorem next_pm2 (w : World) (ty : TypeId) : (Instr.next (.pointer (some ⟨w.heap.size, 0, none⟩)) true ty).run Tryz.prog (w.iter ⟨#[43, 45]⟩ 2) = .ok (.tuple #[.bool false]) (w.iter ⟨#[43, 45]⟩ 2) :=
  run_next_end w ⟨#[43, 45]⟩ 2 ty (by decide)


theorem enc_shape (r : Int) (h0 : 128 ≤ r) (hv : Lib.validRune r = true) : (∃ b0 b1, Utf8.encode r = ⟨#[b0, b1]⟩ ∧ 128 ≤ b1.toNat) ∨ (∃ b0 b1 b2, Utf8.encode r = ⟨#[b0, b1, b2]⟩) ∨ (∃ b0 b1 b2 b3, Utf8.encode r = ⟨#[b0, b1, b2, b3]⟩) := by
  have hval : Utf8.valid r = true := by
    unfold Lib.validRune at hv; unfold Utf8.valid
    simp at hv ⊢
    omega
  unfold Utf8.encode
  simp only [hval, if_true]
  rw [if_neg (by omega)]
  split
  · left
    refine ⟨_, _, rfl, ?_⟩
    rw [UInt8.toNat_ofNat']
    have : r.toNat % 64 < 64 := Nat.mod_lt _ (by decide)
    omega
  · split
    · exact .inr (.inl ⟨_, _, _, rfl⟩)
    · exact .inr (.inr ⟨_, _, _, _, rfl⟩)

end Go.Proofs.YtiocdmfmghanmaaGreatDoor

/-! strings.LastIndexAny(s, "+-"): of ASCII letters the last one of the two; of any it lies within. -/
namespace Go.Proofs.YtiocdmfmghanmaaGreatDoor
open Go.RowKit
set_option linter.unusedSimpArgs false
set_option linter.unusedVariables false
set_option maxRecDepth 100000

/-- One of the two signs. -/
def pm (b : UInt8) : Bool := ([43, 45] : List UInt8).contains b
/-- What is known of the place. -/
def PmAt (l : List UInt8) (k : Int) : Prop :=
  -1 ≤ k ∧ k < l.length ∧ ((∀ b ∈ l, b.toNat < 128) → (∀ (j : Nat) (b : UInt8), k < j → l[j]? = some b → pm b = false) ∧ (∀ b, 0 ≤ k → l[k.toNat]? = some b → pm b = true))

theorem pm_iff (b : UInt8) : pm b = true ↔ ((b.toNat : Int) = 43 ∨ (b.toNat : Int) = 45) := by
  unfold pm
  simp only [List.contains_cons, List.contains_nil, Bool.or_eq_true, beq_iff_eq, Bool.or_false]
  constructor
  · rintro (rfl | rfl) <;> simp
  · rintro (h | h)
    · left; apply UInt8.toNat_inj.1; show b.toNat = 43; omega
    · right; apply UInt8.toNat_inj.1; show b.toNat = 45; omega
/-- None behind it. -/
def NoPm (l : List UInt8) (n : Int) : Prop := ∀ (j : Nat) (b : UInt8), n < j → l[j]? = some b → pm b = false
theorem NoPm.step {l : List UInt8} {k : Nat} {x : UInt8} (h : NoPm l k) (hx : l[k]? = some x) (hp : pm x = false) : NoPm l ((k : Int) - 1) := by
  intro j b hj hb
  by_cases e : j = k
  · subst e; rw [hx] at hb; cases hb; exact hp
  · exact h j b (by omega) hb
theorem PmAt.hit {l : List UInt8} {k : Nat} {x : UInt8} (h : NoPm l k) (hx : l[k]? = some x) (hp : pm x = true) : PmAt l (k : Int) := by
  have hk : k < l.length := (List.getElem?_eq_some_iff.1 hx).1
  refine ⟨by omega, by omega, fun _ => ⟨h, fun b _ hb => ?_⟩⟩
  rw [Int.toNat_natCast, hx] at hb
  cases hb
  exact hp
theorem PmAt.gone {l : List UInt8} (h : NoPm l (-1)) : PmAt l (-1) := ⟨by omega, by omega, fun _ => ⟨h, fun b h0 _ => by omega⟩⟩

theorem pm_ascii (j : Nat) (b : UInt8) (h : (⟨#[43, 45]⟩ : ByteArray).data.toList[j]? = some b) : b.toNat < 128 := by
  have h1 : b ∈ [(43 : UInt8), 45] := List.mem_of_getElem? h
  have h2 : ∀ c ∈ [(43 : UInt8), 45], c.toNat < 128 := by decide
  exact h2 b h1

theorem utf8_grew {g3 g4 : Nat} {w w' : World} (h : Lib.Utf8Tabs g3 g4 w) (g : Grew w w') : Lib.Utf8Tabs g3 g4 w' := by
  obtain ⟨R, n, rfl⟩ := g
  refine ⟨fun c hc => ?_, fun i hi => ⟨?_, ?_⟩⟩
  · have := h.1 c hc
    rw [World.cell?_more_past R n _ _ (Pre.ofCell this)]; exact this
  · have := (h.2 i hi).1
    rw [World.cell?_more_past R n _ _ (Pre.ofCell this)]; exact this
  · have := (h.2 i hi).2
    rw [World.cell?_more_past R n _ _ (Pre.ofCell this)]; exact this



theorem ascii_take {l : List UInt8} {n : Nat} (h : ∀ b ∈ l, b.toNat < 128) : ∀ b ∈ l.take n, b.toNat < 128 := fun b hb => h b (List.mem_of_mem_take hb)


end Go.Proofs.YtiocdmfmghanmaaGreatDoor
