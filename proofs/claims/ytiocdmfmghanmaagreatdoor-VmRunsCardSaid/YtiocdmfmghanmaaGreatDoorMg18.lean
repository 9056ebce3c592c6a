import Derived.Test.YtiocdmfmghanmaaGreatDoorShelf
import Derived.Test.YtiocdmfmghanmaaGreatDoorRegion
import Derived.Test.YtiocdmfmghanmaaGreatDoorGaussB
import Derived.Scope
import Derived.Laws.RangeString
import Derived.Lib.TrimU
import Derived.Lib.TrimAscii
import Derived.Lib.AsciiSet
import Derived.Lib.Hide
import Derived.Deep.WholeRow
import Derived.Test.YtiocdmfmghanmaaGreatDoorMg12
import Derived.Test.YtiocdmfmghanmaaGreatDoorTextMath
import Derived.Lib.AtoiTie
import Derived.Lib.PathFns
/-! strings.IndexRune of a rune beyond ASCII in "+-": -1. -/
namespace Go.Proofs.YtiocdmfmghanmaaGreatDoor
open Go.RowKit
set_option linter.unusedSimpArgs false
set_option linter.unusedVariables false
set_option maxRecDepth 100000


theorem iter_grew (w : World) (s : ByteArray) (k : Nat) : Grew w (w.iter s k) := (Grew.refl w).alloc _
theorem next_pm0 (w : World) (ty : TypeId) : (Instr.next (.pointer (some ⟨w.heap.size, 0, none⟩)) true ty).run Tryz.prog (w.iter ⟨#[43, 45]⟩ 0) = .ok (.tuple #[.bool true, .int .i64 0, .int .i32 43]) (w.iter ⟨#[43, 45]⟩ 1) :=
  run_next_ascii w ⟨#[43, 45]⟩ 0 ty (by decide) (by decide)
theorem next_pm1 (w : World) (ty : TypeId) : (Instr.next (.pointer (some ⟨w.heap.size, 0, none⟩)) true ty).run Tryz.prog (w.iter ⟨#[43, 45]⟩ 1) = .ok (.tuple #[.bool true, .int .i64 1, .int .i32 45]) (w.iter ⟨#[43, 45]⟩ 2) :=
  run_next_ascii w ⟨#[43, 45]⟩ 1 ty (by decide) (by decide)
theorem next_pm2 (w : World) (ty : TypeId) : (Instr.next (.pointer (some ⟨w.heap.size, 0, none⟩)) true ty).run Tryz.prog (w.iter ⟨#[43, 45]⟩ 2) = .ok (.tuple #[.bool false]) (w.iter ⟨#[43, 45]⟩ 2) :=
  run_next_end w ⟨#[43, 45]⟩ 2 ty (by decide)


theorem enc_shape (r : Int) (h0 : 128 ≤ r) (hv : Lib.validRune r = true) : (∃ b0 b1, Utf8.encode r = ⟨#[b0, b1]⟩ ∧ 128 ≤ b1.toNat) ∨ (∃ b0 b1 b2, Utf8.encode r = ⟨#[b0, b1, b2]⟩) ∨ (∃ b0 b1 b2 b3, Utf8.encode r = ⟨#[b0, b1, b2, b3]⟩) := by
  have hval : Utf8.valid r = true := by
    unfold Lib.validRune at hv; unfold Utf8.valid
    simp at hv ⊢
    omega
  unfold Utf8.encode
  simp only [hval, if_true]
  rw [if_neg (by omega)]
  split
  · left
    refine ⟨_, _, rfl, ?_⟩
    rw [UInt8.toNat_ofNat']
    have : r.toNat % 64 < 64 := Nat.mod_lt _ (by decide)
    omega
  · split
    · exact .inr (.inl ⟨_, _, _, rfl⟩)
    · exact .inr (.inr ⟨_, _, _, _, rfl⟩)

end Go.Proofs.YtiocdmfmghanmaaGreatDoor

/-! strings.LastIndexAny(s, "+-"): of ASCII letters the last one of the two; of any it lies within. -/
namespace Go.Proofs.YtiocdmfmghanmaaGreatDoor
open Go.RowKit
set_option linter.unusedSimpArgs false
set_option linter.unusedVariables false
set_option maxRecDepth 100000

/-- One of the two signs. -/
def pm (b : UInt8) : Bool := ([43, 45] : List UInt8).contains b
/-- What is known of the place. -/
def PmAt (l : List UInt8) (k : Int) : Prop :=
  -1 ≤ k ∧ k < l.length ∧ ((∀ b ∈ l, b.toNat < 128) → (∀ (j : Nat) (b : UInt8), k < j → l[j]? = some b → pm b = false) ∧ (∀ b, 0 ≤ k → l[k.toNat]? = some b → pm b = true))

theorem pm_iff (b : UInt8) : pm b = true ↔ ((b.toNat : Int) = 43 ∨ (b.toNat : Int) = 45) := by
  unfold pm
  simp only [List.contains_cons, List.contains_nil, Bool.or_eq_true, beq_iff_eq, Bool.or_false]
  constructor
  · rintro (rfl | rfl) <;> simp
  · rintro (h | h)
    · left; apply UInt8.toNat_inj.1; show b.toNat = 43; omega
    · right; apply UInt8.toNat_inj.1; show b.toNat = 45; omega
/-- None behind it. -/
def NoPm (l : List UInt8) (n : Int) : Prop := ∀ (j : Nat) (b : UInt8), n < j → l[j]? = some b → pm b = false
theorem NoPm.step {l : List UInt8} {k : Nat} {x : UInt8} (h : NoPm l k) (hx : l[k]? = some x) (hp : pm x = false) : NoPm l ((k : Int) - 1) := by
  intro j b hj hb
  by_cases e : j = k
  · subst e; rw [hx] at hb; cases hb; exact hp
  · exact h j b (by omega) hb
theorem PmAt.hit {l : List UInt8} {k : Nat} {x : UInt8} (h : NoPm l k) (hx : l[k]? = some x) (hp : pm x = true) : PmAt l (k : Int) := by
  have hk : k < l.length := (List.getElem?_eq_some_iff.1 hx).1
  refine ⟨by omega, by omega, fun _ => ⟨h, fun b _ hb => ?_⟩⟩
  rw [Int.toNat_natCast, hx] at hb
  cases hb
  exact hp
theorem PmAt.gone {l : List UInt8} (h : NoPm l (-1)) : PmAt l (-1) := ⟨by omega, by omega, fun _ => ⟨h, fun b h0 _ => by omega⟩⟩

theorem pm_ascii (j : Nat) (b : UInt8) (h : (⟨#[43, 45]⟩ : ByteArray).data.toList[j]? = some b) : b.toNat < 128 := by
  have h1 : b ∈ [(43 : UInt8), 45] := List.mem_of_getElem? h
  have h2 : ∀ c ∈ [(43 : UInt8), 45], c.toNat < 128 := by decide
  exact h2 b h1

theorem utf8_grew {g3 g4 : Nat} {w w' : World} (h : Lib.Utf8Tabs g3 g4 w) (g : Grew w w') : Lib.Utf8Tabs g3 g4 w' := by
  obtain ⟨R, n, rfl⟩ := g
  refine ⟨fun c hc => ?_, fun i hi => ⟨?_, ?_⟩⟩
  · have := h.1 c hc
    rw [World.cell?_more_past R n _ _ (Pre.ofCell this)]; exact this
  · have := (h.2 i hi).1
    rw [World.cell?_more_past R n _ _ (Pre.ofCell this)]; exact this
  · have := (h.2 i hi).2
    rw [World.cell?_more_past R n _ _ (Pre.ofCell this)]; exact this



theorem ascii_take {l : List UInt8} {n : Nat} (h : ∀ b ∈ l, b.toNat < 128) : ∀ b ∈ l.take n, b.toNat < 128 := fun b hb => h b (List.mem_of_mem_take hb)


end Go.Proofs.YtiocdmfmghanmaaGreatDoor

/-! gauss.Parse. -/
namespace Go.Proofs.YtiocdmfmghanmaaGreatDoor
open Go.RowKit Ga
set_option linter.unusedSimpArgs false
set_option linter.unusedVariables false
set_option maxRecDepth 100000

/-- What strconv's errors are. -/
def Errs (w : World) : Prop := (∃ tp p, w.var? Tryz.prog "strconv.ErrSyntax" = some #[.iface tp p]) ∧ (∃ tp p, w.var? Tryz.prog "strconv.ErrRange" = some #[.iface tp p])
theorem Errs.grew {w w' : World} (h : Errs w) (g : Grew w w') : Errs w' := by
  obtain ⟨⟨t, p, h1⟩, ⟨t2, p2, h2⟩⟩ := h
  exact ⟨⟨t, p, var_grew h1 g⟩, ⟨t2, p2, var_grew h2 g⟩⟩

/-- strconv.Atoi of any text. -/
theorem atoi_any (s : ByteArray) (hs : s.size ≤ 281474976710656) (w : World) (h : Errs w) :
    Calls Tryz.prog 25 #[.string s] w (fun e w' => ∃ (n : Int) (v : Value), e = .returned (.tuple #[.int .i64 n, v]) ∧ (-9223372036854775808 ≤ n ∧ n ≤ 9223372036854775807) ∧ (∀ m, Lib.atoiAll s.data.toList = .ok m → n = m) ∧ Grew w w') := by
  obtain ⟨⟨t, p, h1⟩, ⟨t2, p2, h2⟩⟩ := h
  have key : ∀ r, Lib.atoiAll s.data.toList = r → Calls Tryz.prog 25 #[.string s] w (fun e w' => ∃ (n : Int) (v : Value), e = .returned (.tuple #[.int .i64 n, v]) ∧ (-9223372036854775808 ≤ n ∧ n ≤ 9223372036854775807) ∧ (∀ m, r = .ok m → n = m) ∧ Grew w w') := by
    intro r ha
    rcases r with m | _ | _
    · refine (Tryz.strconv_Atoi_ok s (by omega) m ha w).mono ?_
      rintro e w' ⟨rfl, hw⟩
      refine ⟨m, _, rfl, Lib.atoiAll_bounds ha, (fun m' hm => by cases hm; rfl), ?_⟩
      rcases hw with rfl | ⟨t, rfl⟩
      · exact Grew.refl _
      · exact grew_bytes _ _ _
    · refine (Tryz.strconv_Atoi_syntax_var s hs ha t p w h1).mono ?_
      rintro e w' ⟨N, rfl, _, _, hb⟩
      exact ⟨0, _, rfl, by omega, (fun m' hm => by cases hm), Grew.ofBelow hb⟩
    · refine (Tryz.strconv_Atoi_range_var s hs ha t2 p2 w h2).mono ?_
      rintro e w' ⟨N, rfl, _, _, hb⟩
      exact ⟨_, _, rfl, Lib.atoiSat_bounds _, (fun m' hm => by cases hm), Grew.ofBelow hb⟩
  exact key _ rfl

theorem pm_isPM (b : UInt8) : pm b = Tx.isPM b := by
  unfold pm Tx.isPM
  rw [Bool.eq_iff_iff]
  simp
theorem pmAt_split {a b : List UInt8} {x : UInt8} {k : Int} (hx : pm x = true) (hb : ∀ y ∈ b, pm y = false) (ha : ∀ y ∈ a ++ x :: b, y.toNat < 128) (h : PmAt (a ++ x :: b) k) : k = a.length := by
  obtain ⟨h1, h2, h3⟩ := h
  obtain ⟨h4, h5⟩ := h3 ha
  apply Classical.byContradiction
  intro hne
  by_cases hlt : k < a.length
  · have := h4 a.length x (by omega) (by simp)
    rw [hx] at this; cases this
  · have hin : k.toNat - a.length - 1 < b.length := by simp at h2; omega
    have e : (a ++ x :: b)[k.toNat]? = b[k.toNat - a.length - 1]? := by
      rw [List.getElem?_append_right (by omega), List.getElem?_cons, if_neg (by omega)]
    have := h5 b[k.toNat - a.length - 1] (by omega) (by rw [e]; exact List.getElem?_eq_getElem hin)
    rw [hb _ (List.getElem_mem _)] at this; cases this
theorem pmAt_text {r i k : Int} (h : PmAt (Tx.textL r i) k) : k = (Lib.itoa r).length := by
  obtain ⟨x, d, h1, h2, h3⟩ := Tx.imL_shape i
  have e : Tx.textL r i = Lib.itoa r ++ x :: (d ++ [105]) := by rw [Tx.textL_eq, h1]; simp
  have hasc := Tx.textL_ascii r i
  rw [e] at h hasc
  refine pmAt_split (by rw [pm_isPM]; exact h2) ?_ hasc h
  intro y hy
  rw [pm_isPM]
  rcases List.mem_append.1 hy with h | h
  · exact Tx.not_pm_of_dig (h3 y h)
  · simp at h; subst h; decide

/-- What Parse hands back. -/
noncomputable def parseOut (l : List UInt8) : Val × Int :=
  haveI := Classical.propDecidable
  if h : ∃ x : Val, l = Tx.textL (into x.1) (into x.2) then ((into h.choose.1, into h.choose.2), 0) else ((0, 0), 4)
theorem parseOut_text (p q : Int) : parseOut (Tx.textL (into p) (into q)) = ((into p, into q), 0) := by
  have h : ∃ x : Val, Tx.textL (into p) (into q) = Tx.textL (into x.1) (into x.2) := ⟨(p, q), rfl⟩
  obtain ⟨e1, e2⟩ := Tx.textL_inj h.choose_spec
  unfold parseOut
  rw [dif_pos h, ← e1, ← e2]
theorem parseOut_none {l : List UInt8} (h : ∀ x : Val, l ≠ Tx.textL (into x.1) (into x.2)) : parseOut l = ((0, 0), 4) := by
  unfold parseOut
  rw [dif_neg (by rintro ⟨x, hx⟩; exact h x hx)]

/-- A text of a right value, cut where Parse cuts it. -/
theorem cut_text {p q k : Int} (h : PmAt (Tx.textL p q) k) : 1 ≤ k ∧ ((Tx.textL p q).take k.toNat) = Lib.itoa p ∧ (((Tx.textL p q).take ((Tx.textL p q).length - 1)).drop k.toNat) = Tx.imL q := by
  have hk := pmAt_text h
  have h1 := Tx.itoa_pos p
  subst hk
  refine ⟨by omega, by rw [Int.toNat_natCast]; exact Tx.take_text p q, ?_⟩
  rw [Int.toNat_natCast, Tx.textL_eq]
  have e : (Lib.itoa p ++ (Tx.imL q ++ [105])).length - 1 = (Lib.itoa p ++ Tx.imL q).length := by simp only [List.length_append, List.length_cons, List.length_nil]; omega
  rw [e, ← List.append_assoc, List.take_left, List.drop_left]

end Go.Proofs.YtiocdmfmghanmaaGreatDoor
