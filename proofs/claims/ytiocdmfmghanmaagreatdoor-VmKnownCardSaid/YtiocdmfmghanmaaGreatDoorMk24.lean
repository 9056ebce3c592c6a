import Derived.Test.YtiocdmfmghanmaaGreatDoorMk23
import Derived.Test.YtiocdmfmghanmaaGreatDoorMk14
import Derived.Test.YtiocdmfmghanmaaGreatDoorTextMath
import Derived.Lib.AtoiTie
import Derived.Lib.PathFns
/-! gauss.Parse. -/
namespace Go.Proofs.YtiocdmfmghanmaaGreatDoor
open Go.RowKit Ga
set_option linter.unusedSimpArgs false
set_option linter.unusedVariables false
set_option maxRecDepth 100000

/-- What strconv's errors are. -/
def Errs (w : World) : Prop := (∃ tp p, w.var? Tryz.prog "strconv.ErrSyntax" = some #[.iface tp p]) ∧ (∃ tp p, w.var? Tryz.prog "strconv.ErrRange" = some #[.iface tp p])
theorem Errs.grew {w w' : World} (h : Errs w) (g : Grew w w') : Errs w' := by
  obtain ⟨⟨t, p, h1⟩, ⟨t2, p2, h2⟩⟩ := h
  exact ⟨⟨t, p, var_grew h1 g⟩, ⟨t2, p2, var_grew h2 g⟩⟩

/-- strconv.Atoi of any text. -/
theorem atoi_any (s : ByteArray) (hs : s.size ≤ 281474976710656) (w : World) (h : Errs w) :
    Calls Tryz.prog 25 #[.string s] w (fun e w' => ∃ (n : Int) (v : Value), e = .returned (.tuple #[.int .i64 n, v]) ∧ (-9223372036854775808 ≤ n ∧ n ≤ 9223372036854775807) ∧ (∀ m, Lib.atoiAll s.data.toList = .ok m → n = m) ∧ Grew w w') := by
  obtain ⟨⟨t, p, h1⟩, ⟨t2, p2, h2⟩⟩ := h
  have key : ∀ r, Lib.atoiAll s.data.toList = r → Calls Tryz.prog 25 #[.string s] w (fun e w' => ∃ (n : Int) (v : Value), e = .returned (.tuple #[.int .i64 n, v]) ∧ (-9223372036854775808 ≤ n ∧ n ≤ 9223372036854775807) ∧ (∀ m, r = .ok m → n = m) ∧ Grew w w') := by
    intro r ha
    rcases r with m | _ | _
    · refine (Tryz.strconv_Atoi_ok s (by omega) m ha w).mono ?_
      rintro e w' ⟨rfl, hw⟩
      refine ⟨m, _, rfl, Lib.atoiAll_bounds ha, (fun m' hm => by cases hm; rfl), ?_⟩
      rcases hw with rfl | ⟨t, rfl⟩
      · exact Grew.refl _
      · exact grew_bytes _ _ _
    · refine (Tryz.strconv_Atoi_syntax_var s hs ha t p w h1).mono ?_
      rintro e w' ⟨N, rfl, _, _, hb⟩
      exact ⟨0, _, rfl, by omega, (fun m' hm => by cases hm), Grew.ofBelow hb⟩
    · refine (Tryz.strconv_Atoi_range_var s hs ha t2 p2 w h2).mono ?_
      rintro e w' ⟨N, rfl, _, _, hb⟩
      exact ⟨_, _, rfl, Lib.atoiSat_bounds _, (fun m' hm => by cases hm), Grew.ofBelow hb⟩
  exact key _ rfl

theorem pm_isPM (b : UInt8) : pm b = Tx.isPM b := by
  unfold pm Tx.isPM
  rw [Bool.eq_iff_iff]
  simp
theorem pmAt_split {a b : List UInt8} {x : UInt8} {k : Int} (hx : pm x = true) (hb : ∀ y ∈ b, pm y = false) (ha : ∀ y ∈ a ++ x :: b, y.toNat < 128) (h : PmAt (a ++ x :: b) k) : k = a.length := by
  obtain ⟨h1, h2, h3⟩ := h
  obtain ⟨h4, h5⟩ := h3 ha
  apply Classical.byContradiction
  intro hne
  by_cases hlt : k < a.length
  · have := h4 a.length x (by omega) (by simp)
    rw [hx] at this; cases this
  · have hin : k.toNat - a.length - 1 < b.length := by simp at h2; omega
    have e : (a ++ x :: b)[k.toNat]? = b[k.toNat - a.length - 1]? := by
      rw [List.getElem?_append_right (by omega), List.getElem?_cons, if_neg (by omega)]
    have := h5 b[k.toNat - a.length - 1] (by omega) (by rw [e]; exact List.getElem?_eq_getElem hin)
    rw [hb _ (List.getElem_mem _)] at this; cases this
theorem pmAt_text {r i k : Int} (h : PmAt (Tx.textL r i) k) : k = (Lib.itoa r).length := by
  obtain ⟨x, d, h1, h2, h3⟩ := Tx.imL_shape i
  have e : Tx.textL r i = Lib.itoa r ++ x :: (d ++ [105]) := by rw [Tx.textL_eq, h1]; simp
  have hasc := Tx.textL_ascii r i
  rw [e] at h hasc
  refine pmAt_split (by rw [pm_isPM]; exact h2) ?_ hasc h
  intro y hy
  rw [pm_isPM]
  rcases List.mem_append.1 hy with h | h
  · exact Tx.not_pm_of_dig (h3 y h)
  · simp at h; subst h; decide

/-- What Parse hands back. -/
noncomputable def parseOut (l : List UInt8) : Val × Int :=
  haveI := Classical.propDecidable
  if h : ∃ x : Val, l = Tx.textL (into x.1) (into x.2) then ((into h.choose.1, into h.choose.2), 0) else ((0, 0), 4)
theorem parseOut_text (p q : Int) : parseOut (Tx.textL (into p) (into q)) = ((into p, into q), 0) := by
  have h : ∃ x : Val, Tx.textL (into p) (into q) = Tx.textL (into x.1) (into x.2) := ⟨(p, q), rfl⟩
  obtain ⟨e1, e2⟩ := Tx.textL_inj h.choose_spec
  unfold parseOut
  rw [dif_pos h, ← e1, ← e2]
theorem parseOut_none {l : List UInt8} (h : ∀ x : Val, l ≠ Tx.textL (into x.1) (into x.2)) : parseOut l = ((0, 0), 4) := by
  unfold parseOut
  rw [dif_neg (by rintro ⟨x, hx⟩; exact h x hx)]

/-- A text of a right value, cut where Parse cuts it. -/
theorem cut_text {p q k : Int} (h : PmAt (Tx.textL p q) k) : 1 ≤ k ∧ ((Tx.textL p q).take k.toNat) = Lib.itoa p ∧ (((Tx.textL p q).take ((Tx.textL p q).length - 1)).drop k.toNat) = Tx.imL q := by
  have hk := pmAt_text h
  have h1 := Tx.itoa_pos p
  subst hk
  refine ⟨by omega, by rw [Int.toNat_natCast]; exact Tx.take_text p q, ?_⟩
  rw [Int.toNat_natCast, Tx.textL_eq]
  have e : (Lib.itoa p ++ (Tx.imL q ++ [105])).length - 1 = (Lib.itoa p ++ Tx.imL q).length := by simp only [List.length_append, List.length_cons, List.length_nil]; omega
  rw [e, ← List.append_assoc, List.take_left, List.drop_left]

end Go.Proofs.YtiocdmfmghanmaaGreatDoor
