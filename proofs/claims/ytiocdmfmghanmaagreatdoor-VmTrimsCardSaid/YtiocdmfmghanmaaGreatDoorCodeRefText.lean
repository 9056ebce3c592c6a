import Derived.Test.YtiocdmfmghanmaaGreatDoorCodeText
/-! forebayref04.Text. -/
namespace Go.Proofs.YtiocdmfmghanmaaGreatDoor
set_option linter.unusedSimpArgs false
set_option linter.unusedVariables false
open Go.RowKit Ga
set_option maxRecDepth 100000

theorem text_step {l : List Val} {k : Nat} (h : k < l.length) : Co.textI (l.take (k + 1)) = if k = 0 then Co.word l[k] else Co.textI (l.take k) ++ Co.sep ++ Co.word l[k] := by
  rw [List.take_succ_eq_append_getElem h, Co.textI_snoc]
  by_cases hk : k = 0
  · subst hk; simp
  · rw [if_neg hk, if_neg (by intro e; have h2 := congrArg List.length e; rw [List.length_take, List.length_nil] at h2; omega)]
theorem cat4 (T nm it : List UInt8) : (⟨T.toArray⟩ ++ ⟨#[59, 32]⟩ ++ ⟨nm.toArray⟩ ++ ⟨#[32]⟩ ++ ⟨it.toArray⟩ : ByteArray) = ⟨(T ++ [59, 32] ++ (nm ++ ([32] ++ it))).toArray⟩ := by
  have e1 : (⟨#[59, 32]⟩ : ByteArray) = ⟨([59, 32] : List UInt8).toArray⟩ := rfl
  have e2 : (⟨#[32]⟩ : ByteArray) = ⟨([32] : List UInt8).toArray⟩ := rfl
  rw [e1, e2, str_cat, str_cat, str_cat, str_cat]
  simp only [List.append_assoc]
theorem cat2 (T nm : List UInt8) : (⟨T.toArray⟩ ++ ⟨#[59, 32]⟩ ++ ⟨nm.toArray⟩ : ByteArray) = ⟨(T ++ [59, 32] ++ nm).toArray⟩ := by
  have e1 : (⟨#[59, 32]⟩ : ByteArray) = ⟨([59, 32] : List UInt8).toArray⟩ := rfl
  rw [e1, str_cat, str_cat]
theorem cat3 (T nm it : List UInt8) : (⟨T.toArray⟩ ++ ⟨nm.toArray⟩ ++ ⟨#[32]⟩ ++ ⟨it.toArray⟩ : ByteArray) = ⟨(T ++ (nm ++ ([32] ++ it))).toArray⟩ := by
  have e2 : (⟨#[32]⟩ : ByteArray) = ⟨([32] : List UInt8).toArray⟩ := rfl
  rw [e2, str_cat, str_cat, str_cat]
  simp only [List.append_assoc]
theorem hasA_eq (x : Int) : (x == 1 || (x == 2 || (x == 4 || (x == 5 || (x == 15 || x == 16))))) = Co.hasA x := rfl
theorem str_catR (a : ByteArray) (b : List UInt8) : a ++ (⟨b.toArray⟩ : ByteArray) = ⟨(a.data.toList ++ b).toArray⟩ := by
  obtain ⟨⟨a⟩⟩ := a
  exact str_cat a b

end Go.Proofs.YtiocdmfmghanmaaGreatDoor
