import Derived.Test.YtiocdmfmghanmaaGreatDoorMk21
import Derived.Scope
import Derived.ScopeJumps
import Derived.Tactics
/-! forebayref04.Text. -/
namespace Go.Proofs.YtiocdmfmghanmaaGreatDoor
set_option linter.unusedSimpArgs false
set_option linter.unusedVariables false
open Go.RowKit Ga
set_option maxRecDepth 100000

theorem text_step {l : List Val} {k : Nat} (h : k < l.length) : Co.textI (l.take (k + 1)) = if k = 0 then Co.word l[k] else Co.textI (l.take k) ++ Co.sep ++ Co.word l[k] := by
  rw [List.take_succ_eq_append_getElem h, Co.textI_snoc]
  by_cases hk : k = 0
  · subst hk; simp
  · rw [if_neg hk, if_neg (by intro e; have h2 := congrArg List.length e; rw [List.length_take, List.length_nil] at h2; omega)]
theorem cat4 (T nm it : List UInt8) : (⟨T.toArray⟩ ++ ⟨#[59, 32]⟩ ++ ⟨nm.toArray⟩ ++ ⟨#[32]⟩ ++ ⟨it.toArray⟩ : ByteArray) = ⟨(T ++ [59, 32] ++ (nm ++ ([32] ++ it))).toArray⟩ := by
  have e1 : (⟨#[59, 32]⟩ : ByteArray) = ⟨([59, 32] : List UInt8).toArray⟩ := rfl
  have e2 : (⟨#[32]⟩ : ByteArray) = ⟨([32] : List UInt8).toArray⟩ := rfl
  rw [e1, e2, str_cat, str_cat, str_cat, str_cat]
  simp only [List.append_assoc]
theorem cat2 (T nm : List UInt8) : (⟨T.toArray⟩ ++ ⟨#[59, 32]⟩ ++ ⟨nm.toArray⟩ : ByteArray) = ⟨(T ++ [59, 32] ++ nm).toArray⟩ := by
  have e1 : (⟨#[59, 32]⟩ : ByteArray) = ⟨([59, 32] : List UInt8).toArray⟩ := rfl
  rw [e1, str_cat, str_cat]
theorem cat3 (T nm it : List UInt8) : (⟨T.toArray⟩ ++ ⟨nm.toArray⟩ ++ ⟨#[32]⟩ ++ ⟨it.toArray⟩ : ByteArray) = ⟨(T ++ (nm ++ ([32] ++ it))).toArray⟩ := by
  have e2 : (⟨#[32]⟩ : ByteArray) = ⟨([32] : List UInt8).toArray⟩ := rfl
  rw [e2, str_cat, str_cat, str_cat]
  simp only [List.append_assoc]
theorem hasA_eq (x : Int) : (x == 1 || (x == 2 || (x == 4 || (x == 5 || (x == 15 || x == 16))))) = Co.hasA x := rfl
theorem str_catR (a : ByteArray) (b : List UInt8) : a ++ (⟨b.toArray⟩ : ByteArray) = ⟨(a.data.toList ++ b).toArray⟩ := by
  obtain ⟨⟨a⟩⟩ := a
  exact str_cat a b

end Go.Proofs.YtiocdmfmghanmaaGreatDoor

/-! A scope with one label that is jumped back to, and one that is jumped ahead to. -/
namespace Go
set_option linter.unusedSimpArgs false
set_option linter.unusedVariables false

/-- As Q; by a goto to l1: J1; to l0: J0. -/
def Exit.jump2 (l1 l0 : Nat) (J1 J0 : Act → World → Prop) (Q : Exit → Act → World → Prop) : Exit → Act → World → Prop
  | .goto l', a, w => (l' = l1 ∧ J1 a w) ∨ (l' = l0 ∧ J0 a w)
  | e, a, w => Q e a w

section
variable {P : Program} {a : Act} {w : World} {Q : Exit → Act → World → Prop}
theorem wp_scope_jumps2 {c rest1 rest0 : Code} (l1 l0 : Nat) (J1 J0 : Act → World → Prop) (μ : Act → World → Nat) (hf1 : findLabel c l1 = some rest1) (hf0 : findLabel c l0 = some rest0)
    (first : c.wp P (Exit.jump2 l1 l0 J1 J0 Q) a w)
    (pass1 : ∀ a w, J1 a w → rest1.wp P (Exit.jump2 l1 l0 (fun a' w' => J1 a' w' ∧ μ a' w' < μ a w) J0 Q) a w)
    (pass0 : ∀ a w, J0 a w → rest0.wp P (Exit.noGoto Q) a w) : (Code.scope c).wp P Q a w := by
  intro b k cs
  have hg1 : gotoIn l1 (.inScope c :: k) = some (.code rest1 :: .inScope c :: k) := by simp [gotoIn, hf1]
  have hg0 : gotoIn l0 (.inScope c :: k) = some (.code rest0 :: .inScope c :: k) := by simp [gotoIn, hf0]
  have end0 : ∀ a w, J0 a w → ∃ e a' w', Q e a' w' ∧ Arrives P (lone (b.at a (.code rest0 :: .inScope c :: k)) cs w) b k cs e a' w' := by
    intro a w h0
    obtain ⟨e, a₁, w₁, hq, harr⟩ := pass0 a w h0 b (.inScope c :: k) cs
    cases e with
    | normal => exact ⟨.normal, a₁, w₁, hq, Steps.trans harr (.one step_inScope)⟩
    | exit id => exact ⟨.exit id, a₁, w₁, hq, fun k' hk => harr k' (by simp [exitTo, hk])⟩
    | goto l' => exact hq.elim
    | ret => exact ⟨_, a₁, w₁, hq, harr⟩
    | panic ch => exact ⟨_, a₁, w₁, hq, harr⟩
    | outgrown => exact ⟨_, a₁, w₁, hq, harr⟩
  have key : ∀ n a w, μ a w = n → J1 a w → ∃ e a' w', Q e a' w' ∧ Arrives P (lone (b.at a (.code rest1 :: .inScope c :: k)) cs w) b k cs e a' w' := by
    intro n
    induction n using Nat.strongRecOn with
    | _ n ih =>
      intro a w hn hJ
      obtain ⟨e, a₁, w₁, hq, harr⟩ := pass1 a w hJ b (.inScope c :: k) cs
      cases e with
      | normal => exact ⟨.normal, a₁, w₁, hq, Steps.trans harr (.one step_inScope)⟩
      | exit id => exact ⟨.exit id, a₁, w₁, hq, fun k' hk => harr k' (by simp [exitTo, hk])⟩
      | goto l' =>
        rcases hq with ⟨rfl, hJ', hlt⟩ | ⟨rfl, h0⟩
        · obtain ⟨e₂, a₂, w₂, hq₂, harr₂⟩ := ih _ (by omega) a₁ w₁ rfl hJ'
          exact ⟨e₂, a₂, w₂, hq₂, .of_steps (harr _ hg1) harr₂⟩
        · obtain ⟨e₂, a₂, w₂, hq₂, harr₂⟩ := end0 a₁ w₁ h0
          exact ⟨e₂, a₂, w₂, hq₂, .of_steps (harr _ hg0) harr₂⟩
      | ret => exact ⟨_, a₁, w₁, hq, harr⟩
      | panic ch => exact ⟨_, a₁, w₁, hq, harr⟩
      | outgrown => exact ⟨_, a₁, w₁, hq, harr⟩
  obtain ⟨e, a₁, w₁, hq, harr⟩ := first b (.inScope c :: k) cs
  cases e with
  | normal => exact ⟨.normal, a₁, w₁, hq, .head step_scope (Steps.trans harr (.one step_inScope))⟩
  | exit id => exact ⟨.exit id, a₁, w₁, hq, fun k' hk => .head step_scope (harr k' (by simp [exitTo, hk]))⟩
  | goto l' =>
    rcases hq with ⟨rfl, hJ'⟩ | ⟨rfl, h0⟩
    · obtain ⟨e₂, a₂, w₂, hq₂, harr₂⟩ := key _ a₁ w₁ rfl hJ'
      exact ⟨e₂, a₂, w₂, hq₂, .of_steps (.head step_scope (harr _ hg1)) harr₂⟩
    · obtain ⟨e₂, a₂, w₂, hq₂, harr₂⟩ := end0 a₁ w₁ h0
      exact ⟨e₂, a₂, w₂, hq₂, .of_steps (.head step_scope (harr _ hg0)) harr₂⟩
  | ret => exact ⟨_, a₁, w₁, hq, .of_steps (.one step_scope) harr⟩
  | panic ch => exact ⟨_, a₁, w₁, hq, .of_steps (.one step_scope) harr⟩
  | outgrown => exact ⟨_, a₁, w₁, hq, .of_steps (.one step_scope) harr⟩

theorem wp_skip_seq {x : Code} (h : x.wp P Q a w) : (Code.seq .skip x).wp P Q a w := wp_seq (wp_skip h)
/-- .. the first time through the body may be taken as any other. -/
theorem wp_scope_jumps2' {c rest1 rest0 : Code} (l1 l0 : Nat) (J1 J0 : Act → World → Prop) (μ : Act → World → Nat) (hf1 : findLabel c l1 = some (.seq .skip rest1)) (hf0 : findLabel c l0 = some (.seq .skip rest0))
    (pass0 : ∀ a w, J0 a w → rest0.wp P (Exit.noGoto Q) a w)
    (pass1 : (∀ J a w, J0 a w → rest0.wp P (Exit.jump2 l1 l0 J J0 Q) a w) → ∀ a w, J1 a w → rest1.wp P (Exit.jump2 l1 l0 (fun a' w' => J1 a' w' ∧ μ a' w' < μ a w) J0 Q) a w)
    (first : (∀ a w, J1 a w → rest1.wp P (Exit.jump2 l1 l0 J1 J0 Q) a w) → c.wp P (Exit.jump2 l1 l0 J1 J0 Q) a w) : (Code.scope c).wp P Q a w :=
by
  have h0 : ∀ J a w, J0 a w → rest0.wp P (Exit.jump2 l1 l0 J J0 Q) a w := fun J a w h => Code.wp_mono (fun e a' w' hq => by
    cases e with
    | goto l' => exact hq.elim
    | _ => exact hq) (pass0 a w h)
  exact wp_scope_jumps2 l1 l0 J1 J0 μ hf1 hf0 (first fun a w h => Code.wp_mono (fun e a' w' hq => by
    cases e with
    | goto l' =>
      rcases hq with ⟨h1, h2, _⟩ | h3
      · exact .inl ⟨h1, h2⟩
      · exact .inr h3
    | _ => exact hq) (pass1 h0 a w h)) (fun a w h => wp_skip_seq (pass1 h0 a w h)) (fun a w h => wp_skip_seq (pass0 a w h))
end
end Go
