import Derived.Scope
import Derived.ScopeJumps
import Derived.Tactics
/-! A scope with any number of labels: what holds at each, and a number that each jump lowers. -/
namespace Go
set_option linter.unusedSimpArgs false
set_option linter.unusedVariables false

/-- As Q; by a goto: K. -/
def Exit.jumpTo (K : Nat → Act → World → Prop) (Q : Exit → Act → World → Prop) : Exit → Act → World → Prop
  | .goto l, a, w => K l a w
  | e, a, w => Q e a w

section
variable {P : Program} {a : Act} {w : World} {Q : Exit → Act → World → Prop}
theorem wp_scope_labels {c : Code} (J : Nat → Nat → Act → World → Prop) (rest : Nat → Code) (hf : ∀ l n a w, J l n a w → findLabel c l = some (rest l))
    (first : c.wp P (Exit.jumpTo (fun l a w => ∃ n, J l n a w) Q) a w)
    (pass : ∀ l n a w, J l n a w → (rest l).wp P (Exit.jumpTo (fun l' a' w' => ∃ n', n' < n ∧ J l' n' a' w') Q) a w) : (Code.scope c).wp P Q a w := by
  intro b k cs
  have hg : ∀ l n a w, J l n a w → gotoIn l (.inScope c :: k) = some (.code (rest l) :: .inScope c :: k) := by
    intro l n a w h; simp [gotoIn, hf l n a w h]
  have key : ∀ n l a w, J l n a w → ∃ e a' w', Q e a' w' ∧ Arrives P (lone (b.at a (.code (rest l) :: .inScope c :: k)) cs w) b k cs e a' w' := by
    intro n
    induction n using Nat.strongRecOn with
    | _ n ih =>
      intro l a w hJ
      obtain ⟨e, a₁, w₁, hq, harr⟩ := pass l n a w hJ b (.inScope c :: k) cs
      cases e with
      | normal => exact ⟨.normal, a₁, w₁, hq, Steps.trans harr (.one step_inScope)⟩
      | exit id => exact ⟨.exit id, a₁, w₁, hq, fun k' hk => harr k' (by simp [exitTo, hk])⟩
      | goto l' =>
        obtain ⟨n', hlt, hJ'⟩ := hq
        obtain ⟨e₂, a₂, w₂, hq₂, harr₂⟩ := ih n' hlt l' a₁ w₁ hJ'
        exact ⟨e₂, a₂, w₂, hq₂, .of_steps (harr _ (hg l' n' a₁ w₁ hJ')) harr₂⟩
      | ret => exact ⟨_, a₁, w₁, hq, harr⟩
      | panic ch => exact ⟨_, a₁, w₁, hq, harr⟩
      | outgrown => exact ⟨_, a₁, w₁, hq, harr⟩
  obtain ⟨e, a₁, w₁, hq, harr⟩ := first b (.inScope c :: k) cs
  cases e with
  | normal => exact ⟨.normal, a₁, w₁, hq, .head step_scope (Steps.trans harr (.one step_inScope))⟩
  | exit id => exact ⟨.exit id, a₁, w₁, hq, fun k' hk => .head step_scope (harr k' (by simp [exitTo, hk]))⟩
  | goto l' =>
    obtain ⟨n', hJ'⟩ := hq
    obtain ⟨e₂, a₂, w₂, hq₂, harr₂⟩ := key n' l' a₁ w₁ hJ'
    exact ⟨e₂, a₂, w₂, hq₂, .of_steps (.head step_scope (harr _ (hg l' n' a₁ w₁ hJ'))) harr₂⟩
  | ret => exact ⟨_, a₁, w₁, hq, .of_steps (.one step_scope) harr⟩
  | panic ch => exact ⟨_, a₁, w₁, hq, .of_steps (.one step_scope) harr⟩
  | outgrown => exact ⟨_, a₁, w₁, hq, .of_steps (.one step_scope) harr⟩
/-- .. with three labels; the first time through the body may be taken as any other. -/
theorem wp_scope_labels3 {c r1 r2 r0 : Code} (l1 l2 l0 : Nat) (J : Nat → Nat → Act → World → Prop) (hf1 : findLabel c l1 = some (.seq .skip r1)) (hf2 : findLabel c l2 = some (.seq .skip r2)) (hf0 : findLabel c l0 = some r0) (hl : ∀ l n a w, J l n a w → l = l1 ∨ l = l2 ∨ l = l0)
    (pass1 : ∀ n a w, J l1 n a w → r1.wp P (Exit.jumpTo (fun l' a' w' => ∃ n', n' < n ∧ J l' n' a' w') Q) a w)
    (pass2 : ∀ n a w, J l2 n a w → r2.wp P (Exit.jumpTo (fun l' a' w' => ∃ n', n' < n ∧ J l' n' a' w') Q) a w)
    (pass0 : ∀ n a w, J l0 n a w → r0.wp P (Exit.jumpTo (fun l' a' w' => ∃ n', n' < n ∧ J l' n' a' w') Q) a w)
    (first : (∀ n a w, J l1 n a w → r1.wp P (Exit.jumpTo (fun l' a' w' => ∃ n', J l' n' a' w') Q) a w) → c.wp P (Exit.jumpTo (fun l a w => ∃ n, J l n a w) Q) a w) : (Code.scope c).wp P Q a w := by
  refine wp_scope_labels J (fun l => (findLabel c l).getD .skip) ?_ (first ?_) ?_
  · intro l n a w hJ
    rcases hl l n a w hJ with rfl | rfl | rfl
    · simp [hf1]
    · simp [hf2]
    · simp [hf0]
  · intro n a w hJ
    refine Code.wp_mono (fun e a' w' hq => ?_) (pass1 n a w hJ)
    cases e with
    | goto l' => obtain ⟨n', _, h⟩ := hq; exact ⟨n', h⟩
    | _ => exact hq
  · intro l n a w hJ
    rcases hl l n a w hJ with rfl | rfl | rfl
    · simp only [hf1, Option.getD_some]; exact wp_seq (wp_skip (pass1 n a w hJ))
    · simp only [hf2, Option.getD_some]; exact wp_seq (wp_skip (pass2 n a w hJ))
    · simp only [hf0, Option.getD_some]; exact pass0 n a w hJ
end
end Go
