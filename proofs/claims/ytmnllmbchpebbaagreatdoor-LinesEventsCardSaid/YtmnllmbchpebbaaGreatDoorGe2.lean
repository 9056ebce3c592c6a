import Derived.WalkKit
import Derived.Scope
import Derived.ScopeJumps
import Derived.Tactics
/-! Plain laws of values: pairs of whole numbers, taken into the range. No program in sight. -/
namespace Ga
set_option linter.unusedSimpArgs false
set_option linter.unusedVariables false

/-- into the range -/
def into (n : Int) : Int :=
  if n.tmod 1048576 < 0 then (if n.tmod 1048576 + 1048576 ≥ 524288 then n.tmod 1048576 else n.tmod 1048576 + 1048576)
  else if n.tmod 1048576 ≥ 524288 then n.tmod 1048576 - 1048576 else n.tmod 1048576

theorem tmod_lt (n : Int) : n.tmod 1048576 < 1048576 := Int.tmod_lt_of_pos _ (by decide)
theorem lt_tmod (n : Int) : -1048576 < n.tmod 1048576 := Int.lt_tmod_of_pos _ (by decide)

theorem into_range (n : Int) : -524288 ≤ into n ∧ into n < 524288 := by
  have h1 := tmod_lt n
  have h2 := lt_tmod n
  unfold into
  split <;> split <;> omega

theorem into_eq (n : Int) : into n = (n + 524288) % 1048576 - 524288 := by
  have h1 := tmod_lt n
  have h2 := lt_tmod n
  have h3 := Int.mul_tdiv_add_tmod n 1048576
  unfold into
  split <;> split <;> omega

theorem into_id {n : Int} (h : -524288 ≤ n ∧ n < 524288) : into n = n := by rw [into_eq]; omega
theorem into_into (n : Int) : into (into n) = into n := into_id (into_range n)
theorem into_mod (n : Int) : into n % 1048576 = n % 1048576 := by rw [into_eq]; omega
/-- the other text's way -/
theorem into_ref (n : Int) : (if (if n.tmod 1048576 < -524288 then n.tmod 1048576 + 1048576 else n.tmod 1048576) ≥ 524288 then (if n.tmod 1048576 < -524288 then n.tmod 1048576 + 1048576 else n.tmod 1048576) - 1048576 else (if n.tmod 1048576 < -524288 then n.tmod 1048576 + 1048576 else n.tmod 1048576)) = into n := by
  have h1 := tmod_lt n
  have h2 := lt_tmod n
  have h3 := Int.mul_tdiv_add_tmod n 1048576
  rw [into_eq]
  split <;> split <;> omega

abbrev Val := Int × Int
def ofV (a : Val) : Val := (into a.1, into a.2)
def rightV (a : Val) : Bool := decide (a.1 = into a.1) && decide (a.2 = into a.2)
def addV (a b : Val) : Val := (into (into a.1 + into b.1), into (into a.2 + into b.2))
def subV (a b : Val) : Val := (into (into a.1 - into b.1), into (into a.2 - into b.2))
def mulV (a b : Val) : Val := (into (into a.1 * into b.1 - into a.2 * into b.2), into (into a.1 * into b.2 + into a.2 * into b.1))
def conjV (a : Val) : Val := (into (into a.1), into (-into a.2))
def turnV (a : Val) : Val := (into (into a.1 * 0 - into a.2 * 1), into (into a.1 * 1 + into a.2 * 0))
def zeroV (a : Val) : Bool := decide (into a.1 = 0) && decide (into a.2 = 0)
def lessV (a b : Val) : Bool := decide (into a.1 < into b.1)
/-- equal modulo 2^20 in both parts -/
def Eqv (a b : Val) : Prop := a.1 % 1048576 = b.1 % 1048576 ∧ a.2 % 1048576 = b.2 % 1048576
theorem Eqv.of (a : Val) : Eqv (ofV a) a := ⟨into_mod _, into_mod _⟩

end Ga

/-! Numbers as four bytes: plain laws. -/
namespace Oc
set_option linter.unusedSimpArgs false
set_option linter.unusedVariables false

def fitsN (n : Int) : Bool := decide (-2147483648 ≤ n) && decide (n ≤ 2147483647)
/-- a number's bytes -/
def be (n : Int) : List UInt8 := [UInt8.ofNat (n % 4294967296 / 16777216).toNat, UInt8.ofNat (n % 4294967296 / 65536 % 256).toNat, UInt8.ofNat (n % 4294967296 / 256 % 256).toNat, UInt8.ofNat (n % 4294967296 % 256).toNat]
def bes (l : List Int) : List UInt8 := l.flatMap be
/-- the number with which bytes begin -/
def raw : List UInt8 → Int
  | a :: b :: c :: d :: _ => ((a.toNat * 256 + b.toNat) * 256 + c.toNat) * 256 + d.toNat
  | _ => 0
def num (l : List UInt8) : Int := if 2147483648 ≤ raw l then raw l - 4294967296 else raw l

theorem be_len (n : Int) : (be n).length = 4 := rfl
theorem bes_len : ∀ (l : List Int), (bes l).length = l.length * 4
  | [] => rfl
  | n :: l => by unfold bes; rw [List.flatMap_cons, List.length_append, be_len]; have := bes_len l; unfold bes at this; rw [this]; simp; omega
theorem raw_be (n : Int) (t : List UInt8) : raw (be n ++ t) = n % 4294967296 := by
  unfold be raw
  simp only [List.cons_append]
  have h0 : 0 ≤ n % 4294967296 := Int.emod_nonneg _ (by decide)
  have h1 : n % 4294967296 < 4294967296 := Int.emod_lt_of_pos _ (by decide)
  generalize n % 4294967296 = u at *
  simp only [UInt8.toNat_ofNat']
  omega
theorem num_be (n : Int) (h : fitsN n = true) (t : List UInt8) : num (be n ++ t) = n := by
  unfold fitsN at h
  simp only [Bool.and_eq_true, decide_eq_true_eq] at h
  unfold num
  rw [raw_be]
  split <;> omega
theorem raw4 (a b c d : UInt8) (t : List UInt8) : raw (a :: b :: c :: d :: t) = ((a.toNat * 256 + b.toNat) * 256 + c.toNat) * 256 + d.toNat := rfl
theorem raw_range : ∀ (l : List UInt8), 0 ≤ raw l ∧ raw l < 4294967296
  | a :: b :: c :: d :: _ => by
    have := a.toNat_lt; have := b.toNat_lt; have := c.toNat_lt; have := d.toNat_lt
    rw [raw4]; omega
  | [] => ⟨Int.le_refl _, (by decide : (0 : Int) < 4294967296)⟩
  | [_] => ⟨Int.le_refl _, (by decide : (0 : Int) < 4294967296)⟩
  | [_, _] => ⟨Int.le_refl _, (by decide : (0 : Int) < 4294967296)⟩
  | [_, _, _] => ⟨Int.le_refl _, (by decide : (0 : Int) < 4294967296)⟩
theorem num_range (l : List UInt8) : -2147483648 ≤ num l ∧ num l ≤ 2147483647 := by
  have := raw_range l
  unfold num
  split <;> omega
/-- four bytes are those of the number that they are -/
theorem be_num (a b c d : UInt8) (t : List UInt8) : be (num (a :: b :: c :: d :: t)) = [a, b, c, d] := by
  have ha := a.toNat_lt; have hb := b.toNat_lt; have hc := c.toNat_lt; have hd := d.toNat_lt
  have hu : num (a :: b :: c :: d :: t) % 4294967296 = ((a.toNat * 256 + b.toNat) * 256 + c.toNat) * 256 + d.toNat := by
    unfold num
    rw [raw4]
    split <;> omega
  unfold be
  rw [hu]
  have e : ∀ (x : UInt8) (z : Int), z = x.toNat → UInt8.ofNat z.toNat = x := by
    rintro x z rfl
    rw [Int.toNat_natCast]
    apply UInt8.toNat_inj.1
    rw [UInt8.toNat_ofNat']
    exact Nat.mod_eq_of_lt x.toNat_lt
  rw [e a _ (by omega), e b _ (by omega), e c _ (by omega), e d _ (by omega)]
/-- as the loop of four rounds reckons it -/
def part (l : List UInt8) (k : Nat) : Int := (l.take k).foldl (fun u c => u * 256 + (c.toNat : Int)) 0
theorem part_succ (l : List UInt8) (k : Nat) (x : UInt8) (h : l[k]? = some x) : part l (k + 1) = part l k * 256 + x.toNat := by
  have hk := (List.getElem?_eq_some_iff.1 h).1
  have hx : l[k] = x := (List.getElem?_eq_some_iff.1 h).2
  unfold part
  rw [List.take_succ_eq_append_getElem hk, List.foldl_append, hx]; rfl
theorem part_range (l : List UInt8) : ∀ (k : Nat), k ≤ 4 → 0 ≤ part l k ∧ part l k < 256 ^ k
  | 0, _ => by simp [part]
  | k + 1, h => by
    have ih := part_range l k (by omega)
    cases hx : l[k]? with
    | none =>
      have : part l (k + 1) = part l k := by
        unfold part
        have hl := List.getElem?_eq_none_iff.1 hx
        rw [List.take_of_length_le (by omega), List.take_of_length_le hl]
      rw [this]
      have : (256 : Int) ^ (k + 1) = 256 ^ k * 256 := Int.pow_succ ..
      omega
    | some x =>
      rw [part_succ l k x hx]
      have := x.toNat_lt
      have : (256 : Int) ^ (k + 1) = 256 ^ k * 256 := Int.pow_succ ..
      omega
theorem part_raw : ∀ (l : List UInt8), 4 ≤ l.length → part l 4 = raw l
  | a :: b :: c :: d :: t, _ => by simp [part, raw]
  | [], h => by simp at h
  | [_], h => by simp at h
  | [_, _], h => by simp at h
  | [_, _, _], h => by simp at h
theorem bes_append (l m : List Int) : bes (l ++ m) = bes l ++ bes m := by unfold bes; rw [List.flatMap_append]
theorem bes_succ (l : List Int) (k : Nat) (h : k < l.length) : bes (l.take (k + 1)) = bes (l.take k) ++ be l[k] := by
  rw [List.take_succ_eq_append_getElem h, bes_append]
  have : bes [l[k]] = be l[k] := by unfold bes; simp
  rw [this]
end Oc

/-! A scope with one label that is jumped back to, and one that is jumped ahead to. -/
namespace Go
set_option linter.unusedSimpArgs false
set_option linter.unusedVariables false

/-- As Q; by a goto to l1: J1; to l0: J0. -/
def Exit.jump2 (l1 l0 : Nat) (J1 J0 : Act → World → Prop) (Q : Exit → Act → World → Prop) : Exit → Act → World → Prop
  | .goto l', a, w => (l' = l1 ∧ J1 a w) ∨ (l' = l0 ∧ J0 a w)
  | e, a, w => Q e a w

section
variable {P : Program} {a : Act} {w : World} {Q : Exit → Act → World → Prop}
theorem wp_scope_jumps2 {c rest1 rest0 : Code} (l1 l0 : Nat) (J1 J0 : Act → World → Prop) (μ : Act → World → Nat) (hf1 : findLabel c l1 = some rest1) (hf0 : findLabel c l0 = some rest0)
    (first : c.wp P (Exit.jump2 l1 l0 J1 J0 Q) a w)
    (pass1 : ∀ a w, J1 a w → rest1.wp P (Exit.jump2 l1 l0 (fun a' w' => J1 a' w' ∧ μ a' w' < μ a w) J0 Q) a w)
    (pass0 : ∀ a w, J0 a w → rest0.wp P (Exit.noGoto Q) a w) : (Code.scope c).wp P Q a w := by
  intro b k cs
  have hg1 : gotoIn l1 (.inScope c :: k) = some (.code rest1 :: .inScope c :: k) := by simp [gotoIn, hf1]
  have hg0 : gotoIn l0 (.inScope c :: k) = some (.code rest0 :: .inScope c :: k) := by simp [gotoIn, hf0]
  have end0 : ∀ a w, J0 a w → ∃ e a' w', Q e a' w' ∧ Arrives P (lone (b.at a (.code rest0 :: .inScope c :: k)) cs w) b k cs e a' w' := by
    intro a w h0
    obtain ⟨e, a₁, w₁, hq, harr⟩ := pass0 a w h0 b (.inScope c :: k) cs
    cases e with
    | normal => exact ⟨.normal, a₁, w₁, hq, Steps.trans harr (.one step_inScope)⟩
    | exit id => exact ⟨.exit id, a₁, w₁, hq, fun k' hk => harr k' (by simp [exitTo, hk])⟩
    | goto l' => exact hq.elim
    | ret => exact ⟨_, a₁, w₁, hq, harr⟩
    | panic ch => exact ⟨_, a₁, w₁, hq, harr⟩
    | outgrown => exact ⟨_, a₁, w₁, hq, harr⟩
  have key : ∀ n a w, μ a w = n → J1 a w → ∃ e a' w', Q e a' w' ∧ Arrives P (lone (b.at a (.code rest1 :: .inScope c :: k)) cs w) b k cs e a' w' := by
    intro n
    induction n using Nat.strongRecOn with
    | _ n ih =>
      intro a w hn hJ
      obtain ⟨e, a₁, w₁, hq, harr⟩ := pass1 a w hJ b (.inScope c :: k) cs
      cases e with
      | normal => exact ⟨.normal, a₁, w₁, hq, Steps.trans harr (.one step_inScope)⟩
      | exit id => exact ⟨.exit id, a₁, w₁, hq, fun k' hk => harr k' (by simp [exitTo, hk])⟩
      | goto l' =>
        rcases hq with ⟨rfl, hJ', hlt⟩ | ⟨rfl, h0⟩
        · obtain ⟨e₂, a₂, w₂, hq₂, harr₂⟩ := ih _ (by omega) a₁ w₁ rfl hJ'
          exact ⟨e₂, a₂, w₂, hq₂, .of_steps (harr _ hg1) harr₂⟩
        · obtain ⟨e₂, a₂, w₂, hq₂, harr₂⟩ := end0 a₁ w₁ h0
          exact ⟨e₂, a₂, w₂, hq₂, .of_steps (harr _ hg0) harr₂⟩
      | ret => exact ⟨_, a₁, w₁, hq, harr⟩
      | panic ch => exact ⟨_, a₁, w₁, hq, harr⟩
      | outgrown => exact ⟨_, a₁, w₁, hq, harr⟩
  obtain ⟨e, a₁, w₁, hq, harr⟩ := first b (.inScope c :: k) cs
  cases e with
  | normal => exact ⟨.normal, a₁, w₁, hq, .head step_scope (Steps.trans harr (.one step_inScope))⟩
  | exit id => exact ⟨.exit id, a₁, w₁, hq, fun k' hk => .head step_scope (harr k' (by simp [exitTo, hk]))⟩
  | goto l' =>
    rcases hq with ⟨rfl, hJ'⟩ | ⟨rfl, h0⟩
    · obtain ⟨e₂, a₂, w₂, hq₂, harr₂⟩ := key _ a₁ w₁ rfl hJ'
      exact ⟨e₂, a₂, w₂, hq₂, .of_steps (.head step_scope (harr _ hg1)) harr₂⟩
    · obtain ⟨e₂, a₂, w₂, hq₂, harr₂⟩ := end0 a₁ w₁ h0
      exact ⟨e₂, a₂, w₂, hq₂, .of_steps (.head step_scope (harr _ hg0)) harr₂⟩
  | ret => exact ⟨_, a₁, w₁, hq, .of_steps (.one step_scope) harr⟩
  | panic ch => exact ⟨_, a₁, w₁, hq, .of_steps (.one step_scope) harr⟩
  | outgrown => exact ⟨_, a₁, w₁, hq, .of_steps (.one step_scope) harr⟩

theorem wp_skip_seq {x : Code} (h : x.wp P Q a w) : (Code.seq .skip x).wp P Q a w := wp_seq (wp_skip h)
/-- .. the first time through the body may be taken as any other. -/
theorem wp_scope_jumps2' {c rest1 rest0 : Code} (l1 l0 : Nat) (J1 J0 : Act → World → Prop) (μ : Act → World → Nat) (hf1 : findLabel c l1 = some (.seq .skip rest1)) (hf0 : findLabel c l0 = some (.seq .skip rest0))
    (pass0 : ∀ a w, J0 a w → rest0.wp P (Exit.noGoto Q) a w)
    (pass1 : (∀ J a w, J0 a w → rest0.wp P (Exit.jump2 l1 l0 J J0 Q) a w) → ∀ a w, J1 a w → rest1.wp P (Exit.jump2 l1 l0 (fun a' w' => J1 a' w' ∧ μ a' w' < μ a w) J0 Q) a w)
    (first : (∀ a w, J1 a w → rest1.wp P (Exit.jump2 l1 l0 J1 J0 Q) a w) → c.wp P (Exit.jump2 l1 l0 J1 J0 Q) a w) : (Code.scope c).wp P Q a w :=
by
  have h0 : ∀ J a w, J0 a w → rest0.wp P (Exit.jump2 l1 l0 J J0 Q) a w := fun J a w h => Code.wp_mono (fun e a' w' hq => by
    cases e with
    | goto l' => exact hq.elim
    | _ => exact hq) (pass0 a w h)
  exact wp_scope_jumps2 l1 l0 J1 J0 μ hf1 hf0 (first fun a w h => Code.wp_mono (fun e a' w' hq => by
    cases e with
    | goto l' =>
      rcases hq with ⟨h1, h2, _⟩ | h3
      · exact .inl ⟨h1, h2⟩
      · exact .inr h3
    | _ => exact hq) (pass1 h0 a w h)) (fun a w h => wp_skip_seq (pass1 h0 a w h)) (fun a w h => wp_skip_seq (pass0 a w h))
end
end Go
