import Derived.Test.YtmdmbimfdpngaaaGreatDoorMp16
import Derived.Scope
import Derived.ScopeJumps
import Derived.Tactics
import Derived.Test.YtmdmbimfdpngaaaGreatDoorShelf
import Derived.Test.YtmdmbimfdpngaaaGreatDoorRegion
import Derived.Test.YtmdmbimfdpngaaaGreatDoorMp4
import Derived.Laws.RangeString
import Derived.Lib.TrimU
import Derived.Lib.TrimAscii
import Derived.Lib.AsciiSet
import Derived.Lib.Hide
import Derived.Deep.WholeRow
import Derived.Test.YtmdmbimfdpngaaaGreatDoorMp9
import Derived.Test.YtmdmbimfdpngaaaGreatDoorMp5
import Derived.Lib.AtoiTie
import Derived.Lib.PathFns
/-! code.Text. -/
namespace Go.Proofs.YtmdmbimfdpngaaaGreatDoor
set_option linter.unusedSimpArgs false
set_option linter.unusedVariables false
open Go.RowKit Ga
set_option maxRecDepth 100000

theorem str_cat3 (a b c : List UInt8) : (⟨a.toArray⟩ ++ (⟨b.toArray⟩ ++ ⟨c.toArray⟩) : ByteArray) = ⟨(a ++ (b ++ c)).toArray⟩ := by rw [str_cat, str_cat]
theorem words_succ {l : List Val} {k : Nat} (h : k < l.length) : (l.take (k + 1)).map Co.word = (l.take k).map Co.word ++ [Co.word l[k]] := by
  rw [List.take_succ_eq_append_getElem h, List.map_append]; rfl
theorem word_has {x y : Int} (h : Co.hasA x = true) : Co.word (x, y) = Co.nameOf x ++ ([32] ++ Lib.itoa y) := by
  unfold Co.word; simp only; rw [if_pos h]; rfl
theorem word_not {x y : Int} (h : Co.hasA x = false) : Co.word (x, y) = Co.nameOf x := by
  unfold Co.word; simp only; rw [h]; simp

set_option maxHeartbeats 4000000 in
theorem codeText_any (v : Value) (l : List Val) (w : World) (hv : ValsAt w v l) (hp : Pow w) (ha : Asc w) : Calls Tryz.prog 77 #[v] w (Gives (str (Co.textOut l)) w) := by
  obtain ⟨a, cap, rfl, hm, hl⟩ := hv.open2
  have HV := Lib.hid hv
  have HP := Lib.hid hp
  have HA := Lib.hid ha
  clear hv hp ha
  cases hf : Co.fitsI l
  · have ht : Co.textOut l = [] := by unfold Co.textOut; rw [hf]; rfl
    rw [ht]
    clear hl ht
    have HF := Lib.hid hf
    clear hf
    go_enter Tryz.func77, Tryz.ntmps77
    go_wp2_with (go_at_call 121; refine (codeFits_any _ l _ HV.out).mono ?_; rintro e w1 ⟨rfl, R3, n3, rfl⟩; rw [HF.out])
    go_ret
    refine ⟨rfl, ?_⟩
    repeat (first | with_reducible exact Grew.refl _ | apply Grew.more | apply Grew.alloc | apply Grew.drew | apply Grew.drewN)
  · have ht : Co.textOut l = Lib.join (l.map Co.word) [59, 32] := by unfold Co.textOut; rw [hf]; rfl
    obtain ⟨h24, hr⟩ := Co.fits_parts hf
    have htl := Co.textI_len l hr
    have HT := Lib.hid ht
    have HR := Lib.hid hr
    have HF := Lib.hid hf
    have HL := Lib.hid htl
    clear hf ht hr htl
    go_enter Tryz.func77, Tryz.ntmps77
    go_wp2_with (go_at_call 121; refine (codeFits_any _ l _ HV.out).mono ?_; rintro e w1 ⟨rfl, R3, n3, rfl⟩; rw [HF.out])
    go_loopw [3, 15] (fun v3 i wr => ∃ (k : Nat), k ≤ l.length ∧ i = .int .i64 k ∧ OwnAt w.heap.size 9 1 encS wr v3 ((l.take k).map Co.word) ∧ Grew w wr) (fun _ i _ => l.length - (intOf i).toNat)
    case atStart => exact ⟨0, Nat.zero_le _, rfl, OwnAt.nil _, by repeat (first | with_reducible exact Grew.refl _ | apply Grew.more | apply Grew.alloc | apply Grew.drew | apply Grew.drewN)⟩
    case round =>
      obtain ⟨k, hk, rfl, hown, R, n, rfl⟩ := hrel
      by_cases hlt : k < l.length
      · obtain ⟨b, off, rfl, hb, hx, hy⟩ := hl k hlt
        have hws := words_succ hlt
        have hri := HR.out l[k] (List.getElem_mem hlt)
        generalize l[k] = xy at *
        obtain ⟨x, y⟩ := xy
        obtain ⟨x0, x1, _, _⟩ := Co.right_parts hri
        have hya := Co.right_arg hri
        simp only at hx hy x0 x1 hya
        have HO := Lib.hid hown
        have HW := Lib.hid hws
        clear hl hws hown hri
        obtain ⟨m, rfl⟩ : ∃ m : Nat, x = m := ⟨x.toNat, by omega⟩
        have hm18 : m < 18 := by omega
        have hn5 : (Co.namesL.getD m []).length ≤ 5 := by
          have key : ∀ n < 18, (Co.namesL.getD n []).length ≤ 5 := by decide
          exact key m hm18
        have hi7 := Tx.itoa_len6 y (by omega)
        have hnm : Co.nameOf (m : Int) = Co.namesL.getD m [] := by unfold Co.nameOf; rw [Int.toNat_natCast]
        generalize hN : Co.namesL.getD m [] = nm at hn5 hnm
        have HN := Lib.hid hN
        have HM := Lib.hid hnm
        clear hN hnm
        cases hh : Co.hasA (m : Int)
        all_goals
          have HH := Lib.hid hh
          clear hh
          go_wp2_with fail
          refine wp_region_seq 6 Tryz.mixed (by kernel_rfl) (by kernel_rfl) ?_
          apply Seq.of NamesAt NamesAt.st
          focus
            rintro w1 u ⟨R1, n1, rfl⟩ hF
            simp [moreFacts, Fact.more, Oper.deps, Region.binds, List.filter_cons, World.more_drew] at hF
            simp [putFacts, Oper.deps, Region.binds, List.filter_cons, Region.dstOf, Fact.at, Act.put, World.more_drew]
            go_wp2_with (first
              | (go_at_call 76; refine (names_any _ (HA.out.grew (by repeat (first | with_reducible exact Grew.refl _ | apply Grew.more | apply Grew.alloc | apply Grew.drew | apply Grew.drewN)))).mono ?_; rintro e w1 ⟨v2, rfl, hv2, R2, n2, rfl⟩)
              )
            exact ⟨by repeat (first | with_reducible exact Grew.refl _ | apply Grew.more | apply Grew.alloc | apply Grew.drew | apply Grew.drewN), rfl, _, _, rfl, rfl, hv2⟩
          iterate 2
            apply Seq.val
            focus
              rintro w1 u ⟨R1, n1, rfl⟩ hF
              simp [moreFacts, Fact.more, Oper.deps, Region.binds, List.filter_cons, World.more_drew] at hF
              simp [putFacts, Oper.deps, Region.binds, List.filter_cons, Region.dstOf, Fact.at, Act.put, World.more_drew]
              go_wp2
              exact ⟨by repeat (first | with_reducible exact Grew.refl _ | apply Grew.more | apply Grew.alloc | apply Grew.drew | apply Grew.drewN), rfl, _, _, rfl, rfl, rfl⟩
          apply Seq.of (PtsTo (.string ⟨nm.toArray⟩)) (PtsTo.st _)
          focus
            rintro w1 u ⟨R1, n1, rfl⟩ hF
            simp [moreFacts, Fact.more, Oper.deps, Region.binds, List.filter_cons, World.more_drew] at hF
            simp [putFacts, Oper.deps, Region.binds, List.filter_cons, Region.dstOf, Fact.at, Act.put, World.more_drew]
            obtain ⟨b7, hb7, hc7⟩ := hF; (have hc8 := hc7 m hm18); clear hc7; rw [HN.out] at hc8; rw [hb7]
            go_wp2
            exact ⟨by repeat (first | with_reducible exact Grew.refl _ | apply Grew.more | apply Grew.alloc | apply Grew.drew | apply Grew.drewN), rfl, _, _, rfl, rfl, ⟨b7, m, rfl, hc8⟩⟩
          apply Seq.val
          focus
            rintro w1 u ⟨R1, n1, rfl⟩ hF
            simp [moreFacts, Fact.more, Oper.deps, Region.binds, List.filter_cons, World.more_drew] at hF
            simp [putFacts, Oper.deps, Region.binds, List.filter_cons, Region.dstOf, Fact.at, Act.put, World.more_drew]
            obtain ⟨b7, o7, hb7, hc7⟩ := hF; rw [hb7]
            go_wp2
            exact ⟨by repeat (first | with_reducible exact Grew.refl _ | apply Grew.more | apply Grew.alloc | apply Grew.drew | apply Grew.drewN), rfl, _, _, rfl, rfl, rfl⟩
          apply Seq.val
          focus
            rintro w1 u ⟨R1, n1, rfl⟩ hF
            simp [moreFacts, Fact.more, Oper.deps, Region.binds, List.filter_cons, World.more_drew] at hF
            simp [putFacts, Oper.deps, Region.binds, List.filter_cons, Region.dstOf, Fact.at, Act.put, World.more_drew]
            go_wp2
            exact ⟨by repeat (first | with_reducible exact Grew.refl _ | apply Grew.more | apply Grew.alloc | apply Grew.drew | apply Grew.drewN), rfl, _, _, rfl, rfl, rfl⟩
          rintro u w1 ⟨R1, n1, rfl⟩ hF
          clear hF
          simp [putFacts, Region.dstOf, Fact.at, Act.put, List.range_succ, World.more_drew]
          go_wp2_with (first
            | (go_at_call 122; refine (bounds_any _ _).mono ?_; rintro e w1 ⟨rfl, rfl⟩; rw [HH.out])
            | (go_at_call 35; refine (itoa_any _ (by omega) _ (HP.out.grew (by repeat (first | with_reducible exact Grew.refl _ | apply Grew.more | apply Grew.alloc | apply Grew.drew | apply Grew.drewN)))).mono ?_; rintro e w1 ⟨rfl, R4, n4, rfl⟩)
            | (at_builtin; refine wpList_own1 rfl (.tmp 38) (.tmp 40) 42 _ _ _ _ (Co.word ((m : Int), y)) rfl Tryz.underlying42 infoStr rfl (by decide) encS_len encS_one rfl (HO.out.grew (by repeat (first | with_reducible exact Grew.refl _ | apply Grew.more | apply Grew.alloc | apply Grew.drew | apply Grew.drewN))) (by repeat (first | with_reducible exact Grew.refl _ | apply Grew.more | apply Grew.alloc | apply Grew.drew | apply Grew.drewN)) rfl (encS_at _ _ _ _ _ (by first | (rw [word_not HH.out, HM.out]; done) | (rw [word_has HH.out, HM.out]; exact str_cat3 _ _ _)) (by simp [go_sem])) (by simp; omega) (by decide) ?_; intro v9 R9 n9 hown9)
            )
          go_roundw
          case rel => exact ⟨k + 1, by omega, by go_num, by rw [HW.out]; exact hown9, by repeat (first | with_reducible exact Grew.refl _ | apply Grew.more | apply Grew.alloc | apply Grew.drew | apply Grew.drewN)⟩
          case measure => first | (simp [intOf]; done) | (simp [intOf]; omega)
      · obtain rfl : k = l.length := by omega
        rw [List.take_length] at hown
        have HO := Lib.hid hown
        clear hown hl
        go_wp2_with (go_at_call 63; refine (join_any _ (l.map Co.word) [59, 32] _ _ (HO.out.grew (by repeat (first | with_reducible exact Grew.refl _ | apply Grew.more | apply Grew.alloc | apply Grew.drew | apply Grew.drewN))) (by simp; omega) (by have h := HL.out; unfold Co.textI Co.sep at h; omega)).mono ?_; rintro e w1 ⟨rfl, R3, n3, rfl⟩)
        go_ret
        refine ⟨?_, ?_⟩
        · rw [HT.out]; rfl
        · repeat (first | with_reducible exact Grew.refl _ | apply Grew.more | apply Grew.alloc | apply Grew.drew | apply Grew.drewN)

end Go.Proofs.YtmdmbimfdpngaaaGreatDoor

/-! forebayref04.Text. -/
namespace Go.Proofs.YtmdmbimfdpngaaaGreatDoor
set_option linter.unusedSimpArgs false
set_option linter.unusedVariables false
open Go.RowKit Ga
set_option maxRecDepth 100000

end Go.Proofs.YtmdmbimfdpngaaaGreatDoor

/-! A scope with one label that is jumped back to, and one that is jumped ahead to. -/
namespace Go
set_option linter.unusedSimpArgs false
set_option linter.unusedVariables false

/-- As Q; by a goto to l1: J1; to l0: J0. -/
def Exit.jump2 (l1 l0 : Nat) (J1 J0 : Act → World → Prop) (Q : Exit → Act → World → Prop) : Exit → Act → World → Prop
  | .goto l', a, w => (l' = l1 ∧ J1 a w) ∨ (l' = l0 ∧ J0 a w)
  | e, a, w => Q e a w

section
variable {P : Program} {a : Act} {w : World} {Q : Exit → Act → World → Prop}
theorem wp_scope_jumps2 {c rest1 rest0 : Code} (l1 l0 : Nat) (J1 J0 : Act → World → Prop) (μ : Act → World → Nat) (hf1 : findLabel c l1 = some rest1) (hf0 : findLabel c l0 = some rest0)
    (first : c.wp P (Exit.jump2 l1 l0 J1 J0 Q) a w)
    (pass1 : ∀ a w, J1 a w → rest1.wp P (Exit.jump2 l1 l0 (fun a' w' => J1 a' w' ∧ μ a' w' < μ a w) J0 Q) a w)
    (pass0 : ∀ a w, J0 a w → rest0.wp P (Exit.noGoto Q) a w) : (Code.scope c).wp P Q a w := by
  intro b k cs
  have hg1 : gotoIn l1 (.inScope c :: k) = some (.code rest1 :: .inScope c :: k) := by simp [gotoIn, hf1]
  have hg0 : gotoIn l0 (.inScope c :: k) = some (.code rest0 :: .inScope c :: k) := by simp [gotoIn, hf0]
  have end0 : ∀ a w, J0 a w → ∃ e a' w', Q e a' w' ∧ Arrives P (lone (b.at a (.code rest0 :: .inScope c :: k)) cs w) b k cs e a' w' := by
    intro a w h0
    obtain ⟨e, a₁, w₁, hq, harr⟩ := pass0 a w h0 b (.inScope c :: k) cs
    cases e with
    | normal => exact ⟨.normal, a₁, w₁, hq, Steps.trans harr (.one step_inScope)⟩
    | exit id => exact ⟨.exit id, a₁, w₁, hq, fun k' hk => harr k' (by simp [exitTo, hk])⟩
    | goto l' => exact hq.elim
    | ret => exact ⟨_, a₁, w₁, hq, harr⟩
    | panic ch => exact ⟨_, a₁, w₁, hq, harr⟩
    | outgrown => exact ⟨_, a₁, w₁, hq, harr⟩
  have key : ∀ n a w, μ a w = n → J1 a w → ∃ e a' w', Q e a' w' ∧ Arrives P (lone (b.at a (.code rest1 :: .inScope c :: k)) cs w) b k cs e a' w' := by
    intro n
    induction n using Nat.strongRecOn with
    | _ n ih =>
      intro a w hn hJ
      obtain ⟨e, a₁, w₁, hq, harr⟩ := pass1 a w hJ b (.inScope c :: k) cs
      cases e with
      | normal => exact ⟨.normal, a₁, w₁, hq, Steps.trans harr (.one step_inScope)⟩
      | exit id => exact ⟨.exit id, a₁, w₁, hq, fun k' hk => harr k' (by simp [exitTo, hk])⟩
      | goto l' =>
        rcases hq with ⟨rfl, hJ', hlt⟩ | ⟨rfl, h0⟩
        · obtain ⟨e₂, a₂, w₂, hq₂, harr₂⟩ := ih _ (by omega) a₁ w₁ rfl hJ'
          exact ⟨e₂, a₂, w₂, hq₂, .of_steps (harr _ hg1) harr₂⟩
        · obtain ⟨e₂, a₂, w₂, hq₂, harr₂⟩ := end0 a₁ w₁ h0
          exact ⟨e₂, a₂, w₂, hq₂, .of_steps (harr _ hg0) harr₂⟩
      | ret => exact ⟨_, a₁, w₁, hq, harr⟩
      | panic ch => exact ⟨_, a₁, w₁, hq, harr⟩
      | outgrown => exact ⟨_, a₁, w₁, hq, harr⟩
  obtain ⟨e, a₁, w₁, hq, harr⟩ := first b (.inScope c :: k) cs
  cases e with
  | normal => exact ⟨.normal, a₁, w₁, hq, .head step_scope (Steps.trans harr (.one step_inScope))⟩
  | exit id => exact ⟨.exit id, a₁, w₁, hq, fun k' hk => .head step_scope (harr k' (by simp [exitTo, hk]))⟩
  | goto l' =>
    rcases hq with ⟨rfl, hJ'⟩ | ⟨rfl, h0⟩
    · obtain ⟨e₂, a₂, w₂, hq₂, harr₂⟩ := key _ a₁ w₁ rfl hJ'
      exact ⟨e₂, a₂, w₂, hq₂, .of_steps (.head step_scope (harr _ hg1)) harr₂⟩
    · obtain ⟨e₂, a₂, w₂, hq₂, harr₂⟩ := end0 a₁ w₁ h0
      exact ⟨e₂, a₂, w₂, hq₂, .of_steps (.head step_scope (harr _ hg0)) harr₂⟩
  | ret => exact ⟨_, a₁, w₁, hq, .of_steps (.one step_scope) harr⟩
  | panic ch => exact ⟨_, a₁, w₁, hq, .of_steps (.one step_scope) harr⟩
  | outgrown => exact ⟨_, a₁, w₁, hq, .of_steps (.one step_scope) harr⟩

theorem wp_skip_seq {x : Code} (h : x.wp P Q a w) : (Code.seq .skip x).wp P Q a w := wp_seq (wp_skip h)
/-- .. the first time through the body may be taken as any other. -/
theorem wp_scope_jumps2' {c rest1 rest0 : Code} (l1 l0 : Nat) (J1 J0 : Act → World → Prop) (μ : Act → World → Nat) (hf1 : findLabel c l1 = some (.seq .skip rest1)) (hf0 : findLabel c l0 = some (.seq .skip rest0))
    (pass0 : ∀ a w, J0 a w → rest0.wp P (Exit.noGoto Q) a w)
    (pass1 : (∀ J a w, J0 a w → rest0.wp P (Exit.jump2 l1 l0 J J0 Q) a w) → ∀ a w, J1 a w → rest1.wp P (Exit.jump2 l1 l0 (fun a' w' => J1 a' w' ∧ μ a' w' < μ a w) J0 Q) a w)
    (first : (∀ a w, J1 a w → rest1.wp P (Exit.jump2 l1 l0 J1 J0 Q) a w) → c.wp P (Exit.jump2 l1 l0 J1 J0 Q) a w) : (Code.scope c).wp P Q a w :=
by
  have h0 : ∀ J a w, J0 a w → rest0.wp P (Exit.jump2 l1 l0 J J0 Q) a w := fun J a w h => Code.wp_mono (fun e a' w' hq => by
    cases e with
    | goto l' => exact hq.elim
    | _ => exact hq) (pass0 a w h)
  exact wp_scope_jumps2 l1 l0 J1 J0 μ hf1 hf0 (first fun a w h => Code.wp_mono (fun e a' w' hq => by
    cases e with
    | goto l' =>
      rcases hq with ⟨h1, h2, _⟩ | h3
      · exact .inl ⟨h1, h2⟩
      · exact .inr h3
    | _ => exact hq) (pass1 h0 a w h)) (fun a w h => wp_skip_seq (pass1 h0 a w h)) (fun a w h => wp_skip_seq (pass0 a w h))
end
end Go

/-! strings.IndexRune of a rune beyond ASCII in "+-": -1. -/
namespace Go.Proofs.YtmdmbimfdpngaaaGreatDoor
open Go.RowKit
set_option linter.unusedSimpArgs false
set_option linter.unusedVariables false
set_option maxRecDepth 100000

end Go.Proofs.YtmdmbimfdpngaaaGreatDoor

/-! strings.LastIndexAny(s, "+-"): of ASCII letters the last one of the two; of any it lies within. -/
namespace Go.Proofs.YtmdmbimfdpngaaaGreatDoor
open Go.RowKit
set_option linter.unusedSimpArgs false
set_option linter.unusedVariables false
set_option maxRecDepth 100000

/-- One of the two signs. -/
def pm (b : UInt8) : Bool := ([43, 45] : List UInt8).contains b
/-- What is known of the place. -/
def PmAt (l : List UInt8) (k : Int) : Prop :=
  -1 ≤ k ∧ k < l.length ∧ ((∀ b ∈ l, b.toNat < 128) → (∀ (j : Nat) (b : UInt8), k < j → l[j]? = some b → pm b = false) ∧ (∀ b, 0 ≤ k → l[k.toNat]? = some b → pm b = true))

/-- None behind it. -/
def NoPm (l : List UInt8) (n : Int) : Prop := ∀ (j : Nat) (b : UInt8), n < j → l[j]? = some b → pm b = false
theorem NoPm.step {l : List UInt8} {k : Nat} {x : UInt8} (h : NoPm l k) (hx : l[k]? = some x) (hp : pm x = false) : NoPm l ((k : Int) - 1) := by
  intro j b hj hb
  by_cases e : j = k
  · subst e; rw [hx] at hb; cases hb; exact hp
  · exact h j b (by omega) hb
theorem PmAt.hit {l : List UInt8} {k : Nat} {x : UInt8} (h : NoPm l k) (hx : l[k]? = some x) (hp : pm x = true) : PmAt l (k : Int) := by
  have hk : k < l.length := (List.getElem?_eq_some_iff.1 hx).1
  refine ⟨by omega, by omega, fun _ => ⟨h, fun b _ hb => ?_⟩⟩
  rw [Int.toNat_natCast, hx] at hb
  cases hb
  exact hp
theorem PmAt.gone {l : List UInt8} (h : NoPm l (-1)) : PmAt l (-1) := ⟨by omega, by omega, fun _ => ⟨h, fun b h0 _ => by omega⟩⟩

end Go.Proofs.YtmdmbimfdpngaaaGreatDoor

/-! gauss.Parse. -/
namespace Go.Proofs.YtmdmbimfdpngaaaGreatDoor
open Go.RowKit Ga
set_option linter.unusedSimpArgs false
set_option linter.unusedVariables false
set_option maxRecDepth 100000

/-- What strconv's errors are. -/
def Errs (w : World) : Prop := (∃ tp p, w.var? Tryz.prog "strconv.ErrSyntax" = some #[.iface tp p]) ∧ (∃ tp p, w.var? Tryz.prog "strconv.ErrRange" = some #[.iface tp p])
theorem Errs.grew {w w' : World} (h : Errs w) (g : Grew w w') : Errs w' := by
  obtain ⟨⟨t, p, h1⟩, ⟨t2, p2, h2⟩⟩ := h
  exact ⟨⟨t, p, var_grew h1 g⟩, ⟨t2, p2, var_grew h2 g⟩⟩

end Go.Proofs.YtmdmbimfdpngaaaGreatDoor
