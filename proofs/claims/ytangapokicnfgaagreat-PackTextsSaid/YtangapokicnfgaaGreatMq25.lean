import Derived.Test.YtangapokicnfgaaGreatMq21
import Derived.Test.YtangapokicnfgaaGreatMq23
import Derived.ScopeJumps
import Derived.Laws.EntriesVeiled
import Derived.Scope
import Derived.Tactics
/-! graph.sort: its two closures; the world of a round. -/
namespace Go.Proofs.YtangapokicnfgaaGreat
set_option linter.unusedSimpArgs false
set_option linter.unusedVariables false
open Go.RowKit Ga
set_option maxRecDepth 100000

theorem enters112 : ∀ args w, (callFunc 112 args).run Tryz.prog w = .ok (.enter 112 args) w := enters_of Tryz.func112 (by kernel_rfl) rfl
theorem enters113 : ∀ args w, (callFunc 113 args).run Tryz.prog w = .ok (.enter 113 args) w := enters_of Tryz.func113 (by kernel_rfl) rfl
theorem sort1_pred (out : List Int) (v : Value) (B : Nat) (w : World) (hv : IntsAt w v out) (hB : Pre B w) (hc : w.cell? ⟨B, 0, none⟩ = some v) : PredI 112 #[.pointer (some ⟨B, 0, none⟩)] (fun x => decide (x ∈ out)) w := by
  intro W x g
  obtain ⟨R, N, rfl⟩ := g
  have HC := Lib.hid fun W (g : Grew w W) => containsI_any v out x W (hv.grew g)
  obtain ⟨a, cap, rfl⟩ := hv.len
  clear hv
  show Calls Tryz.prog 112 #[.int .i64 x, .pointer (some ⟨B, 0, none⟩)] _ (Gives (.bool (decide (x ∈ out))) _)
  generalize decide (x ∈ out) = r at *
  go_enter Tryz.func112, Tryz.ntmps112
  go_wp2_with (go_at_call 75; refine (HC.out _ (by repeat (first | with_reducible exact Grew.refl _ | apply Grew.more | apply Grew.alloc | apply Grew.drew | apply Grew.drewN))).mono ?_; rintro e w1 ⟨rfl, hw1⟩; obtain rfl := hw1)
  go_ret
  refine ⟨rfl, ?_⟩
  repeat (first | with_reducible exact Grew.refl _ | apply Grew.more | apply Grew.alloc | apply Grew.drew | apply Grew.drewN)
theorem sort2_pred (out : List Int) (v : Value) (B C : Nat) (w : World) (hv : IntsAt w v out) (hB : Pre B w) (hc : w.cell? ⟨B, 0, none⟩ = some v) (hC : Pre C w) (hcC : w.cell? ⟨C, 0, none⟩ = some (.func (.func 112) #[] #[.pointer (some ⟨B, 0, none⟩)])) : PredI 113 #[.pointer (some ⟨C, 0, none⟩)] (fun x => !decide (x ∈ out)) w := by
  intro W x g
  have HS := Lib.hid (sort1_pred out v B w hv hB hc)
  obtain ⟨R, N, rfl⟩ := g
  have eg := enters112
  clear hv hc hB
  show Calls Tryz.prog 113 #[.int .i64 x, .pointer (some ⟨C, 0, none⟩)] _ (Gives (.bool (!decide (x ∈ out))) _)
  generalize hq : (fun x => decide (x ∈ out)) = p at *
  have hp : decide (x ∈ out) = p x := by rw [← hq]
  rw [hp]
  clear hq hp
  generalize hr : p x = r
  have HR := Lib.hid hr
  clear hr
  go_enter Tryz.func113, Tryz.ntmps113
  go_wp2_with (go_at_fn 112; refine (HS.out _ x (by repeat (first | with_reducible exact Grew.refl _ | apply Grew.more | apply Grew.alloc | apply Grew.drew | apply Grew.drewN))).mono ?_; rintro e w1 ⟨rfl, R3, n3, rfl⟩; rw [HR.out])
  go_ret
  refine ⟨rfl, ?_⟩
  repeat (first | with_reducible exact Grew.refl _ | apply Grew.more | apply Grew.alloc | apply Grew.drew | apply Grew.drewN)

/-- a world of the sort's: w: the one that came in; w1: the one behind Norm; B: the cell of what stands; C: the cell of the closure -/
structure SortAt (w w1 : World) (B C : Nat) (W : World) (v : Value) (out : List Int) : Prop where
  keep : Keep B w1 W
  g : Grew w W
  own : OwnAt w.heap.size 3 1 encN W v out
  hi : ∀ q, v.ownBlock = some q → w1.heap.size ≤ q
  b : W.heap[B]? = some (.cells #[v] 41)
  c : W.heap[C]? = some (.cells #[.func (.func 112) #[] #[.pointer (some ⟨B, 0, none⟩)]] 108)
  bl : w.heap.size ≤ B
theorem SortAt.grew {w w1 : World} {B C : Nat} {W W' : World} {v : Value} {out : List Int} (h : SortAt w w1 B C W v out) (g : Grew W W') : SortAt w w1 B C W' v out :=
  ⟨h.keep.trans (Keep.ofGrew g), h.g.trans g, h.own.grew g, h.hi, grew_heap g h.b, grew_heap g h.c, h.bl⟩
theorem SortAt.push {w w1 : World} {B C : Nat} {W W' : World} {v v' : Value} {out : List Int} {x : Int} (h : SortAt w w1 B C W v out) (hA : Appended w 3 1 encN W v (out ++ [x]) v' W') :
    W'.heap[B]? = some (.cells #[v] 41) ∧ SortAt w w1 B C (W'.setCell ⟨B, 0, none⟩ v') v' (out ++ [x]) := by
  obtain ⟨a1, a2, a3, a4, a5⟩ := hA
  have hB : W'.heap[B]? = some (.cells #[v] 41) := by rw [a4 B (heap_lt h.b) (OwnAt.other h.own h.b (by decide))]; exact h.b
  have hC : W'.heap[C]? = some (.cells #[.func (.func 112) #[] #[.pointer (some ⟨B, 0, none⟩)]] 108) := by rw [a4 C (heap_lt h.c) (OwnAt.other h.own h.c (by decide))]; exact h.c
  have hne : B ≠ C := fun e => by
    rw [e, hC] at hB
    cases hB
  have hk : Keep B w1 W' := ⟨Nat.le_trans h.keep.1 a3, fun q hq hn => (a4 q (Nat.lt_of_lt_of_le hq h.keep.1) fun e => by have := h.hi q e; omega).trans (h.keep.2 q hq hn)⟩
  refine ⟨hB, ⟨hk.trans (Keep.set _), a1.set h.bl _, OwnAt.same a2 fun b hb => set_other fun e => ?_, fun q hq => ?_, by rw [set_self hB]; rfl, by rw [set_other hne]; exact hC, h.bl⟩⟩
  · subst e
    exact OwnAt.other a2 hB (by decide) hb
  · rcases a5 q hq with h1 | h1
    · exact h.hi q h1
    · exact Nat.le_trans h.keep.1 h1
/-- the nodes stand as they stood -/
theorem SortAt.nodes {w w1 : World} {B C base : Nat} {W : World} {v vn : Value} {out : List Int} {lc : List NdC} {l : List Gr.Nd} (h : SortAt w w1 B C W v out) (ho : NodesOwn base w1 vn lc) (hn : NodesIn base w1 lc l) (hB : ∃ c, w1.heap[B]? = some (.cells c 41)) : NodesAt W vn l := by
  obtain ⟨cB, hB⟩ := hB
  have hk := h.keep
  have hne : ∀ (q : Nat) (cs : Array Value) (t : TypeId), w1.heap[q]? = some (.cells cs t) → t ≠ 41 → q ≠ B := fun q cs t hq ht e => by
    subst e
    rw [hB] at hq
    cases hq
    exact ht rfl
  have ho2 : NodesOwn base W vn lc := OwnAt.same ho fun b hb => by
    obtain ⟨_, cs, h2⟩ := OwnAt.block ho hb
    exact hk.2 b (heap_lt h2) (hne b cs _ h2 (by decide))
  have hn2 : NodesIn base W lc l := Rel.mono (fun c n ⟨h1, h2⟩ => by
    have h3 : OwnsNd base W c n := by
      refine ⟨OwnAt.same h2.1 fun b hb => ?_, OwnAt.same h2.2 fun b hb => ?_⟩
      · obtain ⟨_, cs, h4⟩ := OwnAt.block h2.1 hb
        exact hk.2 b (heap_lt h4) (hne b cs _ h4 (by decide))
      · obtain ⟨_, cs, h4⟩ := OwnAt.block h2.2 hb
        exact hk.2 b (heap_lt h4) (hne b cs _ h4 (by decide))
    exact ⟨h3.is h1, h3⟩) hn
  exact hn2.at ho2
def standP (out : List Int) (n : Gr.Nd) : Bool := !out.contains n.id && n.frm.all fun f => out.contains f
theorem standP_eq (out : List Int) (n : Gr.Nd) : standP out n = (!decide (n.id ∈ out) && !n.frm.any fun f => !decide (f ∈ out)) := by
  unfold standP
  rw [List.not_any_eq_all_not]
  simp
theorem standP_next (l : List Gr.Nd) (out : List Int) : Gr.nextS l out = (l.find? (standP out)).map (·.id) := rfl
def sliceLen : Value → Nat
  | .slice _ n _ => n
  | _ => 0
end Go.Proofs.YtangapokicnfgaaGreat

/-! A scope with one label that is jumped back to, and one that is jumped ahead to. -/
namespace Go
set_option linter.unusedSimpArgs false
set_option linter.unusedVariables false

/-- As Q; by a goto to l1: J1; to l0: J0. -/
def Exit.jump2 (l1 l0 : Nat) (J1 J0 : Act → World → Prop) (Q : Exit → Act → World → Prop) : Exit → Act → World → Prop
  | .goto l', a, w => (l' = l1 ∧ J1 a w) ∨ (l' = l0 ∧ J0 a w)
  | e, a, w => Q e a w

section
variable {P : Program} {a : Act} {w : World} {Q : Exit → Act → World → Prop}
theorem wp_scope_jumps2 {c rest1 rest0 : Code} (l1 l0 : Nat) (J1 J0 : Act → World → Prop) (μ : Act → World → Nat) (hf1 : findLabel c l1 = some rest1) (hf0 : findLabel c l0 = some rest0)
    (first : c.wp P (Exit.jump2 l1 l0 J1 J0 Q) a w)
    (pass1 : ∀ a w, J1 a w → rest1.wp P (Exit.jump2 l1 l0 (fun a' w' => J1 a' w' ∧ μ a' w' < μ a w) J0 Q) a w)
    (pass0 : ∀ a w, J0 a w → rest0.wp P (Exit.noGoto Q) a w) : (Code.scope c).wp P Q a w := by
  intro b k cs
  have hg1 : gotoIn l1 (.inScope c :: k) = some (.code rest1 :: .inScope c :: k) := by simp [gotoIn, hf1]
  have hg0 : gotoIn l0 (.inScope c :: k) = some (.code rest0 :: .inScope c :: k) := by simp [gotoIn, hf0]
  have end0 : ∀ a w, J0 a w → ∃ e a' w', Q e a' w' ∧ Arrives P (lone (b.at a (.code rest0 :: .inScope c :: k)) cs w) b k cs e a' w' := by
    intro a w h0
    obtain ⟨e, a₁, w₁, hq, harr⟩ := pass0 a w h0 b (.inScope c :: k) cs
    cases e with
    | normal => exact ⟨.normal, a₁, w₁, hq, Steps.trans harr (.one step_inScope)⟩
    | exit id => exact ⟨.exit id, a₁, w₁, hq, fun k' hk => harr k' (by simp [exitTo, hk])⟩
    | goto l' => exact hq.elim
    | ret => exact ⟨_, a₁, w₁, hq, harr⟩
    | panic ch => exact ⟨_, a₁, w₁, hq, harr⟩
    | outgrown => exact ⟨_, a₁, w₁, hq, harr⟩
  have key : ∀ n a w, μ a w = n → J1 a w → ∃ e a' w', Q e a' w' ∧ Arrives P (lone (b.at a (.code rest1 :: .inScope c :: k)) cs w) b k cs e a' w' := by
    intro n
    induction n using Nat.strongRecOn with
    | _ n ih =>
      intro a w hn hJ
      obtain ⟨e, a₁, w₁, hq, harr⟩ := pass1 a w hJ b (.inScope c :: k) cs
      cases e with
      | normal => exact ⟨.normal, a₁, w₁, hq, Steps.trans harr (.one step_inScope)⟩
      | exit id => exact ⟨.exit id, a₁, w₁, hq, fun k' hk => harr k' (by simp [exitTo, hk])⟩
      | goto l' =>
        rcases hq with ⟨rfl, hJ', hlt⟩ | ⟨rfl, h0⟩
        · obtain ⟨e₂, a₂, w₂, hq₂, harr₂⟩ := ih _ (by omega) a₁ w₁ rfl hJ'
          exact ⟨e₂, a₂, w₂, hq₂, .of_steps (harr _ hg1) harr₂⟩
        · obtain ⟨e₂, a₂, w₂, hq₂, harr₂⟩ := end0 a₁ w₁ h0
          exact ⟨e₂, a₂, w₂, hq₂, .of_steps (harr _ hg0) harr₂⟩
      | ret => exact ⟨_, a₁, w₁, hq, harr⟩
      | panic ch => exact ⟨_, a₁, w₁, hq, harr⟩
      | outgrown => exact ⟨_, a₁, w₁, hq, harr⟩
  obtain ⟨e, a₁, w₁, hq, harr⟩ := first b (.inScope c :: k) cs
  cases e with
  | normal => exact ⟨.normal, a₁, w₁, hq, .head step_scope (Steps.trans harr (.one step_inScope))⟩
  | exit id => exact ⟨.exit id, a₁, w₁, hq, fun k' hk => .head step_scope (harr k' (by simp [exitTo, hk]))⟩
  | goto l' =>
    rcases hq with ⟨rfl, hJ'⟩ | ⟨rfl, h0⟩
    · obtain ⟨e₂, a₂, w₂, hq₂, harr₂⟩ := key _ a₁ w₁ rfl hJ'
      exact ⟨e₂, a₂, w₂, hq₂, .of_steps (.head step_scope (harr _ hg1)) harr₂⟩
    · obtain ⟨e₂, a₂, w₂, hq₂, harr₂⟩ := end0 a₁ w₁ h0
      exact ⟨e₂, a₂, w₂, hq₂, .of_steps (.head step_scope (harr _ hg0)) harr₂⟩
  | ret => exact ⟨_, a₁, w₁, hq, .of_steps (.one step_scope) harr⟩
  | panic ch => exact ⟨_, a₁, w₁, hq, .of_steps (.one step_scope) harr⟩
  | outgrown => exact ⟨_, a₁, w₁, hq, .of_steps (.one step_scope) harr⟩

theorem wp_skip_seq {x : Code} (h : x.wp P Q a w) : (Code.seq .skip x).wp P Q a w := wp_seq (wp_skip h)
/-- .. the first time through the body may be taken as any other. -/
theorem wp_scope_jumps2' {c rest1 rest0 : Code} (l1 l0 : Nat) (J1 J0 : Act → World → Prop) (μ : Act → World → Nat) (hf1 : findLabel c l1 = some (.seq .skip rest1)) (hf0 : findLabel c l0 = some (.seq .skip rest0))
    (pass0 : ∀ a w, J0 a w → rest0.wp P (Exit.noGoto Q) a w)
    (pass1 : (∀ J a w, J0 a w → rest0.wp P (Exit.jump2 l1 l0 J J0 Q) a w) → ∀ a w, J1 a w → rest1.wp P (Exit.jump2 l1 l0 (fun a' w' => J1 a' w' ∧ μ a' w' < μ a w) J0 Q) a w)
    (first : (∀ a w, J1 a w → rest1.wp P (Exit.jump2 l1 l0 J1 J0 Q) a w) → c.wp P (Exit.jump2 l1 l0 J1 J0 Q) a w) : (Code.scope c).wp P Q a w :=
by
  have h0 : ∀ J a w, J0 a w → rest0.wp P (Exit.jump2 l1 l0 J J0 Q) a w := fun J a w h => Code.wp_mono (fun e a' w' hq => by
    cases e with
    | goto l' => exact hq.elim
    | _ => exact hq) (pass0 a w h)
  exact wp_scope_jumps2 l1 l0 J1 J0 μ hf1 hf0 (first fun a w h => Code.wp_mono (fun e a' w' hq => by
    cases e with
    | goto l' =>
      rcases hq with ⟨h1, h2, _⟩ | h3
      · exact .inl ⟨h1, h2⟩
      · exact .inr h3
    | _ => exact hq) (pass1 h0 a w h)) (fun a w h => wp_skip_seq (pass1 h0 a w h)) (fun a w h => wp_skip_seq (pass0 a w h))
end
end Go
