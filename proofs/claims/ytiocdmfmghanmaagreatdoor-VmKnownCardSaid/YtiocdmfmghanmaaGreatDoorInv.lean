import Derived.Test.YtiocdmfmghanmaaGreatDoorRegion
/-! A region that draws its order, by an invariant: what holds whatever has come up so far. -/
namespace Go
set_option linter.unusedSimpArgs false
set_option linter.unusedVariables false

/-- No guards; each operation waits for such as stand ahead of it. -/
def Region.plainOk (l : List Oper) : Bool := (List.range l.length).all fun i => match l[i]? with
  | some o => o.guard.isNone && o.deps.all (fun j => decide (j < i))
  | none => false

theorem wpAny_inv {P : Program} {Q : Exit → Act → World → Prop} {l : List Oper} (hok : Region.plainOk l = true) (I : Array Bool → Act → World → Prop)
    (hstep : ∀ (L : Array Bool) (a : Act) (w : World) (i : Nat) (o : Oper), L.size = l.length → I L a w → l[i]? = some o → L.getD i true = false → (∀ j ∈ o.deps, L.getD j false = true) → o.wp P a w (I (L.setIfInBounds i true)) Q)
    (hend : ∀ (L : Array Bool) (a : Act) (w : World), L.size = l.length → I L a w → (∀ i, i < l.length → L.getD i false = true) → Q .normal a w) :
    ∀ (fuel : Nat) (L : Array Bool) (a : Act) (w : World), L.size = l.length → I L a w → ((List.range l.length).filter (fun i => !L.getD i true)).length ≤ fuel → wpAny P .any l.toArray Q fuel L a w := by
  have hat : ∀ (i : Nat) (o : Oper), l[i]? = some o → o.guard = none ∧ ∀ j ∈ o.deps, j < i := by
    intro i o ho
    have hlt : i < l.length := (List.getElem?_eq_some_iff.1 ho).1
    have := List.all_eq_true.1 hok i (List.mem_range.2 hlt)
    rw [ho] at this
    simp only [Bool.and_eq_true, Option.isNone_iff_eq_none, List.all_eq_true, decide_eq_true_eq] at this
    exact this
  have hall : ∀ (L : Array Bool), L.size = l.length → Region.ready .any l.toArray L = [] → ∀ i, i < l.length → L.getD i false = true := by
    intro L hs hr i
    induction i using Nat.strongRecOn with
    | ind i ih =>
      intro hi
      cases hL : L.getD i true with
      | true => rw [getD_tf (by omega)] at hL; exact hL
      | false =>
        exfalso
        have ho : l[i]? = some l[i] := List.getElem?_eq_getElem hi
        have hmem : i ∈ Region.ready .any l.toArray L := by
          refine mem_ready.2 ⟨hL, _, (List.getElem?_toArray ..).trans ho, fun e he hb => ?_⟩
          have hj := (hat i _ ho).2 e.on (List.mem_map.2 ⟨e, List.mem_filter.2 ⟨by simpa using he, hb⟩, rfl⟩)
          exact ih e.on hj (by omega)
        rw [hr] at hmem
        cases hmem
  intro fuel
  induction fuel with
  | zero =>
    intro L a w hs hI hc
    have h1 : ∀ i, i < l.length → L.getD i false = true := by
      intro i hi
      cases hL : L.getD i true with
      | true => rw [getD_tf (by omega)] at hL; exact hL
      | false =>
        exfalso
        have : i ∈ (List.range l.length).filter (fun i => !L.getD i true) := List.mem_filter.2 ⟨List.mem_range.2 hi, by rw [hL]; rfl⟩
        have := List.length_pos_of_mem this
        omega
    have hr : Region.ready .any l.toArray L = [] := by
      apply List.eq_nil_iff_forall_not_mem.2
      intro i hi
      obtain ⟨h7, o, ho, _⟩ := mem_ready.1 hi
      have hlt : i < l.length := by have := (Array.getElem?_eq_some_iff.1 ho).1; simpa using this
      have h8 := h1 i hlt
      rw [getD_tf (by omega), h8] at h7
      cases h7
    exact ⟨hr, hend L a w hs hI h1⟩
  | succ fuel ih =>
    intro L a w hs hI hc
    refine ⟨fun hr => hend L a w hs hI (hall L hs hr), fun i hi => ?_⟩
    obtain ⟨h7, o, ho, hafter⟩ := mem_ready.1 hi
    have ho' : l[i]? = some o := (List.getElem?_toArray ..).symm.trans ho
    have hlt : i < l.length := (List.getElem?_eq_some_iff.1 ho').1
    unfold wpOp
    simp only [ho]
    rw [if_pos (by simp [Region.wanted, (hat i o ho').1])]
    refine .inl (Oper.wp_mono (fun a' w' h => ih _ a' w' (by simpa using hs) h ?_) (hstep L a w i o hs hI ho' h7 fun j hj => ?_))
    · have := filter_set_lt hlt (by omega) h7
      omega
    · obtain ⟨e, he, rfl⟩ := List.mem_map.1 hj
      obtain ⟨he1, he2⟩ := List.mem_filter.1 he
      exact hafter e (by simpa using he1) he2

/-- THE RULE. -/
theorem wp_region_inv {P : Program} {Q : Exit → Act → World → Prop} {id : Nat} {l : List Oper} {a0 : Act} {w0 : World} (hm : P.follows .mixedOrders = true) (hok : Region.plainOk l = true) (I : Array Bool → Act → World → Prop)
    (h0 : I (Array.replicate l.length false) a0 w0.drew)
    (hstep : ∀ (L : Array Bool) (a : Act) (w : World) (i : Nat) (o : Oper), L.size = l.length → I L a w → l[i]? = some o → L.getD i true = false → (∀ j ∈ o.deps, L.getD j false = true) → o.wp P a w (I (L.setIfInBounds i true)) Q)
    (hend : ∀ (L : Array Bool) (a : Act) (w : World), L.size = l.length → I L a w → (∀ i, i < l.length → L.getD i false = true) → Q .normal a w) :
    (Code.region id l.toArray true).wp P Q a0 w0 :=
  wp_region_any hm (wpAny_inv hok I hstep hend _ _ _ _ (by simp) (by simpa using h0) (Nat.le_trans (List.length_filter_le _ _) (by simp)))
end Go
