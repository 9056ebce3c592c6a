import Derived.Test.YtmdmbimfdpngaaaGreatMs34
import Derived.DeepKeys4
import Derived.DeepKeys5
import Derived.Maps.Views
/-! A set of places, as a map that the call makes. -/
namespace Go.Proofs.YtmdmbimfdpngaaaGreat
set_option linter.unusedSimpArgs false
set_option linter.unusedVariables false
open Go.RowKit Ga
set_option maxRecDepth 100000

theorem laidOutP : laidOutB Tryz.prog = true := by kernel_rfl
theorem place_law : Maps.Keyed Tryz.prog 150 := Maps.Keyed.of_law (deep_law_laid laidOutP (m := 3) (by decide) (of_decide_eq_true (by kernel_rfl)) (by kernel_rfl) (by kernel_rfl))
abbrev Pl := Int × Int × Int
def plV (x : Pl) : Value := .agg #[.int .i64 x.1, .int .i64 x.2.1, .int .i64 x.2.2]
theorem plV_inj {x y : Pl} (h : plV x = plV y) : x = y := by
  obtain ⟨a, b, c⟩ := x
  obtain ⟨d, e, f⟩ := y
  unfold plV at h
  simp at h
  obtain ⟨rfl, rfl, rfl⟩ := h
  rfl
def small (n : Int) : Prop := -9223372036854775808 ≤ n ∧ n ≤ 9223372036854775807
theorem keyTypeP : Tryz.prog.keyType 150 = true := by kernel_rfl
theorem cellsP : Tryz.prog.cellsOf 150 = 3 := by kernel_rfl
theorem cellsI1 : Tryz.prog.cellsOf 3 = 1 := by kernel_rfl
theorem sizeP : Tryz.prog.types.size ≠ 0 := of_decide_eq_true (by kernel_rfl)
theorem keyP (x : Pl) (h1 : small x.1) (h2 : small x.2.1) (h3 : small x.2.2) : ∃ kl, keyOf Tryz.prog 150 (plV x) = some kl := by
  have w1 := WalkArith.wf_i64 h1
  have w2 := WalkArith.wf_i64 h2
  have w3 := WalkArith.wf_i64 h3
  unfold plV keyOf
  obtain ⟨m, hm⟩ := Nat.exists_eq_succ_of_ne_zero sizeP
  simp only [Tryz.underlying150, keyTypeP, hm]
  simp [Value.formed, Tryz.underlying150, cellsP, Program.keyLits, Value.cells, Tryz.underlying3, cellsI1, w1, w2, w3]

/-- Block b is the set of the places M. -/
def SetAt (W : World) (b n : Nat) (M : List Pl) : Prop := ∃ D : DataW Unit, W.ownsMap Tryz.prog 150 (plainElem Tryz.prog 4) b n D ∧ Maps.IsMap D ∧ ∀ x kl, keyOf Tryz.prog 150 (plV x) = some kl → D.atKey kl (.lit (.bool false)) = .lit (.bool (decide (x ∈ M)))
theorem SetAt.made (W : World) : SetAt (W.alloc (.map #[] 0)) W.heap.size 0 [] :=
  ⟨_, World.ownsMap_made _ _ _ _, ⟨_, rfl⟩, fun x kl _ => by simp [WideAt.atKey_none]⟩
theorem SetAt.same {W W' : World} {b n : Nat} {M : List Pl} (h : SetAt W b n M) (hb : W'.heap[b]? = W.heap[b]?) : SetAt W' b n M := by
  obtain ⟨D, ⟨es, c, h1, h2⟩, h3⟩ := h
  exact ⟨D, ⟨es, c, by rw [hb]; exact h1, h2⟩, h3⟩
theorem zeroBool (w : World) : (zeroValue 4).run Tryz.prog w = .ok (.bool false) w := by kernel_rfl
theorem plainBool_inv {v : Value} {b : Bool} {ps : List MemPlace} (h : plainElem (H := Unit) Tryz.prog 4 v = some (.lit (.bool b), ps)) : v = .bool b := by
  unfold plainElem at h
  rw [Tryz.underlying4] at h
  cases v <;> simp at h
  rw [h.1]
theorem SetAt.look {W : World} {b n : Nat} {M : List Pl} (h : SetAt W b n M) (x : Pl) (h1 : small x.1) (h2 : small x.2.1) (h3 : small x.2.2) : (Instr.lookup 148 (.map (some b)) (plV x) false).run Tryz.prog W = .ok (.bool (decide (x ∈ M))) W := by
  obtain ⟨D, ho, _, hD⟩ := h
  obtain ⟨kl, hk⟩ := keyP x h1 h2 h3
  obtain ⟨v, ps, hr, hv⟩ := World.ownsMap.lookup ho place_law Tryz.underlying148 (zeroBool W) (zd := .lit (.bool false)) (zp := []) (plainElem_bool Tryz.underlying4 false) hk
  rw [hD x kl hk] at hv
  rw [hr, plainBool_inv hv]
theorem SetAt.add {W : World} {b n : Nat} {M : List Pl} (h : SetAt W b n M) (hn : n < maxLen) (x : Pl) (h1 : small x.1) (h2 : small x.2.1) (h3 : small x.2.2) :
    ∃ W', (Instr.mapUpdate 148 (.map (some b)) (plV x) (.bool true)).run Tryz.prog W = .ok () W' ∧ SetAt W' b (n + 1) (x :: M) ∧ W.grownBy W' (some b) := by
  obtain ⟨D, ho, hm, hD⟩ := h
  obtain ⟨kl, hk⟩ := keyP x h1 h2 h3
  obtain ⟨W', hr, ho', hg⟩ := World.ownsMap.update ho place_law Tryz.underlying148 hn hk (plainElem_bool Tryz.underlying4 true)
  refine ⟨W', hr, ⟨_, ho', ?_, fun y ky hy => ?_⟩, hg⟩
  · obtain ⟨es, rfl⟩ := hm
    exact ⟨_, rfl⟩
  · by_cases hyx : y = x
    · subst hyx
      rw [hk] at hy
      cases hy
      rw [Maps.atKey_put_same hm (place_law.key hk)]
      simp
    · have hne : ky ≠ kl := fun e => hyx (plV_inj (place_law.inj (e ▸ hy) hk))
      rw [Maps.atKey_put_other hne, hD y ky hy]
      simp [hyx]
theorem wpList_setAdd {w0 W : World} {ops : Array Oper} {rest : List Oper} {o : Oper} {a : Act} {Q : Exit → Act → World → Prop} {b n : Nat} {M : List Pl}
    (hg : o.guard = none) (m k v : Operand) (hop : o.op = Op.mapUpdate 148 m k v) (hgr : Grew w0 W) (hb : w0.heap.size ≤ b)
    (hm : a.eval m = .map (some b)) (h : SetAt W b n M) (hn : n < maxLen) (x : Pl) (h1 : small x.1) (h2 : small x.2.1) (h3 : small x.2.2) (hk : a.eval k = plV x) (hv : a.eval v = .bool true)
    (hK : ∀ W', SetAt W' b (n + 1) (x :: M) → Grew w0 W' → (∀ q, q < W.heap.size → q ≠ b → W'.heap[q]? = W.heap[q]?) → W.heap.size ≤ W'.heap.size → wpList Tryz.prog ops Q rest (a.put o.dst undef) W') : wpList Tryz.prog ops Q (o :: rest) a W := by
  refine wpList_plain hg fun K' hK' => ?_
  obtain ⟨W', hrun, r1, r2⟩ := h.add hn x h1 h2 h3
  unfold Oper.wp
  simp [execOp, hop, hm, hk, hv, hrun, Result.andThen]
  exact hK' _ _ (hK W' r1 (hgr.grown r2 (fun q hq => by cases hq; exact hb)) (fun q hq hne => r2.block q hq (by simpa using hne)) r2.size)
end Go.Proofs.YtmdmbimfdpngaaaGreat

/-! All ways gone, one after the other: plain laws. -/
namespace Vm
set_option linter.unusedSimpArgs false
set_option linter.unusedVariables false
open Ga

abbrev Plc := Int × Int × Int
def okP (n : Nat) (x : Plc) : Prop := 0 ≤ x.1 ∧ x.1 ≤ n ∧ 0 ≤ x.2.1 ∧ x.2.1 ≤ 8 ∧ 0 ≤ x.2.2 ∧ x.2.2 ≤ 4
def numP (x : Plc) : Nat := (x.1 * 45 + x.2.1 * 5 + x.2.2).toNat
theorem numP_inj {n : Nat} {x y : Plc} (hx : okP n x) (hy : okP n y) (h : numP x = numP y) : x = y := by
  obtain ⟨a, b, c⟩ := x
  obtain ⟨d, e, f⟩ := y
  unfold okP at hx hy
  unfold numP at h
  simp only at hx hy h
  have h1 : a * 45 + b * 5 + c = d * 45 + e * 5 + f := by omega
  have e1 : a = d := by omega
  subst e1
  have e2 : b = e := by omega
  subst e2
  have e3 : c = f := by omega
  rw [e3]
def free (M : List Plc) : Nat := (List.range 1125).countP fun k => !(M.map numP).contains k
theorem countP_lt {p q : Nat → Bool} : ∀ (L : List Nat), (∀ k, q k = true → p k = true) → ∀ a ∈ L, p a = true → q a = false → L.countP q < L.countP p
  | [], _, a, ha, _, _ => by cases ha
  | b :: L, h, a, ha, hp, hq => by
    have hm := List.countP_mono_left (l := L) (p := q) (q := p) fun x _ => h x
    rw [List.countP_cons, List.countP_cons]
    rcases List.mem_cons.1 ha with e | e
    · subst e
      rw [hp, hq]
      simp
      omega
    · have := countP_lt L h a e hp hq
      cases hb : q b
      · simp
        omega
      · rw [h b hb]
        simp
        omega
theorem free_cons {n : Nat} (hn : n ≤ 24) {M : List Plc} {x : Plc} (hM : ∀ y ∈ M, okP n y) (hx : okP n x) (hnew : x ∉ M) : free (x :: M) < free M := by
  unfold free
  refine countP_lt _ (fun k hk => ?_) (numP x) (List.mem_range.2 ?_) ?_ ?_
  · simp at hk ⊢
    exact hk.2
  · unfold okP at hx
    unfold numP
    omega
  · simp
    intro a b c hm he
    exact hnew (numP_inj (hM _ hm) hx he ▸ hm)
  · simp
theorem free_le (M : List Plc) : free M ≤ 1125 := by
  unfold free
  have := List.countP_le_length (l := List.range 1125) (p := fun k => !(M.map numP).contains k)
  rwa [List.length_range] at this
def lead (k : Nat) (d e : Int) (i : Ins) (a : Nat) : Plc := ((a : Int), d - takes i.1 + leaves i.1, e + if i.1 = 14 then 1 else 0)
structure Gone (l : List Ins) (M T : List Plc) (dep : List Int) : Prop where
  len : dep.length = l.length
  okM : ∀ x ∈ M, okP l.length x
  okT : ∀ x ∈ T, 0 ≤ x.1 ∧ x.1 ≤ l.length ∧ 0 ≤ x.2.1 ∧ x.2.1 ≤ 10 ∧ 0 ≤ x.2.2 ∧ x.2.2 ≤ 5
  fr : M.length + free M ≤ 1125
  tl : T.length ≤ M.length + 1
  zero : ((0, 0, 0) : Plc) ∈ M ∨ ((0, 0, 0) : Plc) ∈ T
  one : ∀ (k : Nat) (d e : Int), ((k : Int), d, e) ∈ M → k < l.length → dep.getD k (-1) = d
  dm : ∀ (k : Nat), 0 ≤ dep.getD k (-1) → ∃ e, ((k : Int), dep.getD k (-1), e) ∈ M
  enough : ∀ (k : Nat) (d e : Int) (i : Ins), ((k : Int), d, e) ∈ M → l[k]? = some i → (takes i.1 : Int) ≤ d
  next : ∀ (k : Nat) (d e : Int) (i : Ins), ((k : Int), d, e) ∈ M → l[k]? = some i → ∀ a ∈ next l k i, lead k d e i a ∈ M ∨ lead k d e i a ∈ T
  snd : ∀ c, checkC l = some c → ∀ (k : Nat) (d e : Int), ((k : Int), d, e) ∈ M ∨ ((k : Int), d, e) ∈ T → Snd l c k d e
theorem Gone.start (l : List Ins) : Gone l [] [(0, 0, 0)] (List.replicate l.length (-1)) where
  len := List.length_replicate
  okM := fun x hx => by cases hx
  okT := fun x hx => by rw [List.mem_singleton] at hx; subst hx; exact ⟨by decide, by simp, by decide, by decide, by decide, by decide⟩
  fr := by have := free_le []; simpa using this
  tl := Nat.le_refl _
  zero := .inr (List.mem_singleton.2 rfl)
  one := fun k d e h => by cases h
  dm := fun k h => by
    rw [List.getD_eq_getElem?_getD, List.getElem?_replicate] at h
    split at h <;> simp at h
  enough := fun k d e i h => by cases h
  next := fun k d e i h => by cases h
  snd := fun c hc k d e h => by
    rcases h with h | h
    · cases h
    · rw [List.mem_singleton] at h
      simp only [Prod.mk.injEq] at h
      obtain ⟨h1, rfl, rfl⟩ := h
      obtain rfl : k = 0 := by omega
      exact snd_zero hc
section
variable {l : List Ins} {M T : List Plc} {dep : List Int} {x : Plc} {k : Nat} {d e : Int}
theorem mem_back {y : Plc} (h : y ∈ M ∨ y ∈ T ++ [x]) (hx : x ∈ M) : y ∈ M ∨ y ∈ T := by
  rcases h with h | h
  · exact .inl h
  · rcases List.mem_append.1 h with h | h
    · exact .inr h
    · rw [List.mem_singleton] at h; exact .inl (h ▸ hx)
theorem Gone.skip (h : Gone l M (T ++ [x]) dep) (hx : x ∈ M) : Gone l M T dep where
  len := h.len
  okM := h.okM
  okT := fun y hy => h.okT y (List.mem_append_left _ hy)
  fr := h.fr
  tl := by have := h.tl; rw [List.length_append] at this; simp at this; omega
  zero := mem_back h.zero hx
  one := h.one
  dm := h.dm
  enough := h.enough
  next := fun k d e i hm hi a ha => mem_back (h.next k d e i hm hi a ha) hx
  snd := fun c hc k d e hm => h.snd c hc k d e (hm.imp id fun q => List.mem_append_left _ q)
theorem Gone.at (h : Gone l M (T ++ [((k : Int), d, e)]) dep) : k ≤ l.length ∧ 0 ≤ d ∧ d ≤ 10 ∧ 0 ≤ e ∧ e ≤ 5 := by
  obtain ⟨h1, h2, h3, h4, h5, h6⟩ := h.okT _ (List.mem_append_right _ (List.mem_singleton.2 rfl))
  simp only at h1 h2 h3 h4 h5 h6
  exact ⟨by omega, h3, h4, h5, h6⟩
theorem unsafe_of {l : List Ins} (h : ∀ c, checkC l = some c → False) : safe l = false := by
  unfold safe
  cases hc : checkC l with
  | none => rfl
  | some c => exact absurd (h c hc) id
theorem Gone.deep (h : Gone l M (T ++ [((k : Int), d, e)]) dep) (hd : 8 < d ∨ 4 < e) : safe l = false :=
  unsafe_of fun c hc => by
    obtain ⟨_, h1, h2, _⟩ := h.snd c hc k d e (.inr (List.mem_append_right _ (List.mem_singleton.2 rfl)))
    omega
theorem Gone.clash (h : Gone l M (T ++ [((k : Int), d, e)]) dep) (hk : k < l.length) (h0 : 0 ≤ dep.getD k (-1)) (hd : dep.getD k (-1) ≠ d) : safe l = false :=
  unsafe_of fun c hc => by
    obtain ⟨_, _, _, _, h1⟩ := h.snd c hc k d e (.inr (List.mem_append_right _ (List.mem_singleton.2 rfl)))
    obtain ⟨e', hm⟩ := h.dm k h0
    obtain ⟨_, _, _, _, h2⟩ := h.snd c hc k _ e' (.inl hm)
    exact hd ((h2 hk).1.symm.trans (h1 hk).1)
theorem Gone.short (h : Gone l M (T ++ [((k : Int), d, e)]) dep) {i : Ins} (hi : l[k]? = some i) (hd : d < takes i.1) : safe l = false :=
  unsafe_of fun c hc => by
    have := snd_enough hc (h.snd c hc k d e (.inr (List.mem_append_right _ (List.mem_singleton.2 rfl)))) hi
    omega
theorem mem_on {y : Plc} {T' : List Plc} (h : y ∈ M ∨ y ∈ T ++ [x]) : y ∈ x :: M ∨ y ∈ T ++ T' := by
  rcases h with h | h
  · exact .inl (List.mem_cons_of_mem _ h)
  · rcases List.mem_append.1 h with h | h
    · exact .inr (List.mem_append_left _ h)
    · rw [List.mem_singleton] at h; exact .inl (h ▸ List.mem_cons_self ..)
theorem mem_off {y : Plc} (h : y ∈ x :: M ∨ y ∈ T) : y ∈ M ∨ y ∈ T ++ [x] := by
  rcases h with h | h
  · rcases List.mem_cons.1 h with h | h
    · exact .inr (List.mem_append_right _ (List.mem_singleton.2 h))
    · exact .inl h
  · exact .inr (List.mem_append_left _ h)
theorem Gone.last (hn : l.length ≤ 24) (h : Gone l M (T ++ [((k : Int), d, e)]) dep) (hnew : ((k : Int), d, e) ∉ M) (h8 : d ≤ 8) (h4 : e ≤ 4) (hk : l.length ≤ k) : Gone l (((k : Int), d, e) :: M) T dep := by
  obtain ⟨a1, a2, a3, a4, a5⟩ := h.at
  have hok : okP l.length ((k : Int), d, e) := ⟨by simp, by simpa using a1, a2, h8, a4, h4⟩
  have hnone : ∀ {i : Ins}, l[k]? = some i → False := fun hi => by have := (List.getElem?_eq_some_iff.1 hi).1; omega
  refine ⟨h.len, fun y hy => ?_, fun y hy => h.okT y (List.mem_append_left _ hy), ?_, ?_, ?_, fun k' d' e' hm hk' => ?_, fun k' h0 => ?_, fun k' d' e' i hm hi => ?_, fun k' d' e' i hm hi a ha => ?_, fun c hc k' d' e' hm => h.snd c hc k' d' e' (mem_off hm)⟩
  · rcases List.mem_cons.1 hy with e1 | e1
    · exact e1 ▸ hok
    · exact h.okM y e1
  · have := free_cons hn h.okM hok hnew
    have := h.fr
    rw [List.length_cons]
    omega
  · have := h.tl
    rw [List.length_append] at this
    rw [List.length_cons]
    simp at this
    omega
  · simpa using mem_on (T' := []) h.zero
  · rcases List.mem_cons.1 hm with e1 | e1
    · simp only [Prod.mk.injEq] at e1
      omega
    · exact h.one k' d' e' e1 hk'
  · obtain ⟨e', hm⟩ := h.dm k' h0
    exact ⟨e', List.mem_cons_of_mem _ hm⟩
  · rcases List.mem_cons.1 hm with e1 | e1
    · simp only [Prod.mk.injEq] at e1
      obtain rfl : k' = k := by omega
      exact absurd hi (fun x => hnone x)
    · exact h.enough k' d' e' i e1 hi
  · rcases List.mem_cons.1 hm with e1 | e1
    · simp only [Prod.mk.injEq] at e1
      obtain rfl : k' = k := by omega
      exact absurd hi (fun x => hnone x)
    · simpa using mem_on (T' := []) (h.next k' d' e' i e1 hi a ha)
theorem next_len2 (l : List Ins) (k : Nat) (i : Ins) : (Vm.next l k i).length ≤ 2 := by
  unfold Vm.next
  repeat' split
  all_goals simp
theorem Gone.go (hn : l.length ≤ 24) (h : Gone l M (T ++ [((k : Int), d, e)]) dep) (hnew : ((k : Int), d, e) ∉ M) (h8 : d ≤ 8) (h4 : e ≤ 4) {i : Ins} (hi : l[k]? = some i) (hdep : ¬ (0 ≤ dep.getD k (-1) ∧ dep.getD k (-1) ≠ d)) (ht : (takes i.1 : Int) ≤ d) :
    Gone l (((k : Int), d, e) :: M) (T ++ (Vm.next l k i).map (lead k d e i)) (dep.set k d) := by
  obtain ⟨a1, a2, a3, a4, a5⟩ := h.at
  have hlt : k < l.length := (List.getElem?_eq_some_iff.1 hi).1
  have hok : okP l.length ((k : Int), d, e) := ⟨by simp, by simpa using a1, a2, h8, a4, h4⟩
  have hlv : (leaves i.1 : Int) ≤ 2 := by unfold leaves; repeat' split
                                          all_goals decide
  have hp : (0 : Int) ≤ (if i.1 = 14 then 1 else 0) ∧ (if i.1 = 14 then 1 else 0) ≤ (1 : Int) := by split <;> decide
  refine ⟨by rw [List.length_set]; exact h.len, fun y hy => ?_, fun y hy => ?_, ?_, ?_, mem_on h.zero, fun k' d' e' hm hk' => ?_, fun k' h0 => ?_, fun k' d' e' i' hm hi' => ?_, fun k' d' e' i' hm hi' a ha => ?_, fun c hc k' d' e' hm => ?_⟩
  · rcases List.mem_cons.1 hy with e1 | e1
    · exact e1 ▸ hok
    · exact h.okM y e1
  · rcases List.mem_append.1 hy with e1 | e1
    · exact h.okT y (List.mem_append_left _ e1)
    · obtain ⟨a, ha, rfl⟩ := List.mem_map.1 e1
      have := next_le' hlt a ha
      unfold lead
      simp only
      omega
  · have := free_cons hn h.okM hok hnew
    have := h.fr
    rw [List.length_cons]
    omega
  · have := h.tl
    have := next_len2 l k i
    simp only [List.length_append, List.length_map, List.length_cons, List.length_nil] at *
    omega
  · rw [getD_set]
    rcases List.mem_cons.1 hm with e1 | e1
    · simp only [Prod.mk.injEq] at e1
      obtain ⟨e2, rfl, rfl⟩ := e1
      rw [if_pos ⟨by omega, by rw [h.len]; exact hlt⟩]
    · have h1 := h.one k' d' e' e1 hk'
      split
      · rename_i hq
        obtain ⟨rfl, _⟩ := hq
        have := h.okM _ e1
        unfold okP at this
        simp only at this
        have hne : ¬ dep.getD k' (-1) ≠ d := fun q => hdep ⟨by omega, q⟩
        rw [← h1]
        exact (Classical.not_not.1 hne).symm
      · exact h1
  · rw [getD_set] at h0 ⊢
    by_cases hq : k' = k ∧ k < dep.length
    · rw [if_pos hq]
      exact ⟨e, by rw [hq.1]; exact List.mem_cons_self ..⟩
    · rw [if_neg hq] at h0 ⊢
      obtain ⟨e', hm⟩ := h.dm k' h0
      exact ⟨e', List.mem_cons_of_mem _ hm⟩
  · rcases List.mem_cons.1 hm with e1 | e1
    · simp only [Prod.mk.injEq] at e1
      obtain ⟨e2, rfl, rfl⟩ := e1
      obtain rfl : k' = k := by omega
      rw [hi] at hi'
      cases hi'
      exact ht
    · exact h.enough k' d' e' i' e1 hi'
  · rcases List.mem_cons.1 hm with e1 | e1
    · simp only [Prod.mk.injEq] at e1
      obtain ⟨e2, rfl, rfl⟩ := e1
      obtain rfl : k' = k := by omega
      rw [hi] at hi'
      cases hi'
      exact .inr (List.mem_append_right _ (List.mem_map.2 ⟨a, ha, rfl⟩))
    · exact mem_on (h.next k' d' e' i' e1 hi' a ha)
  · rcases hm with hm | hm
    · rcases List.mem_cons.1 hm with e1 | e1
      · exact h.snd c hc k' d' e' (.inr (List.mem_append_right _ (List.mem_singleton.2 e1)))
      · exact h.snd c hc k' d' e' (.inl e1)
    · rcases List.mem_append.1 hm with e1 | e1
      · exact h.snd c hc k' d' e' (.inr (List.mem_append_left _ e1))
      · obtain ⟨a, ha, e2⟩ := List.mem_map.1 e1
        unfold lead at e2
        simp only [Prod.mk.injEq] at e2
        obtain ⟨e3, rfl, rfl⟩ := e2
        obtain rfl : a = k' := by omega
        exact snd_next hc (h.snd c hc k d e (.inr (List.mem_append_right _ (List.mem_singleton.2 rfl)))) hi a ha
theorem Gone.fin (hf : Co.fitsI l = true) (h : Gone l M [] dep) : safe l = true := by
  have hin : ∀ {y : Plc}, y ∈ M ∨ y ∈ ([] : List Plc) → y ∈ M := fun hy => hy.elim id fun q => by cases q
  refine safe_of_closed hf (M := fun k d e => ((k : Int), d, e) ∈ M) ⟨?_, fun k d e hm => ?_, fun k d e d' e' h1 h2 hk => ?_, fun k d e i hm hi => h.enough k d e i hm hi, fun k d e i hm hi a ha => hin (h.next k d e i hm hi a ha)⟩
  · exact hin h.zero
  · have := h.okM _ hm
    unfold okP at this
    simp only at this
    omega
  · exact (h.one k d e h1 hk).symm.trans (h.one k d' e' h2 hk)
end
end Vm

/-! A program that was trimmed: plain laws. -/
namespace Vm
set_option linter.unusedSimpArgs false
set_option linter.unusedVariables false
open Ga

def livesL : List Ins → List Int → List Bool
  | i :: l, d :: ds => (decide (d ≠ -1) && (decide (i.1 ≠ 16) || decide (0 < ((livesL l ds).take i.2.toNat).count true))) :: livesL l ds
  | _, _ => []
def trimOne (i : Ins) (n : Nat) : Ins := if i.1 = 15 ∧ n = 0 then (13, 0) else if i.1 = 15 ∨ i.1 = 16 then (i.1, (n : Int)) else i
def trimL : List Ins → List Bool → List Ins
  | i :: l, b :: st => if b = true then trimOne i ((st.take i.2.toNat).count true) :: trimL l st else trimL l st
  | _, _ => []
def pos (st : List Bool) (k : Nat) : Nat := (st.take k).count true
theorem lives_len : ∀ (p : List Ins) (ds : List Int), ds.length = p.length → (livesL p ds).length = p.length
  | [], [], _ => rfl
  | [], d :: ds, h => by cases h
  | i :: l, [], h => by cases h
  | i :: l, d :: ds, h => by
    rw [livesL, List.length_cons, lives_len l ds (by simpa using h), List.length_cons]
theorem pos_zero (st : List Bool) : pos st 0 = 0 := rfl
theorem pos_cons (b : Bool) (st : List Bool) (k : Nat) : pos (b :: st) (k + 1) = (if b = true then 1 else 0) + pos st k := by
  unfold pos
  rw [List.take_succ_cons, List.count_cons]
  cases b <;> simp
  omega
theorem pos_succ : ∀ (st : List Bool) (k : Nat), pos st (k + 1) = pos st k + if st.getD k false = true then 1 else 0
  | [], k => by simp [pos]
  | b :: st, 0 => by rw [pos_cons, pos_zero, pos_zero]; cases b <;> rfl
  | b :: st, k + 1 => by
    rw [pos_cons, pos_cons, pos_succ st k, List.getD_cons_succ]; omega
theorem pos_mono (st : List Bool) (k : Nat) : ∀ n, pos st k ≤ pos st (k + n)
  | 0 => Nat.le_refl _
  | n + 1 => by
    have := pos_succ st (k + n)
    have := pos_mono st k n
    have e : k + (n + 1) = k + n + 1 := rfl
    rw [e]; omega
theorem pos_all {st : List Bool} {k : Nat} (h : st.length ≤ k) : pos st k = st.count true := by
  unfold pos; rw [List.take_of_length_le h]
theorem over_eq (st : List Bool) (j n : Nat) : ((st.drop j).take n).count true = pos st (j + n) - pos st j := by
  unfold pos
  rw [List.take_add, List.count_append]; omega
theorem trim_len : ∀ (p : List Ins) (st : List Bool), st.length = p.length → (trimL p st).length = st.count true
  | [], [], _ => rfl
  | [], b :: st, h => by cases h
  | i :: l, [], h => by cases h
  | i :: l, b :: st, h => by
    have := trim_len l st (by simpa using h)
    rw [trimL]
    cases b <;> simp [this]
theorem lives_at : ∀ (p : List Ins) (ds : List Int) (k : Nat) (i : Ins), ds.length = p.length → p[k]? = some i → (livesL p ds).getD k false = (decide (ds.getD k (-1) ≠ -1) && (decide (i.1 ≠ 16) || decide (0 < ((((livesL p ds).drop (k + 1)).take i.2.toNat).count true))))
  | [], ds, k, i, _, h => by simp at h
  | j :: l, [], k, i, h, _ => by cases h
  | j :: l, d :: ds, 0, i, h, hi => by
    rw [List.getElem?_cons_zero] at hi
    cases hi
    rw [livesL]; rfl
  | j :: l, d :: ds, k + 1, i, h, hi => by
    rw [List.getElem?_cons_succ] at hi
    rw [livesL, List.getD_cons_succ, List.getD_cons_succ, List.drop_succ_cons]
    exact lives_at l ds k i (by simpa using h) hi

/-! ### the ways of the whole, and of what is left -/
theorem goC_len {p : List Ins} {c : Cst} : ∀ (l : List Ins) (k : Nat) (s : Cst), goC p l k s = some c → c.depth.length = s.depth.length
  | [], k, s, h => by cases h; rfl
  | i :: l, k, s, h => by
    rw [goC] at h
    split at h
    · split at h
      · exact (goC_len l _ _ h).trans (stepC_len ..)
      · cases h
    · exact goC_len l _ _ h
theorem checkC_len {p : List Ins} {c : Cst} (h : checkC p = some c) : c.depth.length = p.length := by
  unfold checkC at h
  split at h
  · exact (goC_len p 0 _ h).trans (start_len _)
  · cases h
section
variable {p : List Ins} {c : Cst}
theorem stay_known (hc : checkC p = some c) {k : Nat} {i : Ins} (hi : p[k]? = some i) (hd : c.depth.getD k (-1) ≠ -1) (hs : (livesL p c.depth).getD k false ≠ true) : i.1 = 16 ∧ pos (livesL p c.depth) (k + 1 + i.2.toNat) = pos (livesL p c.depth) (k + 1) := by
  have hl : c.depth.length = p.length := checkC_len hc
  have h := lives_at p c.depth k i hl hi
  rw [over_eq] at h
  have hm := pos_mono (livesL p c.depth) (k + 1) i.2.toNat
  rw [h] at hs
  simp only [Bool.and_eq_true, Bool.or_eq_true, decide_eq_true_eq, ne_eq, not_and, not_or] at hs
  have := hs hd
  omega
theorem stay_off {k : Nat} (hs : (livesL p c.depth).getD k false ≠ true) : pos (livesL p c.depth) (k + 1) = pos (livesL p c.depth) k := by
  rw [pos_succ, if_neg hs]; rfl
/-- where a way leads, past jumps that are left out -/
theorem resolve (hc : checkC p = some c) : ∀ (m k : Nat) (d e : Int), p.length - k ≤ m → Snd p c k d e → pos (livesL p c.depth) k < (trimL p (livesL p c.depth)).length → ∃ k2, (livesL p c.depth).getD k2 false = true ∧ pos (livesL p c.depth) k2 = pos (livesL p c.depth) k ∧ Snd p c k2 d e
  | m, k, d, e, hm, hs, hp => by
    have hl : c.depth.length = p.length := checkC_len hc
    have hlv := lives_len p c.depth hl
    rw [trim_len p _ hlv] at hp
    have hk : k < p.length := by
      rcases Nat.lt_or_ge k p.length with x | x
      · exact x
      · rw [pos_all (by omega)] at hp; omega
    by_cases hst : (livesL p c.depth).getD k false = true
    · exact ⟨k, hst, rfl, hs⟩
    · cases m with
      | zero => omega
      | succ m =>
        obtain ⟨h1, h2, h3⟩ := hs.2.2.2.2 hk
        have hi : p[k]? = some p[k] := List.getElem?_eq_getElem hk
        obtain ⟨h16, hj⟩ := stay_known hc hi (by omega) hst
        have hn : min (k + 1 + p[k].2.toNat) p.length ∈ next p k p[k] := by
          unfold next
          rw [if_neg (by omega), if_pos h16]
          exact List.mem_singleton.2 rfl
        have hs2 := snd_next hc hs hi _ hn
        have ht : takes p[k].1 = 0 := by rw [h16]; rfl
        have hv : leaves p[k].1 = 0 := by rw [h16]; rfl
        rw [ht, hv, if_neg (by omega)] at hs2
        rw [show d - ((0 : Nat) : Int) + ((0 : Nat) : Int) = d by omega, Int.add_zero] at hs2
        have hpe : pos (livesL p c.depth) (min (k + 1 + p[k].2.toNat) p.length) = pos (livesL p c.depth) k := by
          rcases Nat.le_total (k + 1 + p[k].2.toNat) p.length with x | x
          · rw [Nat.min_eq_left x, hj, stay_off hst]
          · rw [Nat.min_eq_right x, pos_all (by omega), ← pos_all (k := k + 1 + p[k].2.toNat) (by omega), hj, stay_off hst]
        obtain ⟨k2, q1, q2, q3⟩ := resolve hc m _ d e (by omega) hs2 (by rw [trim_len p _ hlv, hpe]; exact hp)
        exact ⟨k2, q1, q2.trans hpe, q3⟩
theorem next_other (p : List Ins) (k : Nat) (i : Ins) (h0 : i.1 ≠ 0) (h15 : i.1 ≠ 15) (h16 : i.1 ≠ 16) : next p k i = [k + 1] := by
  unfold next; rw [if_neg h0, if_neg h16, if_neg h15]
theorem next_halt (p : List Ins) (k : Nat) (i : Ins) (h0 : i.1 = 0) : next p k i = [] := by
  unfold next; rw [if_pos h0]
theorem next_jump (p : List Ins) (k : Nat) (i : Ins) (h : i.1 = 16) : next p k i = [min (k + 1 + i.2.toNat) p.length] := by
  unfold next; rw [if_neg (by omega), if_pos h]
theorem next_jz (p : List Ins) (k : Nat) (i : Ins) (h : i.1 = 15) : next p k i = [k + 1, min (k + 1 + i.2.toNat) p.length] := by
  unfold next; rw [if_neg (by omega), if_neg (by omega), if_pos h]
/-! ### and they run alike -/
end
end Vm
