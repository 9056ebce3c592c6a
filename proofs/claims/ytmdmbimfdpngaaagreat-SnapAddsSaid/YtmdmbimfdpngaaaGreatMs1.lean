import Derived.Test.YtmdmbimfdpngaaaGreatMs0
import Derived.Orders
import Derived.Tactics
import Derived.KernelRfl
/-! A region that draws its order, whose operations but the last ones make new memory at most: what each operation leaves is said once, in whatever world that has grown; no order is gone through. -/
namespace Go
set_option linter.unusedSimpArgs false
set_option linter.unusedVariables false

/-- What an operation leaves in its temporary: a value that is written out, or any that has a property which growing does not take away. -/
inductive Fact where
  | val (c : Value)
  | of (p : Value → World → Prop) (st : ∀ v w w', p v w → Grew w w' → p v w')
  | new (s : Nat) (c : Array Value) (t : TypeId)

/-- A new block of its own. -/
def IsNew (s : Nat) (c : Array Value) (t : TypeId) (v : Value) (w : World) : Prop := ∃ b, v = .pointer (some ⟨b, 0, none⟩) ∧ w.heap[b]? = some (.cells c t) ∧ s ≤ b

def Fact.holds : Fact → Value → World → Prop
  | .val c, v, _ => v = c
  | .of p _, v, w => p v w
  | .new s c t, v, w => IsNew s c t v w
/-- .. and what is asked of the operation: the block was not there before. -/
def Fact.post : Fact → World → Value → World → Prop
  | .val c, _, v, _ => v = c
  | .of p _, _, v, w => p v w
  | .new s c t, w0, v, w => ∃ b, v = .pointer (some ⟨b, 0, none⟩) ∧ w.heap[b]? = some (.cells c t) ∧ s ≤ b ∧ w0.heap.size ≤ b
theorem Fact.post_holds {f : Fact} {w0 w : World} {v : Value} (h : f.post w0 v w) : f.holds v w := by
  cases f with
  | val c => exact h
  | of p st => exact h
  | new s c t => obtain ⟨b, h1, h2, h3, _⟩ := h; exact ⟨b, h1, h2, h3⟩
theorem Fact.grew {f : Fact} {v : Value} {w w' : World} (h : f.holds v w) (g : Grew w w') : f.holds v w' := by
  cases f with
  | val c => exact h
  | of p st => exact st v w w' h g
  | new s c t =>
    obtain ⟨b, h1, h2, h3⟩ := h
    refine ⟨b, h1, ?_, h3⟩
    rw [g.below.block b (Array.getElem?_eq_some_iff.1 h2).1]; exact h2

/-- The value as far as it is written out. -/
def Fact.at : Fact → Value → Value
  | .val c, _ => c
  | .of _ _, v => v
  | .new _ _ _, v => v
theorem Fact.at_eq {f : Fact} {v : Value} {w : World} (h : f.holds v w) : f.at v = v := by
  cases f with
  | val c => exact h.symm
  | of p st => rfl
  | new s c t => rfl
/-- What is left to be said of the value. -/
def Fact.more : Fact → Value → World → Prop
  | .val _, _, _ => True
  | .of p _, v, w => p v w
  | .new s c t, v, w => IsNew s c t v w
theorem Fact.more_of {f : Fact} {v : Value} {w : World} (h : f.holds v w) : f.more v w := by
  cases f with
  | val c => trivial
  | of p st => exact h
  | new s c t => exact h

def Fact.isNew : Fact → Bool
  | .new _ _ _ => true
  | _ => false

/-- The operations that one waits for, by their numbers. -/
def Oper.deps (o : Oper) : List Nat := (o.after.toList.filter (Region.binds .any)).map (·.on)

def Region.dstOf (ops : Array Oper) (i : Nat) : Option Tmp := (ops[i]?).bind (·.dst)

/-- The frame with what the operations 'l' left. -/
def putFacts (ops : Array Oper) (F : List Fact) (u : Nat → Value) : List Nat → Act → Act
  | [], a => a
  | i :: l, a => putFacts ops F u l (match F[i]? with | some f => a.put (Region.dstOf ops i) (f.at (u i)) | none => a)
def moreFacts (F : List Fact) (u : Nat → Value) (w : World) : List Nat → Prop
  | [] => True
  | i :: l => (match F[i]? with | some f => f.more (u i) w | none => True) ∧ moreFacts F u w l

def ObPost (Q : Exit → Act → World → Prop) (w : World) (ds : List Deferred) (d : Option Tmp) (f : Fact) : Exit → Act → World → Prop
  | .normal, a', w' => Grew w w' ∧ a'.defers = ds ∧ ∃ t v, d = some t ∧ a'.tmps.toList[t]? = some v ∧ f.post w v w'
  | .outgrown, _, _ => LetsOut Q
  | _, _, _ => False

/-- The obligation of one operation. -/
def Ob (P : Program) (ops : Array Oper) (Q : Exit → Act → World → Prop) (w0 : World) (a0 : Act) (F : List Fact) (o : Oper) (f : Fact) : Prop :=
  ∀ (w : World) (u : Nat → Value), Grew w0 w → moreFacts F u w o.deps → wpList P ops (ObPost Q w a0.defers o.dst f) [o] (putFacts ops F u o.deps a0) w

def Obs (P : Program) (ops : Array Oper) (Q : Exit → Act → World → Prop) (w0 : World) (a0 : Act) (F : List Fact) : List Oper → List Fact → Prop
  | o :: os, f :: fs => Ob P ops Q w0 a0 F o f ∧ Obs P ops Q w0 a0 F os fs
  | _, _ => True

/-- New blocks are apart. -/
def apartFacts (F : List Fact) (u : Nat → Value) : List Nat → Prop
  | [] => True
  | i :: l => ((F[i]?.map Fact.isNew) = some true → ∀ j ∈ l, (F[j]?.map Fact.isNew) = some true → u i ≠ u j) ∧ apartFacts F u l

/-- The form that is asked of the region: no two of the first m operations write one temporary; what each looks at is left by one that it waits for, or by none; the others wait for all ahead of them. -/
def Region.factsOk (ops : Array Oper) (m : Nat) : Bool :=
  decide (m ≤ ops.size) && Region.noSelect ops &&
  ((List.range m).all fun i => match ops[i]? with
    | none => false
    | some o => o.dst.isSome && (o.deps.all fun j => decide (j < i)) && ((List.range m).all fun j => match Region.dstOf ops j with
        | none => false
        | some d => (j == i || o.dst != some d) && (o.deps.contains j || !(o.looksAt ops).contains d))) &&
  ((List.range ops.size).all fun k => decide (k < m) || match ops[k]? with
    | none => false
    | some o => (o.deps.all fun j => decide (j < k)) && (List.range k).all fun j => o.deps.contains j || (List.range k).any fun i => decide (j < i) && match ops[i]? with
        | none => false
        | some oi => oi.deps.contains j)

section
variable {P : Program} {ops : Array Oper} {Q : Exit → Act → World → Prop}

theorem putFacts_defers (F : List Fact) (u : Nat → Value) : ∀ (l : List Nat) (a : Act), (putFacts ops F u l a).defers = a.defers := by
  intro l
  induction l with
  | nil => intro a; rfl
  | cons i l ih =>
    intro a
    rw [putFacts, ih]
    cases F[i]? with
    | none => rfl
    | some f => cases Region.dstOf ops i <;> rfl

theorem put_size (a : Act) (d : Option Tmp) (v : Value) : (a.put d v).tmps.size = a.tmps.size := by cases d <;> simp [Act.put]
theorem put_get_ne (a : Act) (d : Option Tmp) (v : Value) (t : Nat) (h : d ≠ some t) : (a.put d v).tmps[t]? = a.tmps[t]? := by
  cases d with
  | none => rfl
  | some x => simp only [Act.put]; rw [Array.getElem?_setIfInBounds_ne]; intro e; exact h (by rw [e])
theorem put_get_eq (a : Act) (t : Nat) (v : Value) (h : t < a.tmps.size) : (a.put (some t) v).tmps[t]? = some v := by
  simp [Act.put, Array.getElem?_setIfInBounds, h]

/-- A temporary that none of them writes. -/
theorem putFacts_other (F : List Fact) (u : Nat → Value) (t : Nat) : ∀ (l : List Nat) (a : Act), (∀ i ∈ l, Region.dstOf ops i ≠ some t) → (putFacts ops F u l a).tmps[t]? = a.tmps[t]? := by
  intro l
  induction l with
  | nil => intro a _; rfl
  | cons i l ih =>
    intro a h
    rw [putFacts, ih _ fun j hj => h j (List.mem_cons_of_mem _ hj)]
    cases F[i]? with
    | none => rfl
    | some f => exact put_get_ne _ _ _ _ (h i List.mem_cons_self)

/-- A temporary that one of them writes, and no other. -/
theorem putFacts_one (F : List Fact) (u : Nat → Value) (t j : Nat) (f : Fact) (hf : F[j]? = some f) (hd : Region.dstOf ops j = some t) : ∀ (l : List Nat) (a : Act), j ∈ l → (∀ i ∈ l, i ≠ j → Region.dstOf ops i ≠ some t) → t < a.tmps.size →
    (putFacts ops F u l a).tmps[t]? = some (f.at (u j)) := by
  intro l
  induction l with
  | nil => intro a h; cases h
  | cons i l ih =>
    intro a hj h ht
    rw [putFacts]
    have hsz : (match F[i]? with | some f => a.put (Region.dstOf ops i) (f.at (u i)) | none => a).tmps.size = a.tmps.size := by
      cases F[i]? with
      | none => rfl
      | some f => exact put_size ..
    by_cases hl : j ∈ l
    · exact ih _ hl (fun k hk => h k (List.mem_cons_of_mem _ hk)) (by rw [hsz]; exact ht)
    · have hij : i = j := ((List.mem_cons.1 hj).resolve_right hl).symm
      subst hij
      rw [putFacts_other F u t l _ fun k hk => h k (List.mem_cons_of_mem _ hk) fun e => hl (e ▸ hk), hf, hd]
      exact put_get_eq _ _ _ ht

/-- Where the schedule stands: what has come up so far. -/
structure Stand (ops : Array Oper) (m : Nat) (F : List Fact) (w0 : World) (a0 : Act) (listed : Array Bool) (a : Act) (w : World) : Prop where
  grew : Grew w0 w
  defers : a.defers = a0.defers
  size : a.tmps.size = a0.tmps.size
  other : ∀ t, (∀ i, i < m → Region.dstOf ops i ≠ some t) → a.tmps[t]? = a0.tmps[t]?
  facts : ∀ (i : Nat) (f : Fact) (t : Nat), listed.getD i false = true → F[i]? = some f → Region.dstOf ops i = some t → ∃ v, a.tmps[t]? = some v ∧ f.holds v w
  apart : ∀ (i j t t' : Nat), i ≠ j → listed.getD i false = true → listed.getD j false = true → F[i]?.map Fact.isNew = some true → F[j]?.map Fact.isNew = some true → Region.dstOf ops i = some t → Region.dstOf ops j = some t' → a.tmps[t]? ≠ a.tmps[t']?
  closed : ∀ (i : Nat) (o : Oper) (j : Nat), ops[i]? = some o → listed.getD i false = true → j ∈ o.deps → listed.getD j false = true

theorem Obs.at {w0 : World} {a0 : Act} {F : List Fact} : ∀ (os : List Oper) (fs : List Fact), Obs P ops Q w0 a0 F os fs → ∀ (i : Nat) (o : Oper) (f : Fact), os[i]? = some o → fs[i]? = some f → Ob P ops Q w0 a0 F o f
  | [], _, _, i, o, f, ho, _ => by simp at ho
  | _ :: _, [], _, i, o, f, _, hf => by simp at hf
  | o' :: os, f' :: fs, h, 0, o, f, ho, hf => by simp at ho hf; subst ho hf; exact h.1
  | o' :: os, f' :: fs, h, i + 1, o, f, ho, hf => Obs.at os fs h.2 i o f (by simpa using ho) (by simpa using hf)

theorem wpOne_to_wpOp {i : Nat} {o : Oper} {a b : Act} {w : World} {f : Fact} (hi : ops[i]? = some o) (hd : b.defers = a.defers)
    (he : execOp b.eval o = execOp a.eval o) (hw : Region.wanted o (yielded ops b.tmps) = Region.wanted o (yielded ops a.tmps))
    (h : wpList P ops (ObPost Q w b.defers o.dst f) [o] b w) : wpOp P ops Q i (fun a' w' => Grew w w' ∧ ∃ v, a' = a.put o.dst v ∧ (∀ t, o.dst = some t → f.post w v w')) a w := by
  unfold wpOp
  simp only [hi]
  unfold wpList at h
  rw [hw] at h
  have conv : ∀ (v : Value) (w' : World), wpList P ops (ObPost Q w b.defers o.dst f) [] (b.put o.dst v) w' → Grew w w' ∧ ∃ v', a.put o.dst v = a.put o.dst v' ∧ (∀ t, o.dst = some t → f.post w v' w') := by
    rintro v w' ⟨hg, _, t, v', ht, hv, hf⟩
    refine ⟨hg, v, rfl, fun _ _ => ?_⟩
    rw [ht, Array.getElem?_toList] at hv
    simp only [Act.put, Array.getElem?_setIfInBounds, if_true] at hv
    split at hv
    · cases hv; exact hf
    · cases hv
  split
  · rename_i hwt
    rw [if_pos hwt] at h
    rcases h with h | ⟨hasks, a1, w1, hlets⟩
    · refine .inl ?_
      unfold Oper.wp at *
      rw [he] at h
      generalize (execOp a.eval o).run P w = r at *
      cases r with
      | ok n w' =>
        cases n <;> simp only [Oper.upon] at h ⊢
        case value v => exact conv v w' h
        case skip => exact conv _ w' h
        case defer d =>
          obtain ⟨_, hdf, _⟩ := h
          exfalso
          have h1 : (({ b with defers := d :: b.defers } : Act).put o.dst undef).defers = d :: b.defers := by cases o.dst <;> rfl
          rw [h1] at hdf
          have := congrArg List.length hdf
          simp at this
        case enter g args =>
          refine Calls.mono h fun e w'' he' => ?_
          cases e with
          | returned v => exact conv v w'' he'
          | panicked c => exact he'.elim
          | outgrown => obtain ⟨_, _, h2⟩ := he'; exact h2
        case row row args => exact Rows.mono h fun v w'' hv => conv v w'' hv
      | halt x w' =>
        cases x <;> simp only [Oper.upon] at h ⊢
        case panic v => exact h.elim
    · exact .inr ⟨by unfold Oper.asks at *; rw [he] at hasks; exact hasks, hlets⟩
  · rename_i hwt
    rw [if_neg hwt] at h
    exact conv _ w h

theorem dstOf_some {i : Nat} {o : Oper} (h : ops[i]? = some o) : Region.dstOf ops i = o.dst := by simp [Region.dstOf, h]

theorem getD_tf {l : Array Bool} {i : Nat} (h : i < l.size) : l.getD i true = l.getD i false := by simp [h]

structure Okay (ops : Array Oper) (m : Nat) : Prop where
  le : m ≤ ops.size
  sel : ∀ (j : Nat) (o : Oper) (cs : Array SelectCase) (b : Bool), ops[j]? = some o → o.op ≠ .select cs b
  dst : ∀ i, i < m → ∃ (o : Oper) (t : Nat), ops[i]? = some o ∧ o.dst = some t
  depsLt : ∀ (i : Nat) (o : Oper), ops[i]? = some o → ∀ j ∈ o.deps, j < i
  one : ∀ i j t, i < m → j < m → Region.dstOf ops i = some t → Region.dstOf ops j = some t → i = j
  looks : ∀ (i j : Nat) (o : Oper) (t : Nat), i < m → j < m → ops[i]? = some o → Region.dstOf ops j = some t → t ∈ o.looksAt ops → j ∈ o.deps
  tail : ∀ (k : Nat) (o : Oper) (j : Nat), m ≤ k → ops[k]? = some o → j < k → j ∈ o.deps ∨ ∃ i oi, j < i ∧ i < k ∧ ops[i]? = some oi ∧ j ∈ oi.deps

theorem okay_of {m : Nat} (h : Region.factsOk ops m = true) : Okay ops m := by
  unfold Region.factsOk at h
  simp only [Bool.and_eq_true, decide_eq_true_eq, List.all_eq_true, List.mem_range, Bool.or_eq_true] at h
  obtain ⟨⟨⟨h1, h2⟩, h3⟩, h4⟩ := h
  have h3' : ∀ i, i < m → ∃ o t, ops[i]? = some o ∧ o.dst = some t ∧ (∀ j ∈ o.deps, j < i) ∧ ∀ j, j < m → ∃ d, Region.dstOf ops j = some d ∧ (j = i ∨ o.dst ≠ some d) ∧ (j ∈ o.deps ∨ d ∉ o.looksAt ops) := by
    intro i hi
    have := h3 i hi
    cases ho : ops[i]? with
    | none => rw [ho] at this; simp at this
    | some o =>
      rw [ho] at this
      simp only [Bool.and_eq_true, List.all_eq_true, decide_eq_true_eq, List.mem_range] at this
      obtain ⟨⟨hs, hl⟩, hj⟩ := this
      obtain ⟨t, ht⟩ := Option.isSome_iff_exists.1 hs
      refine ⟨o, t, rfl, ht, hl, fun j hjm => ?_⟩
      have := hj j hjm
      cases hd : Region.dstOf ops j with
      | none => rw [hd] at this; simp at this
      | some d =>
        rw [hd] at this
        simp only [Bool.and_eq_true, Bool.or_eq_true, beq_iff_eq, bne_iff_ne, List.contains_iff_mem, Bool.not_eq_true', List.contains_eq_mem, decide_eq_true_eq, decide_eq_false_iff_not] at this
        exact ⟨d, rfl, this.1, this.2⟩
  have h4' : ∀ k, k < ops.size → ¬ k < m → ∃ o, ops[k]? = some o ∧ (∀ j ∈ o.deps, j < k) ∧ ∀ j, j < k → j ∈ o.deps ∨ ∃ i oi, j < i ∧ i < k ∧ ops[i]? = some oi ∧ j ∈ oi.deps := by
    intro k hk hm
    have := (h4 k hk).resolve_left hm
    cases ho : ops[k]? with
    | none => rw [ho] at this; simp at this
    | some o =>
      rw [ho] at this
      simp only [Bool.and_eq_true, Bool.or_eq_true, List.all_eq_true, List.any_eq_true, decide_eq_true_eq, List.mem_range, List.contains_eq_mem] at this
      refine ⟨o, rfl, this.1, fun j hj => ?_⟩
      rcases this.2 j hj with h | ⟨i, hi, hji, h⟩
      · exact .inl h
      · cases hoi : ops[i]? with
        | none => rw [hoi] at h; simp at h
        | some oi =>
          rw [hoi] at h
          exact .inr ⟨i, oi, hji, hi, hoi, by simpa using h⟩
  refine ⟨h1, Region.noSelect_spec h2, fun i hi => ?_, fun i o ho j hj => ?_, fun i j t hi hj h5 h6 => ?_, fun i j o t hi hj ho hd ht => ?_, fun k o j hk ho hj => ?_⟩
  · obtain ⟨o, t, ho, ht, _⟩ := h3' i hi; exact ⟨o, t, ho, ht⟩
  · by_cases him : i < m
    · obtain ⟨o', t, ho', _, hl, _⟩ := h3' i him
      rw [ho] at ho'; cases ho'; exact hl j hj
    · obtain ⟨o', ho', hl, _⟩ := h4' i (Array.getElem?_eq_some_iff.1 ho).1 him
      rw [ho] at ho'; cases ho'; exact hl j hj
  · obtain ⟨o, t', ho, ht, _, hall⟩ := h3' i hi
    obtain ⟨d, hd, hne, _⟩ := hall j hj
    rw [h6] at hd; cases hd
    rw [Region.dstOf, ho] at h5
    exact (hne.resolve_right fun hn => hn h5).symm
  · obtain ⟨o', t', ho', _, _, hall⟩ := h3' i hi
    rw [ho] at ho'; cases ho'
    obtain ⟨d, hd', _, hl⟩ := hall j hj
    rw [hd] at hd'; cases hd'
    exact hl.resolve_right fun hn => hn ht
  · obtain ⟨o', ho', _, hl⟩ := h4' k (Array.getElem?_eq_some_iff.1 ho).1 (by omega)
    rw [ho] at ho'; cases ho'; exact hl j hj

theorem wanted_congr {o : Oper} {a b : Act} (h : ∀ t ∈ o.looksAt ops, b.tmps[t]? = a.tmps[t]?) : Region.wanted o (yielded ops b.tmps) = Region.wanted o (yielded ops a.tmps) := by
  unfold Region.wanted
  cases hg : o.guard with
  | none => rfl
  | some gw =>
    obtain ⟨g, want⟩ := gw
    have hy : yielded ops b.tmps g = yielded ops a.tmps g := by
      unfold yielded
      cases ht : (ops[g]?).bind (·.dst) with
      | none => rfl
      | some t =>
        have := h t (by simp [Oper.looksAt, hg, ht])
        simp only [Option.bind_some, this]
    simp only [hy]

theorem exec_congr {o : Oper} {a b : Act} (hs : ∀ cs b, o.op ≠ .select cs b) (h : ∀ t ∈ o.looksAt ops, b.tmps[t]? = a.tmps[t]?) : execOp b.eval o = execOp a.eval o :=
  execOp_congr o hs fun x hx => by
    cases x with
    | tmp t =>
      have := h t (List.mem_append_left _ (List.mem_filterMap.2 ⟨.tmp t, by simpa using hx, rfl⟩))
      simp [Act.eval, this]
    | _ => rfl

/-- The tail goes in its one order. -/
theorem wpAny_tail {m : Nat} (hk : Okay ops m) : ∀ (n k fuel : Nat) (listed : Array Bool) (a : Act) (w : World), k + n = ops.size → m ≤ k → n ≤ fuel → listed.size = ops.size →
    (∀ i, i < k → listed.getD i false = true) → (∀ i, k ≤ i → i < ops.size → listed.getD i true = false) → wpList P ops Q (ops.toList.drop k) a w → wpAny P .any ops Q fuel listed a w := by
  intro n
  induction n with
  | zero =>
    intro k fuel listed a w h1 h2 h3 h4 h5 h6 h
    have hr : Region.ready .any ops listed = [] := by
      apply List.eq_nil_iff_forall_not_mem.2
      intro i hi
      obtain ⟨h7, o, ho, _⟩ := mem_ready.1 hi
      have hlt := (Array.getElem?_eq_some_iff.1 ho).1
      have h8 := h5 i (by omega)
      rw [getD_tf (by omega), h8] at h7; cases h7
    refine wpAny_done hr ?_ fuel
    rw [List.drop_eq_nil_of_le (by simp; omega)] at h
    exact h
  | succ n ih =>
    intro k fuel listed a w h1 h2 h3 h4 h5 h6 h
    have hkn : k < ops.size := by omega
    have ho : ops[k]? = some ops[k] := Array.getElem?_eq_getElem hkn
    have hready : k ∈ Region.ready .any ops listed := by
      refine mem_ready.2 ⟨h6 k (Nat.le_refl _) hkn, _, ho, fun e he hb => h5 _ ?_⟩
      exact hk.depsLt k _ ho e.on (List.mem_map.2 ⟨e, List.mem_filter.2 ⟨by simpa using he, hb⟩, rfl⟩)
    obtain ⟨f, rfl⟩ : ∃ f, fuel = f + 1 := ⟨fuel - 1, by omega⟩
    refine ⟨fun h0 => (by rw [h0] at hready; cases hready), fun i hi => ?_⟩
    obtain ⟨h7, o, hoi, hall⟩ := mem_ready.1 hi
    have hlt := (Array.getElem?_eq_some_iff.1 hoi).1
    have hik : i = k := by
      rcases Nat.lt_trichotomy i k with hc | hc | hc
      · have h8 := h5 i hc
        rw [getD_tf (by omega), h8] at h7; cases h7
      · exact hc
      · have hd : i - 1 ∈ o.deps := (hk.tail i o (i - 1) (by omega) hoi (by omega)).resolve_right (by rintro ⟨_, _, h8, h9, _⟩; omega)
        obtain ⟨e, he, hek⟩ := List.mem_map.1 hd
        obtain ⟨he1, he2⟩ := List.mem_filter.1 he
        have h8 := hall e (by simpa using he1) he2
        rw [hek] at h8
        have h9 := h6 (i - 1) (by omega) (by omega)
        rw [getD_tf (by omega), h8] at h9; cases h9
    subst hik
    have hcons : ops.toList.drop i = ops[i] :: ops.toList.drop (i + 1) := by
      rw [List.drop_eq_getElem_cons (by simpa using hkn)]; simp
    rw [hcons] at h
    have hstep : ∀ a' w', wpList P ops Q (ops.toList.drop (i + 1)) a' w' → wpAny P .any ops Q f (listed.setIfInBounds i true) a' w' := by
      intro a' w' h'
      refine ih (i + 1) f _ a' w' (by omega) (by omega) (by omega) (by simpa using h4) ?_ ?_ h'
      · intro j hj
        by_cases hji : i = j
        · subst hji; simp [h4, hkn]
        · rw [getD_set_ne _ hji]; exact h5 j (by omega)
      · intro j hj hj'
        rw [getD_set_ne _ (by omega)]; exact h6 j (by omega) hj'
    unfold wpOp
    simp only [ho]
    unfold wpList at h
    split
    · rename_i hw
      rw [if_pos hw] at h
      exact h.imp (Oper.wp_mono hstep) id
    · rename_i hw
      rw [if_neg hw] at h
      exact hstep _ _ h

theorem filter_set_lt {l : Array Bool} {i n : Nat} (hi : i < n) (hn : n ≤ l.size) (h : l.getD i true = false) :
    ((List.range n).filter fun j => !(l.setIfInBounds i true).getD j true).length < ((List.range n).filter fun j => !l.getD j true).length := by
  induction n with
  | zero => omega
  | succ n ih =>
    rw [List.range_succ, List.filter_append, List.filter_append, List.length_append, List.length_append]
    by_cases hin : i = n
    · subst hin
      have h1 : ((List.range i).filter fun j => !(l.setIfInBounds i true).getD j true) = ((List.range i).filter fun j => !l.getD j true) := by
        apply List.filter_congr
        intro j hj
        rw [getD_set_ne _ (by have := List.mem_range.1 hj; omega)]
      rw [h1]
      have h2 : (l.setIfInBounds i true).getD i true = true := by simp
      simp only [List.filter_cons, List.filter_nil, h2, h]
      simp
    · have h2 : (l.setIfInBounds i true).getD n true = l.getD n true := getD_set_ne _ hin
      have := ih (by omega) (by omega)
      simp only [List.filter_cons, List.filter_nil, h2]
      omega

theorem moreFacts_of {F : List Fact} {u : Nat → Value} {w : World} : ∀ (l : List Nat), (∀ i ∈ l, ∀ f, F[i]? = some f → f.more (u i) w) → moreFacts F u w l
  | [], _ => trivial
  | i :: l, h => ⟨by cases hf : F[i]? with
    | none => trivial
    | some f => exact h i List.mem_cons_self f hf, moreFacts_of l fun j hj => h j (List.mem_cons_of_mem _ hj)⟩

theorem apartFacts_of {F : List Fact} {u : Nat → Value} : ∀ (l : List Nat), l.Nodup → (∀ i ∈ l, ∀ j ∈ l, i ≠ j → F[i]?.map Fact.isNew = some true → F[j]?.map Fact.isNew = some true → u i ≠ u j) → apartFacts F u l
  | [], _, _ => trivial
  | i :: l, hn, h => by
    obtain ⟨h1, h2⟩ := List.nodup_cons.1 hn
    exact ⟨fun hi j hj hfj => h i List.mem_cons_self j (List.mem_cons_of_mem _ hj) (fun e => h1 (e ▸ hj)) hi hfj, apartFacts_of l h2 fun a ha b hb => h a (List.mem_cons_of_mem _ ha) b (List.mem_cons_of_mem _ hb)⟩

theorem wpAny_facts {m : Nat} {w0 : World} {a0 : Act} {F : List Fact} (hk : Okay ops m) (hF : F.length = m)
    (hob : ∀ (i : Nat) (o : Oper) (f : Fact), i < m → ops[i]? = some o → F[i]? = some f → Ob P ops Q w0 a0 F o f)
    (hsz : ∀ i t, i < m → Region.dstOf ops i = some t → t < a0.tmps.size)
    (hend : ∀ (u : Nat → Value) (w : World), Grew w0 w → moreFacts F u w (List.range m) ∧ apartFacts F u (List.range m) → wpList P ops Q (ops.toList.drop m) (putFacts ops F u (List.range m) a0) w) :
    ∀ (fuel : Nat) (listed : Array Bool) (a : Act) (w : World), Stand ops m F w0 a0 listed a w → listed.size = ops.size → (∀ i, m ≤ i → i < ops.size → listed.getD i true = false) →
      ((List.range ops.size).filter (fun i => !listed.getD i true)).length ≤ fuel → wpAny P .any ops Q fuel listed a w := by
  intro fuel
  -- once all of the first m have come up
  have hlast : ∀ (fuel : Nat) (listed : Array Bool) (a : Act) (w : World), Stand ops m F w0 a0 listed a w → listed.size = ops.size → (∀ i, m ≤ i → i < ops.size → listed.getD i true = false) →
      (∀ i, i < m → listed.getD i false = true) → ((List.range ops.size).filter (fun i => !listed.getD i true)).length ≤ fuel → wpAny P .any ops Q fuel listed a w := by
    intro fuel listed a w hs h1 h2 h3 h4
    have hcount : ((List.range ops.size).filter (fun i => !listed.getD i true)).length = ops.size - m := by
      have hr : List.range ops.size = List.range m ++ (List.range (ops.size - m)).map (m + ·) := by
        rw [← List.range_add]; congr 1; have := hk.le; omega
      rw [hr, List.filter_append, List.length_append]
      have e1 : (List.range m).filter (fun i => !listed.getD i true) = [] := by
        apply List.filter_eq_nil_iff.2
        intro j hj
        have hjm := List.mem_range.1 hj
        rw [getD_tf (by have := hk.le; omega), h3 j hjm]; simp
      have e2 : ((List.range (ops.size - m)).map (m + ·)).filter (fun i => !listed.getD i true) = (List.range (ops.size - m)).map (m + ·) := by
        apply List.filter_eq_self.2
        intro j hj
        obtain ⟨k, hk', rfl⟩ := List.mem_map.1 hj
        have := List.mem_range.1 hk'
        rw [h2 (m + k) (by omega) (by omega)]; rfl
      rw [e1, e2]; simp
    refine wpAny_tail hk (ops.size - m) m fuel listed a w (by have := hk.le; omega) (Nat.le_refl _) (by omega) h1 h3 h2 ?_
    have ha : a = putFacts ops F (fun i => match Region.dstOf ops i with | some t => a.tmps.getD t undef | none => undef) (List.range m) a0 := by
      generalize hu : (fun i => match Region.dstOf ops i with | some t => a.tmps.getD t undef | none => undef) = u
      have hd := hs.defers
      have ht : a.tmps = (putFacts ops F u (List.range m) a0).tmps := by
        apply Array.ext_getElem?
        intro t
        by_cases hex : ∃ i, i < m ∧ Region.dstOf ops i = some t
        · obtain ⟨i, him, hit⟩ := hex
          have hFi : i < F.length := by omega
          obtain ⟨v, hv, hfv⟩ := hs.facts i F[i] t (h3 i him) (List.getElem?_eq_getElem hFi) hit
          have huv : u i = v := by rw [← hu]; simp [hit, hv]
          rw [putFacts_one F u t i F[i] (List.getElem?_eq_getElem hFi) hit (List.range m) a0 (List.mem_range.2 him) ?_ (hsz i t him hit), hv, huv, Fact.at_eq hfv]
          intro j hj hji hjt
          exact hji (hk.one j i t (List.mem_range.1 hj) him hjt hit)
        · rw [hs.other t fun i him hit => hex ⟨i, him, hit⟩, putFacts_other F u t (List.range m) a0 fun i hi hit => hex ⟨i, List.mem_range.1 hi, hit⟩]
      have hd' : a.defers = (putFacts ops F u (List.range m) a0).defers := by rw [putFacts_defers, hd]
      cases a; cases hp : putFacts ops F u (List.range m) a0
      rw [hp] at ht hd'
      simp only at ht hd'
      rw [ht, hd']
    rw [ha]
    refine hend _ w hs.grew ⟨moreFacts_of _ ?_, apartFacts_of _ List.nodup_range ?_⟩
    rotate_left
    · intro i hi j hj hij hfi hfj
      have him := List.mem_range.1 hi
      have hjm := List.mem_range.1 hj
      obtain ⟨oi, ti, hoi, hti⟩ := hk.dst i him
      obtain ⟨oj, tj, hoj, htj⟩ := hk.dst j hjm
      have hit : Region.dstOf ops i = some ti := by rw [dstOf_some hoi, hti]
      have hjt : Region.dstOf ops j = some tj := by rw [dstOf_some hoj, htj]
      have hne := hs.apart i j ti tj hij (h3 i him) (h3 j hjm) hfi hfj hit hjt
      obtain ⟨vi, hvi, _⟩ := hs.facts i F[i] ti (h3 i him) (List.getElem?_eq_getElem (by omega)) hit
      obtain ⟨vj, hvj, _⟩ := hs.facts j F[j] tj (h3 j hjm) (List.getElem?_eq_getElem (by omega)) hjt
      intro he
      simp only [hit, hjt] at he
      have e1 : a.tmps.getD ti undef = vi := by simp [hvi]
      have e2 : a.tmps.getD tj undef = vj := by simp [hvj]
      rw [e1, e2] at he
      exact hne (by rw [hvi, hvj, he])
    intro i hi f hf
    have him := List.mem_range.1 hi
    obtain ⟨o, t, ho, ht⟩ := hk.dst i him
    have hit : Region.dstOf ops i = some t := by rw [dstOf_some ho, ht]
    obtain ⟨v, hv, hfv⟩ := hs.facts i f t (h3 i him) hf hit
    have : (match Region.dstOf ops i with | some t => a.tmps.getD t undef | none => undef) = v := by simp [hit, hv]
    rw [this]
    exact Fact.more_of hfv
  induction fuel with
  | zero =>
    intro listed a w hs h1 h2 h4
    refine hlast 0 listed a w hs h1 h2 (fun i hi => ?_) h4
    have hnil := List.eq_nil_of_length_eq_zero (Nat.le_zero.1 h4)
    have h5 := List.filter_eq_nil_iff.1 hnil i (List.mem_range.2 (by have := hk.le; omega))
    have h6 : listed.getD i true = true := by simpa using h5
    rw [← getD_tf (by have := hk.le; omega)]; exact h6
  | succ fuel ih =>
    intro listed a w hs h1 h2 h4
    by_cases hall : ∀ i, i < m → listed.getD i false = true
    · exact hlast (fuel + 1) listed a w hs h1 h2 hall h4
    · -- the least that has not come up is ready
      have hmin : ∀ n, n ≤ m → (∀ j, j < n → listed.getD j false = true) ∨ ∃ i, i < n ∧ listed.getD i false = false ∧ ∀ j, j < i → listed.getD j false = true := by
        intro n
        induction n with
        | zero => intro _; left; intro j hj; omega
        | succ n ihn =>
          intro hn
          rcases ihn (by omega) with h | ⟨i, h5, h6, h7⟩
          · cases hb : listed.getD n false with
            | true => left; intro j hj; by_cases hjn : j = n
                      · rw [hjn]; exact hb
                      · exact h j (by omega)
            | false => exact .inr ⟨n, by omega, hb, h⟩
          · exact .inr ⟨i, by omega, h6, h7⟩
      obtain ⟨i0, hi0, hi0f, hi0l⟩ := (hmin m (Nat.le_refl _)).resolve_left hall
      obtain ⟨o0, t0, ho0, _⟩ := hk.dst i0 hi0
      have hlem := hk.le
      have hready0 : i0 ∈ Region.ready .any ops listed := by
        refine mem_ready.2 ⟨by rw [getD_tf (by omega)]; exact hi0f, o0, ho0, fun e he hb => hi0l _ ?_⟩
        exact hk.depsLt i0 o0 ho0 e.on (List.mem_map.2 ⟨e, List.mem_filter.2 ⟨by simpa using he, hb⟩, rfl⟩)
      refine ⟨fun h0 => (by rw [h0] at hready0; cases hready0), fun i hi => ?_⟩
      obtain ⟨h7, o, ho, hdeps⟩ := mem_ready.1 hi
      have hisz := (Array.getElem?_eq_some_iff.1 ho).1
      have hdone : ∀ j ∈ o.deps, listed.getD j false = true := by
        intro j hj
        obtain ⟨e, he, hej⟩ := List.mem_map.1 hj
        obtain ⟨he1, he2⟩ := List.mem_filter.1 he
        rw [← hej]
        exact hdeps e (by simpa using he1) he2
      have him : i < m := by
        apply Classical.byContradiction
        intro hc
        have hdown : ∀ n j, i - j = n → j < i → listed.getD j false = true := by
          intro n
          induction n using Nat.strongRecOn with
          | _ n ihn =>
            intro j hn hj
            rcases hk.tail i o j (by omega) ho hj with h | ⟨k, ok, hjk, hki, hok, h⟩
            · exact hdone j h
            · exact hs.closed k ok j hok (ihn (i - k) (by omega) k rfl hki) h
        have := hdown _ i0 rfl (by omega)
        rw [hi0f] at this; cases this
      obtain ⟨o', t, ho', ht⟩ := hk.dst i him
      rw [ho] at ho'; cases ho'
      have hFi : i < F.length := by omega
      have hf : F[i]? = some F[i] := List.getElem?_eq_getElem hFi
      -- the values that stand
      generalize hu : (fun j => match Region.dstOf ops j with | some t => a.tmps.getD t undef | none => undef) = u
      have hval : ∀ j ∈ o.deps, ∀ (f : Fact) (t : Nat), F[j]? = some f → Region.dstOf ops j = some t → a.tmps[t]? = some (u j) ∧ f.holds (u j) w := by
        intro j hj f t hf ht
        obtain ⟨v, hv, hfv⟩ := hs.facts j f t (hdone j hj) hf ht
        have : u j = v := by rw [← hu]; simp [ht, hv]
        rw [this]; exact ⟨hv, hfv⟩
      have hagree : ∀ t ∈ o.looksAt ops, (putFacts ops F u o.deps a0).tmps[t]? = a.tmps[t]? := by
        intro t' ht'
        by_cases hex : ∃ j, j < m ∧ Region.dstOf ops j = some t'
        · obtain ⟨j, hjm, hjt⟩ := hex
          have hjd := hk.looks i j o t' him hjm ho hjt ht'
          have hFj : j < F.length := by omega
          obtain ⟨hv, hfv⟩ := hval j hjd F[j] t' (List.getElem?_eq_getElem hFj) hjt
          rw [putFacts_one F u t' j F[j] (List.getElem?_eq_getElem hFj) hjt o.deps a0 hjd ?_ (hsz j t' hjm hjt), hv, Fact.at_eq hfv]
          intro k hkd hkj hkt
          have := hk.depsLt i o ho k hkd
          exact hkj (hk.one k j t' (by omega) hjm hkt hjt)
        · rw [putFacts_other F u t' o.deps a0 fun k hkd hkt => hex ⟨k, by have := hk.depsLt i o ho k hkd; omega, hkt⟩, hs.other t' fun k hkm hkt => hex ⟨k, hkm, hkt⟩]
      have h1' := hob i o F[i] him ho hf w u hs.grew (moreFacts_of _ fun j hj f hfj => by
        have hjm := hk.depsLt i o ho j hj
        obtain ⟨oj, tj, hoj, htj⟩ := hk.dst j (by omega)
        exact Fact.more_of (hval j hj f tj hfj (by rw [dstOf_some hoj, htj])).2)
      have hdef : (putFacts ops F u o.deps a0).defers = a.defers := by rw [putFacts_defers, hs.defers]
      rw [← putFacts_defers (ops := ops) F u o.deps a0] at h1'
      have h2' := wpOne_to_wpOp ho hdef (exec_congr (fun cs b => hk.sel i o cs b ho) hagree) (wanted_congr hagree) h1'
      refine wpOp_mono ?_ h2'
      rintro a' w' ⟨hg, v, rfl, hfv⟩
      refine ih _ _ _ ?_ (by simpa using h1) ?_ ?_
      · refine ⟨hs.grew.trans hg, ?_, ?_, ?_, ?_, ?_, fun j oj k hoj hj hkd => ?_⟩
        rotate_right
        · by_cases hij : i = j
          · subst hij
            rw [ho] at hoj; cases hoj
            have hki := hk.depsLt i o ho k hkd
            rw [getD_set_ne _ (by omega)]
            exact hdone k hkd
          · rw [getD_set_ne _ hij] at hj
            have h9 := hs.closed j oj k hoj hj hkd
            by_cases hik : i = k
            · subst hik
              rw [Array.getD_eq_getD_getElem?, Array.getElem?_setIfInBounds_self_of_lt (by omega)]; rfl
            · rw [getD_set_ne _ hik]; exact h9
        · rw [ht]; exact hs.defers
        · rw [put_size]; exact hs.size
        · intro t' ht'
          rw [put_get_ne _ _ _ _ fun e => ht' i him (by rw [dstOf_some ho]; exact e)]
          exact hs.other t' ht'
        · intro j f t' hj hfj hjt
          by_cases hij : i = j
          · subst hij
            rw [hf] at hfj; cases hfj
            rw [dstOf_some ho, ht] at hjt
            cases hjt
            have hit : Region.dstOf ops i = some t := by rw [dstOf_some ho, ht]
            refine ⟨v, ?_, Fact.post_holds (hfv t ht)⟩
            rw [ht]; exact put_get_eq _ _ _ (by rw [hs.size]; exact hsz i t him hit)
          · rw [getD_set_ne _ hij] at hj
            obtain ⟨v', hv', hfv'⟩ := hs.facts j f t' hj hfj hjt
            refine ⟨v', ?_, Fact.grew hfv' hg⟩
            rw [put_get_ne _ _ _ _ fun e => ?_]
            · exact hv'
            · have hjm : j < m := by
                have : j < F.length := (List.getElem?_eq_some_iff.1 hfj).1
                omega
              exact hij (hk.one i j t' him hjm (by rw [dstOf_some ho]; exact e) hjt)
        · -- the new blocks
          have hit : Region.dstOf ops i = some t := by rw [dstOf_some ho, ht]
          have hthis : (a.put o.dst v).tmps[t]? = some v := by rw [ht]; exact put_get_eq _ _ _ (by rw [hs.size]; exact hsz i t him hit)
          have hother : ∀ j t', j ≠ i → j < m → Region.dstOf ops j = some t' → (a.put o.dst v).tmps[t']? = a.tmps[t']? := fun j t' hji hjm hjt => put_get_ne _ _ _ _ fun e => hji (hk.one j i t' hjm him hjt (by rw [dstOf_some ho]; exact e))
          have hold : ∀ j t', j ≠ i → listed.getD j false = true → F[j]?.map Fact.isNew = some true → Region.dstOf ops j = some t' → F[i]?.map Fact.isNew = some true → (a.put o.dst v).tmps[t']? ≠ some v := by
            intro j t' hji hjl hfj hjt hfi
            have hjm : j < m := by
              cases hfj' : F[j]? with
              | none => rw [hfj'] at hfj; simp at hfj
              | some x => have : j < F.length := (List.getElem?_eq_some_iff.1 hfj').1; omega
            obtain ⟨vj, hvj, hpj⟩ := hs.facts j F[j] t' hjl (List.getElem?_eq_getElem (by omega)) hjt
            have hp := hfv t ht
            rw [hother j t' hji hjm hjt, hvj]
            have hFj : F[j]? = some F[j] := List.getElem?_eq_getElem (by omega)
            rw [hFj] at hfj
            rw [hf] at hfi
            generalize F[j]'(by omega) = fj at hpj hfj
            generalize F[i] = fi at hp hfi
            cases fj <;> simp [Fact.isNew] at hfj
            cases fi <;> simp [Fact.isNew] at hfi
            obtain ⟨b, e1, e2, _⟩ := hpj
            obtain ⟨b', e3, _, _, e4⟩ := hp
            have hb : b < w.heap.size := (Array.getElem?_eq_some_iff.1 e2).1
            rw [e1, e3]
            intro he
            cases he
            omega
          intro x y tx ty hxy hx hy hfx hfy htx hty
          have hxm : ∀ x, F[x]?.map Fact.isNew = some true → x < m := by
            intro x hfx
            cases hfx' : F[x]? with
            | none => rw [hfx'] at hfx; simp at hfx
            | some z => have : x < F.length := (List.getElem?_eq_some_iff.1 hfx').1; omega
          by_cases hxi : x = i
          · subst hxi
            rw [hit] at htx; cases htx
            rw [hthis]
            have hyx : y ≠ x := fun e => hxy e.symm
            rw [getD_set_ne _ (fun e => hxy e)] at hy
            exact fun e => hold y ty hyx hy hfy hty hfx e.symm
          · by_cases hyi : y = i
            · subst hyi
              rw [hit] at hty; cases hty
              rw [hthis]
              rw [getD_set_ne _ (fun e => hxy e.symm)] at hx
              exact hold x tx hxi hx hfx htx hfy
            · rw [getD_set_ne _ (fun e => hxi e.symm)] at hx
              rw [getD_set_ne _ (fun e => hyi e.symm)] at hy
              rw [hother x tx hxi (hxm x hfx) htx, hother y ty hyi (hxm y hfy) hty]
              exact hs.apart x y tx ty hxy hx hy hfx hfy htx hty
      · intro j hj hj'
        rw [getD_set_ne _ (by omega)]; exact h2 j hj hj'
      · have := filter_set_lt (l := listed) (i := i) (n := ops.size) hisz (by omega) h7
        omega

/-- The dsts lie within the frame. -/
def Region.dstsIn (ops : Array Oper) (m n : Nat) : Bool := (List.range m).all fun i => match Region.dstOf ops i with | some t => decide (t < n) | none => true

/-- The operations one by one: each leaves a fact; behind the last one the rest of the region. -/
def Seq (P : Program) (ops : Array Oper) (Q : Exit → Act → World → Prop) (w0 : World) (a0 : Act) (m : Nat) : List Fact → List Oper → Prop
  | F, [] => ∀ (u : Nat → Value) (w : World), Grew w0 w → moreFacts F u w (List.range m) ∧ apartFacts F u (List.range m) → wpList P ops Q (ops.toList.drop m) (putFacts ops F u (List.range m) a0) w
  | F, o :: os => ∃ f : Fact, Ob P ops Q w0 a0 F o f ∧ Seq P ops Q w0 a0 m (F ++ [f]) os

theorem Seq.val {w0 : World} {a0 : Act} {m : Nat} {F : List Fact} {o : Oper} {os : List Oper} (c : Value) (h1 : Ob P ops Q w0 a0 F o (.val c)) (h2 : Seq P ops Q w0 a0 m (F ++ [.val c]) os) : Seq P ops Q w0 a0 m F (o :: os) := ⟨.val c, h1, h2⟩
theorem Seq.of {w0 : World} {a0 : Act} {m : Nat} {F : List Fact} {o : Oper} {os : List Oper} (p : Value → World → Prop) (st : ∀ v w w', p v w → Grew w w' → p v w') (h1 : Ob P ops Q w0 a0 F o (.of p st)) (h2 : Seq P ops Q w0 a0 m (F ++ [.of p st]) os) : Seq P ops Q w0 a0 m F (o :: os) := ⟨.of p st, h1, h2⟩
theorem Seq.new {w0 : World} {a0 : Act} {m : Nat} {F : List Fact} {o : Oper} {os : List Oper} (c : Array Value) (t : TypeId) (h1 : Ob P ops Q w0 a0 F o (.new w0.heap.size c t)) (h2 : Seq P ops Q w0 a0 m (F ++ [.new w0.heap.size c t]) os) : Seq P ops Q w0 a0 m F (o :: os) := ⟨.new w0.heap.size c t, h1, h2⟩

theorem putFacts_prefix (F G : List Fact) (u : Nat → Value) : ∀ (l : List Nat) (a : Act), (∀ i ∈ l, i < F.length) → putFacts ops (F ++ G) u l a = putFacts ops F u l a
  | [], _, _ => rfl
  | i :: l, a, h => by
    rw [putFacts, putFacts, List.getElem?_append_left (h i List.mem_cons_self)]
    exact putFacts_prefix F G u l _ fun j hj => h j (List.mem_cons_of_mem _ hj)
theorem moreFacts_prefix (F G : List Fact) (u : Nat → Value) (w : World) : ∀ (l : List Nat), (∀ i ∈ l, i < F.length) → moreFacts (F ++ G) u w l = moreFacts F u w l
  | [], _ => rfl
  | i :: l, h => by
    rw [moreFacts, moreFacts, List.getElem?_append_left (h i List.mem_cons_self), moreFacts_prefix F G u w l fun j hj => h j (List.mem_cons_of_mem _ hj)]

theorem Seq.facts {w0 : World} {a0 : Act} {m : Nat} (hk : Okay ops m) : ∀ (os : List Oper) (F : List Fact), Seq P ops Q w0 a0 m F os → ops.toList.take m = (ops.toList.take F.length) ++ os → F.length + os.length = m →
    ∃ G : List Fact, G.length = os.length ∧ (∀ (i : Nat) (o : Oper) (f : Fact), F.length ≤ i → i < m → ops[i]? = some o → (F ++ G)[i]? = some f → Ob P ops Q w0 a0 (F ++ G) o f) ∧
      (∀ (u : Nat → Value) (w : World), Grew w0 w → moreFacts (F ++ G) u w (List.range m) ∧ apartFacts (F ++ G) u (List.range m) → wpList P ops Q (ops.toList.drop m) (putFacts ops (F ++ G) u (List.range m) a0) w) := by
  intro os
  induction os with
  | nil =>
    intro F h _ hl
    refine ⟨[], rfl, fun i o f h1 h2 => by simp at hl; omega, ?_⟩
    rw [List.append_nil]
    exact h
  | cons o os ih =>
    intro F h htake hl
    obtain ⟨f, hob, hrest⟩ := h
    have hlen : (F ++ [f]).length = F.length + 1 := by simp
    have hFm : F.length < m := by simp at hl; omega
    have hFs : F.length < ops.toList.length := by have := hk.le; simp; omega
    have hoF : ops.toList[F.length]? = some o := by
      have h1 : (ops.toList.take m)[F.length]? = some o := by
        rw [htake, List.getElem?_append_right (by simp; omega)]
        simp
        have : F.length - min F.length ops.size = 0 := by simp at hFs; omega
        rw [this]; rfl
      rwa [List.getElem?_take_of_lt hFm] at h1
    have htake' : ops.toList.take m = ops.toList.take (F ++ [f]).length ++ os := by
      rw [htake, hlen, List.take_add_one, hoF]; simp
    obtain ⟨G, hG, hobs, hend⟩ := ih (F ++ [f]) hrest htake' (by simp at hl; simp; omega)
    have happ : F ++ [f] ++ G = F ++ (f :: G) := by simp
    rw [happ] at hobs hend
    refine ⟨f :: G, by simp [hG], fun i o' f' h1 h2 ho' hf' => ?_, hend⟩
    by_cases hi : i = F.length
    · subst hi
      have : o' = o := by
        have h3 : ops.toList[F.length]? = some o' := by simpa using ho'
        rw [hoF] at h3; cases h3; rfl
      subst this
      rw [List.getElem?_append_right (Nat.le_refl _), Nat.sub_self] at hf'
      cases hf'
      intro w u hg hmf
      have hd : ∀ j ∈ o'.deps, j < F.length := fun j hj => hk.depsLt _ o' ho' j hj
      rw [putFacts_prefix F (f :: G) u _ _ hd]
      rw [moreFacts_prefix F (f :: G) u w _ hd] at hmf
      exact hob w u hg hmf
    · exact hobs i o' f' (by rw [hlen]; omega) h2 ho' hf'

/-- THE RULE, step by step. -/
theorem wp_region_seq {id : Nat} {l : List Oper} {a0 : Act} {w0 : World} (m : Nat) (hm : P.follows .mixedOrders = true) (hok : Region.factsOk l.toArray m = true)
    (hsz : Region.dstsIn l.toArray m a0.tmps.size = true)
    (h : Seq P l.toArray Q w0.drew a0 m [] (l.take m)) : (Code.region id l.toArray true).wp P Q a0 w0 := by
  have hk := okay_of hok
  have hle : m ≤ l.length := by simpa using hk.le
  obtain ⟨G, hG, hobs, hend⟩ := Seq.facts hk (l.take m) [] h (by simp) (by simp; omega)
  rw [List.nil_append] at hobs hend
  have hGm : G.length = m := by rw [hG]; simp; omega
  refine wp_region_any hm (wpAny_facts hk hGm (fun i o f hi ho hf => hobs i o f (Nat.zero_le _) hi ho hf) ?_ hend _ _ _ _ ?_ (by simp) ?_ ?_)
  · intro i t hi hit
    have := List.all_eq_true.1 hsz i (List.mem_range.2 hi)
    rw [hit] at this
    simpa using this
  · refine ⟨Grew.refl _, rfl, rfl, fun _ _ => rfl, fun i f t hl _ _ => ?_, fun i j t t' _ hl _ _ _ _ _ => ?_, fun i _ _ _ hl _ => ?_⟩
    all_goals
      rw [Array.getD_eq_getD_getElem?, Array.getElem?_replicate] at hl
      split at hl <;> cases hl
  · intro i _ hi
    simp at hi
    simp [hi]
  · exact Nat.le_trans (List.length_filter_le _ _) (by simp)

end
end Go
