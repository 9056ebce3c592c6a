import Derived.Test.YtmdmbimfdpngaaaGreatDoorMc30
/-! What a table answers, and that this makes it up. -/
namespace Go.Proofs.YtmdmbimfdpngaaaGreatDoor
set_option linter.unusedSimpArgs false
set_option linter.unusedVariables false
open Go.RowKit Ga
set_option maxRecDepth 100000

/-- what is kept at a place -/
def getT (m : List Tab.En) (n k : Int) : Val × Val := match m.find? fun x => Tab.num x == n * 64 + k with
  | none => ((0, 0), (0, 0))
  | some x => (x.c0, x.c1)
theorem getT_no {m : List Tab.En} {n k : Int} (h : ∀ x ∈ m, Tab.num x ≠ n * 64 + k) : getT m n k = ((0, 0), (0, 0)) := by
  unfold getT
  rw [List.find?_eq_none.2 fun x hx => by simpa using h x hx]
theorem getT_is {m : List Tab.En} (hu : UnE m) {x : Tab.En} (hx : x ∈ m) {n k : Int} (h : Tab.num x = n * 64 + k) : getT m n k = (x.c0, x.c1) := by
  unfold getT
  cases hf : m.find? fun x => Tab.num x == n * 64 + k with
  | none =>
    have := List.find?_eq_none.1 hf x hx
    simp [h] at this
  | some y =>
    have h1 := List.find?_some hf
    have h2 := List.mem_of_find?_eq_some hf
    have h3 : Tab.num y = n * 64 + k := by simpa using h1
    rw [un_eq hu h2 hx (h3.trans h.symm)]
theorem getT_cases (m : List Tab.En) (n k : Int) : (∃ x ∈ m, Tab.num x = n * 64 + k ∧ getT m n k = (x.c0, x.c1)) ∨ ((∀ x ∈ m, Tab.num x ≠ n * 64 + k) ∧ getT m n k = ((0, 0), (0, 0))) := by
  cases hf : m.find? fun x => Tab.num x == n * 64 + k with
  | none =>
    have := List.find?_eq_none.1 hf
    refine .inr ⟨fun x hx => by simpa using this x hx, ?_⟩
    unfold getT
    rw [hf]
  | some y =>
    have h1 := List.find?_some hf
    have h2 := List.mem_of_find?_eq_some hf
    refine .inl ⟨y, h2, by simpa using h1, ?_⟩
    unfold getT
    rw [hf]
theorem nz_no {x : Tab.En} (h : Tab.nz x = false) : x.c0 = (0, 0) ∧ x.c1 = (0, 0) := by
  unfold Tab.nz at h
  simpa using h
theorem nz_get {x : Tab.En} (h : Tab.nz x = true) : (x.c0, x.c1) ≠ (((0, 0), (0, 0)) : Val × Val) := by
  unfold Tab.nz at h
  intro e
  injection e with e1 e2
  rw [e1, e2] at h
  simp at h
theorem setT_mem {m : List Tab.En} {x y : Tab.En} (h : y ∈ Tab.setT m x) : y = x ∨ (y ∈ m ∧ Tab.num y ≠ Tab.num x) := by
  unfold Tab.setT at h
  split at h
  · rcases List.mem_cons.1 h with h | h
    · exact .inl h
    · exact .inr ⟨(List.mem_filter.1 h).1, by simpa using (List.mem_filter.1 h).2⟩
  · exact .inr ⟨(List.mem_filter.1 h).1, by simpa using (List.mem_filter.1 h).2⟩
theorem setT_un {m : List Tab.En} (h : UnE m) (x : Tab.En) : UnE (Tab.setT m x) := by
  unfold Tab.setT
  split
  · refine List.pairwise_cons.2 ⟨fun y hy e => ?_, h.filter _⟩
    have := (List.mem_filter.1 hy).2
    simp [e] at this
  · exact h.filter _
theorem getT_set {m : List Tab.En} (hu : UnE m) (x : Tab.En) (n k : Int) : getT (Tab.setT m x) n k = if Tab.num x = n * 64 + k then (x.c0, x.c1) else getT m n k := by
  split
  · rename_i h
    cases hz : Tab.nz x
    · obtain ⟨e1, e2⟩ := nz_no hz
      rw [e1, e2]
      refine getT_no fun y hy e => ?_
      unfold Tab.setT at hy
      rw [hz, if_neg (by simp)] at hy
      have := (List.mem_filter.1 hy).2
      simp [e, h] at this
    · refine getT_is (setT_un hu x) ?_ h
      unfold Tab.setT
      rw [if_pos hz]
      exact List.mem_cons_self ..
  · rename_i h
    rcases getT_cases m n k with ⟨y, hy, h1, h2⟩ | ⟨h1, h2⟩
    · rw [h2]
      refine getT_is (setT_un hu x) ?_ h1
      have hf : y ∈ m.filter fun y => Tab.num y != Tab.num x := List.mem_filter.2 ⟨hy, by rw [h1, bne_iff_ne]; exact fun e => h e.symm⟩
      unfold Tab.setT
      split
      · exact List.mem_cons_of_mem _ hf
      · exact hf
    · rw [h2]
      refine getT_no fun y hy e => ?_
      rcases setT_mem hy with rfl | ⟨h3, _⟩
      · exact h e
      · exact h1 y h3 e
/-- a table: unlike places, none empty, each one right -/
structure OkT (m : List Tab.En) : Prop where
  un : UnE m
  nz : ∀ x ∈ m, Tab.nz x = true
  ok : ∀ x ∈ m, okEn x = true
theorem okEn_there {x : Tab.En} (h : okEn x = true) : There x := by
  unfold okEn at h
  rw [Bool.and_eq_true] at h
  exact thereB_iff.1 h.1
theorem OkT.there {m : List Tab.En} (h : OkT m) : ∀ x ∈ m, There x := fun x hx => okEn_there (h.ok x hx)
theorem OkT.nil : OkT [] := ⟨List.Pairwise.nil, fun x hx => (by cases hx), fun x hx => (by cases hx)⟩
theorem OkT.set {m : List Tab.En} (h : OkT m) {x : Tab.En} (hx : okEn x = true) : OkT (Tab.setT m x) := by
  refine ⟨setT_un h.un x, fun y hy => ?_, fun y hy => ?_⟩
  · unfold Tab.setT at hy
    split at hy
    · rcases List.mem_cons.1 hy with rfl | h2
      · assumption
      · exact h.nz y (List.mem_filter.1 h2).1
    · exact h.nz y (List.mem_filter.1 hy).1
  · rcases setT_mem hy with rfl | ⟨h2, _⟩
    · exact hx
    · exact h.ok y h2
theorem OkT.filter {m : List Tab.En} (h : OkT m) (p : Tab.En → Bool) : OkT (m.filter p) := ⟨h.un.filter _, fun x hx => h.nz x (List.mem_filter.1 hx).1, fun x hx => h.ok x (List.mem_filter.1 hx).1⟩
theorem OkT.new {l : List Tab.En} (h : newOk l = true) : OkT (Tab.newT l) := by
  have ho := Tab.newT_ok l
  unfold newOk at h
  rw [List.all_eq_true] at h
  exact ⟨ho.un, ho.nz, fun x hx => h x (ho.sub x hx)⟩
/-- who answers alike keeps alike -/
theorem OkT.perm {m m' : List Tab.En} (h : OkT m) (h' : OkT m') (he : ∀ n k : Int, 0 ≤ n → n < 8 → 0 ≤ k → k < 64 → getT m n k = getT m' n k) : m.Perm m' := by
  have hn : ∀ {l : List Tab.En}, UnE l → l.Nodup := fun hp => by
    rw [List.nodup_iff_pairwise_ne]
    exact hp.imp fun h e => h (by rw [e])
  have half : ∀ {m m' : List Tab.En}, OkT m → OkT m' → (∀ n k : Int, 0 ≤ n → n < 8 → 0 ≤ k → k < 64 → getT m n k = getT m' n k) → ∀ x ∈ m, x ∈ m' := by
    intro m m' h h' he x hx
    have ht := h.there x hx
    unfold There at ht
    have e1 := getT_is h.un hx (n := x.node) (k := x.key) rfl
    have e2 := he x.node x.key (by omega) (by omega) (by omega) (by omega)
    rcases getT_cases m' x.node x.key with ⟨y, hy, h1, h2⟩ | ⟨h1, h2⟩
    · have hy' := h'.there y hy
      obtain ⟨q1, q2⟩ := (hy'.inj (h.there x hx)).1 (h1.trans rfl)
      rw [e1, h2] at e2
      injection e2 with e3 e4
      obtain ⟨a, b, c, d⟩ := x
      obtain ⟨a', b', c', d'⟩ := y
      simp only at q1 q2 e3 e4
      subst q1 q2 e3 e4
      exact hy
    · rw [e1, h2] at e2
      exact absurd e2 (nz_get (h.nz x hx))
  rw [List.perm_ext_iff_of_nodup (hn h.un) (hn h'.un)]
  exact fun x => ⟨half h h' he x, half h' h (fun n k a b c d => (he n k a b c d).symm) x⟩
end Go.Proofs.YtmdmbimfdpngaaaGreatDoor
