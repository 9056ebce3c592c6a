import Derived.Test.YtpbohimddmploaaGreatCd32
import Derived.Test.YtpbohimddmploaaGreatCd28
import Derived.Test.YtpbohimddmploaaGreatCd33
set_option linter.unusedSimpArgs false
set_option linter.unusedVariables false
set_option maxRecDepth 100000
set_option maxHeartbeats 64000000
namespace Go.Proofs.YtpbohimddmploaaGreat
open Go.RowKit Ga

theorem numS_upto {a b : Int} (s : Gr.Rs) (ha : 0 ≤ a) (hb : 0 ≤ b) : 0 ≤ (Gr.numS a b s).1 ∧ (Gr.numS a b s).1 ≤ b := by
  unfold Gr.numS
  split
  · exact ⟨Int.le_refl _, hb⟩
  · unfold Gr.wn
    split
    · exact ⟨Int.le_refl _, hb⟩
    · split
      · exact ⟨Int.le_refl _, hb⟩
      · simp only; omega
theorem stepS_len (s : Gr.Rs) : (Gr.stepS getL s).2.1.length ≤ s.1.length := by
  unfold Gr.stepS
  simp only
  have l1 := numS_len 1 5 s
  have l2 := numS_len 0 1 (Gr.numS 1 5 s).2
  have l3 := nodeS_len 0 (Gr.numS 0 1 (Gr.numS 1 5 s).2).2
  omega
theorem stepsS_succ : ∀ (k : Nat) (s : Gr.Rs), Gr.stepsS getL (k + 1) s = ((Gr.stepsS getL k s).1 ++ [(Gr.stepS getL (Gr.stepsS getL k s).2).1], (Gr.stepS getL (Gr.stepsS getL k s).2).2)
  | 0, s => rfl
  | k + 1, s => by
    have ih := stepsS_succ k (Gr.stepS getL s).2
    rw [Gr.stepsS, ih]
    rfl
theorem stepsS_len : ∀ (k : Nat) (s : Gr.Rs), (Gr.stepsS getL k s).1.length = k ∧ (Gr.stepsS getL k s).2.1.length ≤ s.1.length
  | 0, s => ⟨rfl, Nat.le_refl _⟩
  | k + 1, s => by
    obtain ⟨h1, h2⟩ := stepsS_len k (Gr.stepS getL s).2
    refine ⟨?_, ?_⟩
    · rw [Gr.stepsS, List.length_cons, h1]
    · rw [Gr.stepsS]
      exact Nat.le_trans h2 (stepS_len s)
theorem stepS_small (s : Gr.Rs) : (Gr.stepS getL s).1.nd.frm.length ≤ 3 ∧ (Gr.stepS getL s).1.nd.prog.length ≤ 24 := by
  unfold Gr.stepS
  simp only
  have := nodeS_small 0 (Gr.numS 0 1 (Gr.numS 1 5 s).2).2
  exact ⟨this.1, this.2.1⟩
theorem stepsS_small : ∀ (k : Nat) (s : Gr.Rs), ∀ x ∈ (Gr.stepsS getL k s).1, x.nd.frm.length ≤ 3 ∧ x.nd.prog.length ≤ 24
  | 0, s, x, h => by cases h
  | k + 1, s, x, h => by
    rw [Gr.stepsS] at h
    rcases List.mem_cons.1 h with rfl | h1
    · exact stepS_small s
    · exact stepsS_small k _ x h1
open Classical in
noncomputable def cleanB (l : List Gr.Stp) : Bool := decide (∀ x ∈ l, Gr.cleanS x = x)
theorem cleanB_nil : cleanB [] = true := by unfold cleanB; simp
theorem cleanB_snoc (l : List Gr.Stp) (x : Gr.Stp) : cleanB (l ++ [x]) = (cleanB l && eqSt x (Gr.cleanS x)) := by
  unfold cleanB eqSt
  rw [Bool.eq_iff_iff]
  simp only [Bool.and_eq_true, decide_eq_true_eq, List.mem_append, List.mem_singleton]
  constructor
  · intro h
    exact ⟨fun y hy => h y (.inl hy), (h x (.inr rfl)).symm⟩
  · rintro ⟨h1, h2⟩ y (hy | rfl)
    · exact h1 y hy
    · exact h2.symm
theorem getPl_end {s : List UInt8} {l : List Gr.Stp} {z : List UInt8} {x : Int} (h : Gr.planS getL s = (l, (z, x))) : Gr.getPl getL s = if endE (z, x) (cleanB l) = 0 then (l, 0) else ([], endE (z, x) (cleanB l)) := by
  unfold Gr.getPl
  rw [h]
  simp only
  by_cases hx : x = 0
  · subst hx
    have he : endE (z, 0) (cleanB l) = if (decide (0 < z.length) || !cleanB l) = true then 4 else 0 := by
      unfold endE
      rw [if_neg (by simp)]
    have hP : (0 < z.length ∨ ¬ ∀ x ∈ l, Gr.cleanS x = x) ↔ (decide (0 < z.length) || !cleanB l) = true := by
      unfold cleanB
      by_cases h1 : 0 < z.length <;> by_cases h2 : (∀ x ∈ l, Gr.cleanS x = x) <;> simp [h1, h2]
    rw [if_neg (by simp), he]
    by_cases hb : (decide (0 < z.length) || !cleanB l) = true
    · rw [if_pos (hP.2 hb), if_pos hb, if_neg (by decide)]
    · rw [if_neg (fun h => hb (hP.1 h)), if_neg hb, if_pos rfl]
  · have he : endE (z, x) (cleanB l) = x := by
      unfold endE
      rw [if_pos hx]
    rw [if_pos hx, he, if_neg hx]
theorem getPl_small (s : List UInt8) : ∀ x ∈ (Gr.getPl getL s).1, x.nd.frm.length ≤ 1000 ∧ x.nd.prog.length ≤ 1000 := by
  obtain ⟨l, ⟨z, x⟩, hg⟩ : ∃ l t, Gr.planS getL s = (l, t) := ⟨_, _, rfl⟩
  rw [getPl_end hg]
  have h := stepsS_small (Gr.numS 1 6 (s, 0)).1.toNat (Gr.numS 1 6 (s, 0)).2
  unfold Gr.planS at hg
  rw [hg] at h
  split
  · intro y hy
    have := h y hy
    omega
  · intro y hy
    cases hy
abbrev StepsOwn (base : Nat) (w : World) (v : Value) (lc : List StC) : Prop := OwnAt base 73 15 encSt w v lc
def StepsIn (base : Nat) (w : World) (lc : List StC) (l : List Gr.Stp) : Prop := Rel (fun c s => StepIs w c s ∧ OwnsNd base w c.c s.nd) lc l
theorem StepIs.of {w w' : World} {base : Nat} {c : StC} {s : Gr.Stp} (h : StepIs w c s) (o : OwnsNd base w' c.c s.nd) : StepIs w' c s := ⟨h.kind, o.is h.nd, h.reset⟩
theorem StepsIn.at {base : Nat} {w : World} {v : Value} {lc : List StC} {l : List Gr.Stp} (h : StepsIn base w lc l) (ho : StepsOwn base w v lc) : StepsAt w v l :=
  ⟨lc, OwnAt.rows ho encSt_len, Rel.len h, fun i c s h1 h2 => (Rel.get h i c s h1 h2).1⟩
theorem StepsIn.map {base : Nat} {w w' : World} {lc : List StC} {l : List Gr.Stp} (h : StepsIn base w lc l) (hk : ∀ c n, OwnsNd base w c n → OwnsNd base w' c n) : StepsIn base w' lc l :=
  Rel.mono (fun c s ⟨h1, h2⟩ => ⟨h1.of (hk _ _ h2), hk _ _ h2⟩) h
theorem StepsIn.keep2 {base base0 A B : Nat} {w w' : World} {lc : List StC} {l : List Gr.Stp} {s : Gr.Rs} (h : StepsIn base w lc l) (hk : Keep2 A B w w') (hr : RdAt base0 A B w s) : StepsIn base w' lc l := h.map fun _ _ o => o.keep2 hk hr
theorem StepsIn.grew {base : Nat} {w w' : World} {lc : List StC} {l : List Gr.Stp} (h : StepsIn base w lc l) (g : Grew w w') : StepsIn base w' lc l := h.map fun _ _ o => o.grew g
def But (T : Nat) (w w' : World) : Prop := ∀ q, q ≠ T → w'.heap[q]? = w.heap[q]?
theorem OwnAt.but {α : Type} {base T : Nat} {e t : TypeId} {k : Nat} {enc : α → List Value} {w w' : World} {v : Value} {l : List α} {c : Array Value} {f : Nat × Nat} (h : OwnAt base e k enc w v l) (hb : But T w w') (hT : w.heap[T]? = some (.cells c t f)) (ht : t ≠ e) : OwnAt base e k enc w' v l :=
  OwnAt.same h fun b hv => hb b fun q => by
    subst q
    exact own_ne h hT ht hv
theorem OwnsNd.but {base T : Nat} {t : TypeId} {w w' : World} {c : NdC} {n : Gr.Nd} {cs : Array Value} {f : Nat × Nat} (o : OwnsNd base w c n) (hb : But T w w') (hT : w.heap[T]? = some (.cells cs t f)) (h1 : t ≠ 3 := by decide) (h2 : t ≠ 190 := by decide) : OwnsNd base w' c n := ⟨OwnAt.but o.1 hb hT h1, OwnAt.but o.2 hb hT h2⟩
theorem RdAt.but {base A B T : Nat} {w w' : World} {s : Gr.Rs} (h : RdAt base A B w s) (hb : But T w w') (hA : A ≠ T) (hB : B ≠ T) : RdAt base A B w' s := ⟨h.1, by rw [hb A hA]; exact h.2.1, h.2.2.1, by rw [hb B hB]; exact h.2.2.2⟩
theorem OwnAt.butNe {α : Type} {base T : Nat} {e : TypeId} {k : Nat} {enc : α → List Value} {w w' : World} {v : Value} {l : List α} (h : OwnAt base e k enc w v l) (hb : But T w w') (hT : v.ownBlock ≠ some T) : OwnAt base e k enc w' v l :=
  OwnAt.same h fun b hv => hb b fun q => by
    subst q
    exact hT hv
theorem st_at (W : World) (x : StC) (t : TypeId) (b : Nat) {c : Array Value} (hc : c = (encSt x).toArray) (hb : b = W.heap.size) : ∀ j u, (([x] : List StC).flatMap encSt)[j]? = some u → (W.alloc (.cells c t)).cell? ⟨b, j, none⟩ = some u := by
  subst hc
  intro j u hu
  rw [new_cells W _ t b hb j]
  simpa using hu
theorem infoStep : (Tryz.prog.info? 73).map (fun i => (i.zero, i.size, i.bytes)) = some (some (.agg #[.int .i64 0, .int .i64 0, .int .i64 0, .slice none 0 0, .slice none 0 0, .int .i64 0, .int .i64 0, .int .i64 0, .int .i64 0, .int .i64 0, .int .i64 0, .int .i64 0, .int .i64 0, .int .i64 0, .bool false]), 15, 152) := by kernel_rfl
theorem OwnsNd.to3 {base : Nat} {w w' : World} {c : NdC} {n : Gr.Nd} (o : OwnsNd base w c n) (hb : ∀ (q : Nat) (cs : Array Value) (t : TypeId), w.heap[q]? = some (.cells cs t) → base ≤ q → t ≠ 73 → w'.heap[q]? = w.heap[q]?) : OwnsNd base w' c n := by
  refine ⟨OwnAt.same o.1 fun b h => ?_, OwnAt.same o.2 fun b h => ?_⟩
  · obtain ⟨h1, cs, h2⟩ := OwnAt.block o.1 h
    exact hb b cs _ h2 h1 (by decide)
  · obtain ⟨h1, cs, h2⟩ := OwnAt.block o.2 h
    exact hb b cs _ h2 h1 (by decide)
theorem steps_round {w0 wr W3 W' : World} {A B base base2 : Nat} {v v' : Value} {lc : List StC} {c : StC} {l : List Gr.Stp} {y : Gr.Stp} {s : Gr.Rs} (hr : RdAt w0.heap.size A B wr s) (ho : StepsOwn w0.heap.size wr v lc) (hn : StepsIn base wr lc l) (h9 : StepIs wr c y) (o9 : OwnsNd base2 wr c.c y.nd) (hb : base ≤ base2) (g : Grew wr W3)
    (hA : Appended w0 73 15 encSt W3 v (lc ++ [c]) v' W') :
    StepsIn base W' (lc ++ [c]) (l ++ [y]) ∧ RdAt w0.heap.size A B W' s := by
  have ho3 : StepsOwn w0.heap.size W3 v lc := OwnAt.grew ho g
  have hk : ∀ c n, OwnsNd base W3 c n → OwnsNd base W' c n := fun c n o => o.to3 fun q cs t hq _ hne => hA.2.2.2.1 q (heap_lt hq) (OwnAt.other ho3 hq hne)
  have h5 : OwnsNd base W' c.c y.nd := hk _ _ ((o9.grew g).low hb)
  exact ⟨Rel.snoc ((hn.grew g).map hk) ⟨(h9.grew g).of h5, h5⟩, RdAt.app (hr.grew g) ho3 hA⟩
end Go.Proofs.YtpbohimddmploaaGreat
