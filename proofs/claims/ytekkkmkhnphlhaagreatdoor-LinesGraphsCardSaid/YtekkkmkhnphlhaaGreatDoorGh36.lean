import Derived.Test.YtekkkmkhnphlhaaGreatDoorGh27
import Derived.Test.YtekkkmkhnphlhaaGreatDoorGh31
import Derived.Test.YtekkkmkhnphlhaaGreatDoorGh32
import Derived.Test.YtekkkmkhnphlhaaGreatDoorGh33
import Derived.Test.YtekkkmkhnphlhaaGreatDoorGh29
import Derived.Test.YtekkkmkhnphlhaaGreatDoorGh34
/-! plan.Clean, whatever the step. -/
namespace Go.Proofs.YtekkkmkhnphlhaaGreatDoor
set_option linter.unusedSimpArgs false
set_option linter.unusedVariables false
open Go.RowKit Ga
set_option maxRecDepth 100000

theorem clean49_any (c : StC) (s : Gr.Stp) (w : World) (hn : StepIs w c s) (hs : s.nd.frm.length ≤ 1000 ∧ s.nd.prog.length ≤ 1000) : Calls Tryz.prog 73 #[.agg #[.int .i64 c.kind, .int .i64 c.c.id, .int .i64 c.c.kind, .slice c.c.af c.c.nf c.c.cf, .slice c.c.ap c.c.np c.c.cp, .int .i64 c.c.par, .int .i64 c.c.r0, .int .i64 c.c.r1, .int .i64 c.c.r2, .int .i64 c.c.r3, .int .i64 c.c.r4, .int .i64 c.c.r5, .int .i64 c.c.r6, .int .i64 c.c.r7, .bool c.reset]] w (CleanGives (Gr.cleanS s) w) := by
  obtain ⟨kind, ⟨id, kd, af, nf, cf, ap, np, cp, par, r0, r1, r2, r3, r4, r5, r6, r7⟩, reset⟩ := c
  by_cases h1 : kind = 1
  · subst h1; exact clean49_1 _ _ _ _ _ _ _ _ _ _ _ _ _ _ _ _ _ _ s w hn hs
  by_cases h2 : kind = 2
  · subst h2; exact clean49_2 _ _ _ _ _ _ _ _ _ _ _ _ _ _ _ _ _ _ s w hn hs
  by_cases h3 : kind = 3
  · subst h3; exact clean49_3 _ _ _ _ _ _ _ _ _ _ _ _ _ _ _ _ _ _ s w hn hs
  by_cases h4 : kind = 4
  · subst h4; exact clean49_4 _ _ _ _ _ _ _ _ _ _ _ _ _ _ _ _ _ _ s w hn hs
  by_cases h5 : kind = 5
  · subst h5; exact clean49_5 _ _ _ _ _ _ _ _ _ _ _ _ _ _ _ _ _ _ s w hn hs
  exact clean49_0 kind h1 h2 h3 h4 h5 _ _ _ _ _ _ _ _ _ _ _ _ _ _ _ _ _ _ s w hn hs
end Go.Proofs.YtekkkmkhnphlhaaGreatDoor

/-! pack.GetPlan: what it reads, step by step; steps in memory of the call's own. -/
namespace Go.Proofs.YtekkkmkhnphlhaaGreatDoor
set_option linter.unusedSimpArgs false
set_option linter.unusedVariables false
open Go.RowKit Ga
set_option maxRecDepth 100000

abbrev StepsOwn (base : Nat) (w : World) (v : Value) (lc : List StC) : Prop := OwnAt base 62 15 encSt w v lc
def StepsIn (base : Nat) (w : World) (lc : List StC) (l : List Gr.Stp) : Prop := Rel (fun c s => StepIs w c s ∧ OwnsNd base w c.c s.nd) lc l
theorem StepIs.of {w w' : World} {base : Nat} {c : StC} {s : Gr.Stp} (h : StepIs w c s) (o : OwnsNd base w' c.c s.nd) : StepIs w' c s := ⟨h.kind, o.is h.nd, h.reset⟩
theorem StepsIn.at {base : Nat} {w : World} {v : Value} {lc : List StC} {l : List Gr.Stp} (h : StepsIn base w lc l) (ho : StepsOwn base w v lc) : StepsAt w v l :=
  ⟨lc, OwnAt.rows ho encSt_len, Rel.len h, fun i c s h1 h2 => (Rel.get h i c s h1 h2).1⟩
theorem StepsIn.map {base : Nat} {w w' : World} {lc : List StC} {l : List Gr.Stp} (h : StepsIn base w lc l) (hk : ∀ c n, OwnsNd base w c n → OwnsNd base w' c n) : StepsIn base w' lc l :=
  Rel.mono (fun c s ⟨h1, h2⟩ => ⟨h1.of (hk _ _ h2), hk _ _ h2⟩) h
theorem StepsIn.grew {base : Nat} {w w' : World} {lc : List StC} {l : List Gr.Stp} (h : StepsIn base w lc l) (g : Grew w w') : StepsIn base w' lc l := h.map fun _ _ o => o.grew g
/-- all but one block is as it was -/
def But (T : Nat) (w w' : World) : Prop := ∀ q, q ≠ T → w'.heap[q]? = w.heap[q]?
theorem OwnAt.but {α : Type} {base T : Nat} {e t : TypeId} {k : Nat} {enc : α → List Value} {w w' : World} {v : Value} {l : List α} {c : Array Value} {f : Nat × Nat} (h : OwnAt base e k enc w v l) (hb : But T w w') (hT : w.heap[T]? = some (.cells c t f)) (ht : t ≠ e) : OwnAt base e k enc w' v l :=
  OwnAt.same h fun b hv => hb b fun q => by
    subst q
    exact own_ne h hT ht hv
theorem OwnsNd.but {base T : Nat} {t : TypeId} {w w' : World} {c : NdC} {n : Gr.Nd} {cs : Array Value} {f : Nat × Nat} (o : OwnsNd base w c n) (hb : But T w w') (hT : w.heap[T]? = some (.cells cs t f)) (h1 : t ≠ 3 := by decide) (h2 : t ≠ 142 := by decide) : OwnsNd base w' c n := ⟨OwnAt.but o.1 hb hT h1, OwnAt.but o.2 hb hT h2⟩
theorem RdAt.but {base A B T : Nat} {w w' : World} {s : Gr.Rs} (h : RdAt base A B w s) (hb : But T w w') (hA : A ≠ T) (hB : B ≠ T) : RdAt base A B w' s := ⟨h.1, by rw [hb A hA]; exact h.2.1, h.2.2.1, by rw [hb B hB]; exact h.2.2.2⟩
theorem st_at (W : World) (x : StC) (t : TypeId) (b : Nat) {c : Array Value} (hc : c = (encSt x).toArray) (hb : b = W.heap.size) : ∀ j u, (([x] : List StC).flatMap encSt)[j]? = some u → (W.alloc (.cells c t)).cell? ⟨b, j, none⟩ = some u := by
  subst hc
  intro j u hu
  rw [new_cells W _ t b hb j]
  simpa using hu
theorem infoStep : (Tryz.prog.info? 62).map (fun i => (i.zero, i.size, i.bytes)) = some (some (.agg #[.int .i64 0, .int .i64 0, .int .i64 0, .slice none 0 0, .slice none 0 0, .int .i64 0, .int .i64 0, .int .i64 0, .int .i64 0, .int .i64 0, .int .i64 0, .int .i64 0, .int .i64 0, .int .i64 0, .bool false]), 15, 152) := by kernel_rfl
theorem OwnsNd.to3 {base : Nat} {w w' : World} {c : NdC} {n : Gr.Nd} (o : OwnsNd base w c n) (hb : ∀ (q : Nat) (cs : Array Value) (t : TypeId), w.heap[q]? = some (.cells cs t) → base ≤ q → t ≠ 62 → w'.heap[q]? = w.heap[q]?) : OwnsNd base w' c n := by
  refine ⟨OwnAt.same o.1 fun b h => ?_, OwnAt.same o.2 fun b h => ?_⟩
  · obtain ⟨h1, cs, h2⟩ := OwnAt.block o.1 h
    exact hb b cs _ h2 h1 (by decide)
  · obtain ⟨h1, cs, h2⟩ := OwnAt.block o.2 h
    exact hb b cs _ h2 h1 (by decide)
end Go.Proofs.YtekkkmkhnphlhaaGreatDoor
