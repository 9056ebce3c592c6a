import Derived.Test.YthlmmfljeblflaaGreatDoorMc30
import Derived.Test.YthlmmfljeblflaaGreatDoorMc27
/-! Right graphs: the nodes by their numbers. -/
namespace Go.Proofs.YthlmmfljeblflaaGreatDoor
set_option linter.unusedSimpArgs false
set_option linter.unusedVariables false
open Go.RowKit Ga
set_option maxRecDepth 100000

theorem right_par {g : List Gr.Nd} (h : Gr.RightR g) : ∀ n ∈ g, (1 ≤ n.par ∧ n.par ≤ 3) ∧ ∀ t ∈ n.route, 0 ≤ t ∧ t < n.par := fun n hn => by
  obtain ⟨i, hi, e⟩ := List.mem_iff_getElem.1 hn
  have := h.ok i n (by rw [List.getElem?_eq_getElem hi, e])
  exact ⟨⟨this.pr1, this.pr3⟩, this.rt⟩
theorem checkR_pos {g : List Gr.Nd} (h : ¬ Gr.RightR g) : (checkR g != 0) = true := by
  by_cases h8 : g.length ≤ 8
  · rw [checkR_bad h8 h]; rfl
  · rw [checkR_long (by omega)]; rfl
theorem checkR_nil {g : List Gr.Nd} (h : Gr.RightR g) : checkR g = 0 := checkR_ok h.len h
/-- .. in memory of the call's own -/
theorem normO_any (v : Value) (g : List Gr.Nd) (w : World) (hv : NodesAt w v g) (hs : Small g) (h : Gr.RightR g) : Calls Tryz.prog 33 #[v] w (fun e w' => ∃ v' lc, e = .returned v' ∧ NodesOwn w.heap.size w' v' lc ∧ NodesIn w.heap.size w' lc (Gr.normG g) ∧ Grew w w') := by
  refine (norm_any v g w hv hs (by have := h.len; omega)).mono ?_
  rintro e w' ⟨v', lc, l', rfl, h1, h2, h3, h4, gw⟩
  obtain rfl := Gr.norm_unique h3 h4 h.ids h.r7
  exact ⟨v', lc, rfl, h1, h2, gw⟩
/-- nodes in memory from a block on -/
def NodesV (base : Nat) (g : List Gr.Nd) (v : Value) (w : World) : Prop := ∃ a c lc, v = .slice a g.length c ∧ NodesOwn base w v lc ∧ NodesIn base w lc g
theorem NodesV.keep {base : Nat} {g : List Gr.Nd} {v : Value} {w w' : World} (h : NodesV base g v w) (hk : ∀ b, base ≤ b → b < w.heap.size → w'.heap[b]? = w.heap[b]?) : NodesV base g v w' := by
  obtain ⟨a, c, lc, h1, h2, h3⟩ := h
  refine ⟨a, c, lc, h1, OwnAt.same h2 fun b hb => ?_, Rel.mono (fun c n ⟨q1, q2⟩ => ?_) h3⟩
  · obtain ⟨q, cs, hc⟩ := OwnAt.block h2 hb
    exact hk b q (heap_lt hc)
  · have q3 := q2.to hk
    exact ⟨q3.is q1, q3⟩
theorem NodesV.st (base : Nat) (g : List Gr.Nd) : ∀ v w w', NodesV base g v w → Grew w w' → NodesV base g v w' := fun _ _ _ h q => h.keep fun b _ hb => q.below.block b hb
theorem NodesV.low {base base' : Nat} {g : List Gr.Nd} {v : Value} {w : World} (h : NodesV base g v w) (hb : base' ≤ base) : NodesV base' g v w := by
  obtain ⟨a, c, lc, h1, h2, h3⟩ := h
  exact ⟨a, c, lc, h1, OwnAt.low h2 hb, Rel.mono (fun c n ⟨q1, q2⟩ => ⟨q1, q2.low hb⟩) h3⟩
theorem NodesV.at' {base : Nat} {g : List Gr.Nd} {v : Value} {w : World} (h : NodesV base g v w) : NodesAt w v g := by
  obtain ⟨a, c, lc, h1, h2, h3⟩ := h
  exact h3.at h2
end Go.Proofs.YthlmmfljeblflaaGreatDoor
