import Derived.Test.YthlmmfljeblflaaGreatDoorMc31
import Derived.Test.YthlmmfljeblflaaGreatDoorMc33
import Derived.Test.YthlmmfljeblflaaGreatDoorMc34
import Derived.Test.YthlmmfljeblflaaGreatDoorMc36
import Derived.Test.YthlmmfljeblflaaGreatDoorMc32
import Derived.Test.YthlmmfljeblflaaGreatDoorMc35
/-! plan.Clean, whatever the step. -/
namespace Go.Proofs.YthlmmfljeblflaaGreatDoor
set_option linter.unusedSimpArgs false
set_option linter.unusedVariables false
open Go.RowKit Ga
set_option maxRecDepth 100000

theorem clean49_any (c : StC) (s : Gr.Stp) (w : World) (hn : StepIs w c s) (hs : s.nd.frm.length ≤ 1000 ∧ s.nd.prog.length ≤ 1000) : Calls Tryz.prog 51 #[.agg #[.int .i64 c.kind, .int .i64 c.c.id, .int .i64 c.c.kind, .slice c.c.af c.c.nf c.c.cf, .slice c.c.ap c.c.np c.c.cp, .int .i64 c.c.par, .int .i64 c.c.r0, .int .i64 c.c.r1, .int .i64 c.c.r2, .int .i64 c.c.r3, .int .i64 c.c.r4, .int .i64 c.c.r5, .int .i64 c.c.r6, .int .i64 c.c.r7, .bool c.reset]] w (CleanGives (Gr.cleanS s) w) := by
  obtain ⟨kind, ⟨id, kd, af, nf, cf, ap, np, cp, par, r0, r1, r2, r3, r4, r5, r6, r7⟩, reset⟩ := c
  by_cases h1 : kind = 1
  · subst h1; exact clean49_1 _ _ _ _ _ _ _ _ _ _ _ _ _ _ _ _ _ _ s w hn hs
  by_cases h2 : kind = 2
  · subst h2; exact clean49_2 _ _ _ _ _ _ _ _ _ _ _ _ _ _ _ _ _ _ s w hn hs
  by_cases h3 : kind = 3
  · subst h3; exact clean49_3 _ _ _ _ _ _ _ _ _ _ _ _ _ _ _ _ _ _ s w hn hs
  by_cases h4 : kind = 4
  · subst h4; exact clean49_4 _ _ _ _ _ _ _ _ _ _ _ _ _ _ _ _ _ _ s w hn hs
  by_cases h5 : kind = 5
  · subst h5; exact clean49_5 _ _ _ _ _ _ _ _ _ _ _ _ _ _ _ _ _ _ s w hn hs
  exact clean49_0 kind h1 h2 h3 h4 h5 _ _ _ _ _ _ _ _ _ _ _ _ _ _ _ _ _ _ s w hn hs
theorem clean_range (s : Gr.Stp) : 0 ≤ (Gr.cleanS s).kind ∧ (Gr.cleanS s).kind ≤ 5 := by
  unfold Gr.cleanS
  split
  · exact ⟨by simp, by simp⟩
  split
  · exact ⟨by simp, by simp⟩
  split
  · exact ⟨by simp, by simp⟩
  split
  · exact ⟨by simp, by simp⟩
  split <;> exact ⟨by simp, by simp⟩
end Go.Proofs.YthlmmfljeblflaaGreatDoor

/-! cell: Get, Right, Run, Drop, Copy. -/
namespace Go.Proofs.YthlmmfljeblflaaGreatDoor
set_option linter.unusedSimpArgs false
set_option linter.unusedVariables false
open Go.RowKit Ga
set_option maxRecDepth 100000

theorem thereB_at {n k : Int} (h : thereB n k = true) (v : Val) : There ⟨n, k, v, v⟩ := (thereB_iff (x := ⟨n, k, v, v⟩)).1 h
theorem TabD.found {D : DataW Unit} {m : List Tab.En} (h : TabD D m) {n k : Int} (ht : thereB n k = true) {kl : Lit} (hk : keyOf Tryz.prog 134 (ceK n k) = some kl) : D.atKey kl (ceDat (0, 0) (0, 0)) = ceDat (getT m n k).1 (getT m n k).2 := by
  rcases getT_cases m n k with ⟨x, hx, h1, h2⟩ | ⟨h1, h2⟩
  · rw [h2]
    obtain ⟨e1, e2⟩ := ((h.there x hx).inj (thereB_at ht x.c0)).1 (h1.trans rfl)
    simp only at e1 e2
    exact (h.at' x hx kl (by rw [e1, e2]; exact hk)).2 _
  · rw [h2]
    cases hh : Maps.has D kl
    · exact Maps.atKey_of_not_has hh _
    · obtain ⟨x, hx, hxk⟩ := h.has kl hh
      obtain ⟨e1, e2⟩ := ceK_inj (cell_law.inj hxk hk)
      exact absurd (by unfold Tab.num; rw [e1, e2]) (h1 x hx)
theorem zeroCells (w : World) : (zeroValue 48).run Tryz.prog w = .ok (cev (0, 0) (0, 0)) w := by kernel_rfl
theorem TabAt.look {W : World} {b n : Nat} {m : List Tab.En} (h : TabAt W b n m) {nd k : Int} (ht : thereB nd k = true) :
    (Instr.lookup 129 (.map (some b)) (ceK nd k) false).run Tryz.prog W = .ok (cev (getT m nd k).1 (getT m nd k).2) W := by
  obtain ⟨D, ho, hD⟩ := h
  obtain ⟨kl, hk⟩ := (thereB_at ht (0, 0)).kl
  obtain ⟨v, ps, hr, hR⟩ := World.ownsMap.lookup ho cell_law Tryz.underlying129 (zeroCells W) (ceR_mk (0, 0) (0, 0)) hk
  rw [hD.found ht hk] at hR
  obtain ⟨c, hv, hd⟩ := ceR_inv hR
  injection hd with hd1 _
  obtain ⟨e1, e2⟩ := ceDat_inj hd1
  rw [hr, hv, ← e1, ← e2]
set_option maxHeartbeats 2000000 in
theorem tabGet_any (W : World) (t b n : Nat) (m : List Tab.En) (hT : TableAt W t b n m) (nd k : Int) (ht : thereB nd k = true) (c0 c1 : Val) (hc : getT m nd k = (c0, c1)) :
    Calls Tryz.prog 40 #[.pointer (some ⟨t, 0, none⟩), .int .i64 nd, .int .i64 k] W (Gives (.agg #[.int .i64 c0.1, .int .i64 c0.2, .int .i64 c1.1, .int .i64 c1.2]) W) := by
  have tc := cell_of (o := 0) hT.1
  simp at tc
  have pt := Pre.mk (heap_lt hT.1)
  have hlk := fun W2 (g : Grew W W2) => (hT.2.grew g).look ht
  rw [hc] at hlk
  have hlook := hlk (W.alloc (.cells #[.int .i64 0, .int .i64 0, .int .i64 0, .int .i64 0] 48)) ((Grew.refl W).alloc _)
  unfold ceK cev at hlook
  clear hT hlk hc
  go_enter Tryz.func40, Tryz.ntmps40
  go_wp2
  refine bodyPost_ret (v := .agg #[.int .i64 c0.1, .int .i64 c0.2, .int .i64 c1.1, .int .i64 c1.2]) (by simp [results, Tryz.results40, go_sem]) rfl ?_
  exact ⟨rfl, by repeat (first | with_reducible exact Grew.refl _ | apply Grew.more | apply Grew.alloc | apply Grew.drew | apply Grew.drewN)⟩

/-- another block than the map's keeps what it has -/
theorem TableAt.keep {W W' : World} {t b b2 n : Nat} {m : List Tab.En} (h : TableAt W t b n m) (hk : Keep b2 W W') (h1 : t ≠ b2) (h2 : b ≠ b2) : TableAt W' t b n m :=
  ⟨by rw [hk.2 t (heap_lt h.1) h1]; exact h.1, h.2.same (hk.2 b h.2.lt h2)⟩
theorem TableAt.put {W W' : World} {t b n n' : Nat} {m m' : List Tab.En} (h : TableAt W t b n m) (hk : Keep b W W') (hm : TabAt W' b n' m') : TableAt W' t b n' m' :=
  ⟨by rw [hk.2 t (heap_lt h.1) h.ne]; exact h.1, hm⟩
/-! Drop -/
end Go.Proofs.YthlmmfljeblflaaGreatDoor

/-! pack.putPlan. -/
namespace Go.Proofs.YthlmmfljeblflaaGreatDoor
set_option linter.unusedSimpArgs false
set_option linter.unusedVariables false
open Go.RowKit Ga
set_option maxRecDepth 100000

theorem take_snocS {β : Type} (f : Gr.Stp → List β) (l : List Gr.Stp) (k : Nat) (h : k < l.length) : (l.take (k + 1)).flatMap f = (l.take k).flatMap f ++ f l[k] := by
  rw [List.take_succ_eq_append_getElem h, List.flatMap_append]
  simp
/-- what is written of the first k steps -/
def WroteS (p : List Gr.Stp) (k : Nat) (X : List UInt8) : Prop := X.length ≤ k * 1010 ∧ ((∀ s ∈ p.take k, Gr.OkB fitsP 0 (Gr.cleanS s).nd) → X = (p.take k).flatMap (Gr.putSt putI))
theorem WroteS.next {p : List Gr.Stp} {k : Nat} {X xs : List UInt8} {kd rs : Int} (h : WroteS p k X) (hk : k < p.length) (h1 : (Gr.cleanS p[k]).kind = kd) (h2 : (if (Gr.cleanS p[k]).reset then (1:Int) else 0) = rs) (h3 : xs.length ≤ 1000) (h4 : Gr.OkB fitsP 0 (Gr.cleanS p[k]).nd → xs = Gr.putNd putI (Gr.cleanS p[k]).nd) :
    WroteS p (k + 1) (X ++ (Oc.be kd ++ Oc.be rs) ++ xs) := by
  refine ⟨?_, fun hall => ?_⟩
  · have := h.1
    simp only [List.length_append, Oc.be_len]
    omega
  · have htk : p.take (k + 1) = p.take k ++ [p[k]] := List.take_succ_eq_append_getElem hk
    rw [take_snocS _ _ _ hk, h.2 fun s hs => hall s (by rw [htk]; exact List.mem_append_left _ hs), h4 (hall _ (by rw [htk]; exact List.mem_append_right _ (List.mem_singleton.2 rfl)))]
    unfold Gr.putSt
    rw [h1, h2]
    simp only [List.append_assoc]
end Go.Proofs.YthlmmfljeblflaaGreatDoor
