import Derived.Test.YtiocdmfmghanmaaGreatDoorVmCheck2
import Derived.Test.YtiocdmfmghanmaaGreatDoorInv
import Derived.StringKeys
import Derived.Maps.Views
import Derived.Maps.RangeWalk
/-! A map from texts to values that the call makes, and a loop over it. -/
namespace Go.Proofs.YtiocdmfmghanmaaGreatDoor
set_option linter.unusedSimpArgs false
set_option linter.unusedVariables false
open Go.RowKit Ga
set_option maxRecDepth 100000

theorem law_str : Maps.Keyed Tryz.prog 9 := Maps.string_keyed Tryz.underlying9
abbrev Ent := ByteArray × (Int × Int)
def klOf (s : ByteArray) : Lit := .string s.data.toList
theorem key_str (s : ByteArray) (h : s.size ≤ maxLen) : keyOf Tryz.prog 9 (.string s) = some (klOf s) := WideMaps.keyOf_string_mk Tryz.underlying9 h
theorem klOf_inj {s t : ByteArray} (h : klOf s = klOf t) : s = t := by
  unfold klOf at h
  injection h with h
  obtain ⟨s⟩ := s
  obtain ⟨t⟩ := t
  obtain ⟨s⟩ := s
  obtain ⟨t⟩ := t
  rw [show s = t from h]
/-- Block b is the map of the entries S. -/
structure StrD (D : DataW Unit) (S : List Ent) : Prop where
  im : Maps.IsMap D
  has : ∀ kl, Maps.has D kl = true → ∃ p ∈ S, kl = klOf p.1
  at' : ∀ p ∈ S, ∀ zd, D.atKey (klOf p.1) zd = effDat p.2
def StrAt (W : World) (b n : Nat) (S : List Ent) : Prop := ∃ D : DataW Unit, W.ownsMap Tryz.prog 9 effR b n D ∧ StrD D S
theorem StrAt.made (W : World) : StrAt (W.alloc (.map #[] 0)) W.heap.size 0 [] :=
  ⟨_, World.ownsMap_made _ _ _ _, ⟨_, rfl⟩, fun kl h => by simp [Maps.has] at h, fun p hp => by cases hp⟩
theorem StrAt.same {W W' : World} {b n : Nat} {S : List Ent} (h : StrAt W b n S) (hb : W'.heap[b]? = W.heap[b]?) : StrAt W' b n S := by
  obtain ⟨D, ⟨es, c, h1, h2⟩, h3⟩ := h
  exact ⟨D, ⟨es, c, by rw [hb]; exact h1, h2⟩, h3⟩
theorem StrAt.lt {W : World} {b n : Nat} {S : List Ent} (h : StrAt W b n S) : b < W.heap.size := by
  obtain ⟨D, ⟨es, c, h1, h2⟩, h3⟩ := h
  exact heap_lt h1
theorem StrD.put {D : DataW Unit} {S : List Ent} (h : StrD D S) (p : Ent) (hl : p.1.size ≤ maxLen) (hne : ∀ q ∈ S, q.1 ≠ p.1) : StrD (D.put (klOf p.1) (effDat p.2)) (p :: S) := by
  have hk := law_str.key (key_str p.1 hl)
  refine ⟨?_, fun kl hh => ?_, fun q hq zd => ?_⟩
  · obtain ⟨es, rfl⟩ := h.im
    exact ⟨_, rfl⟩
  · by_cases e : kl = klOf p.1
    · exact ⟨p, List.mem_cons_self .., e⟩
    · rw [Maps.has_put_other e] at hh
      obtain ⟨q, hq, e2⟩ := h.has kl hh
      exact ⟨q, List.mem_cons_of_mem _ hq, e2⟩
  · rcases List.mem_cons.1 hq with e | e
    · rw [e, Maps.atKey_put_same h.im hk]
    · rw [Maps.atKey_put_other (fun e2 => hne q e (klOf_inj e2)), h.at' q e]
theorem effR_mk (x y : Int) : effR (.agg #[.int .i64 x, .int .i64 y]) = some (effDat (x, y), []) := rfl
theorem StrAt.add {W : World} {b n : Nat} {S : List Ent} (h : StrAt W b n S) (hn : n < maxLen) (p : Ent) (hl : p.1.size ≤ maxLen) (hne : ∀ q ∈ S, q.1 ≠ p.1) :
    ∃ W', (Instr.mapUpdate 47 (.map (some b)) (.string p.1) (.agg #[.int .i64 p.2.1, .int .i64 p.2.2])).run Tryz.prog W = .ok () W' ∧ StrAt W' b (n + 1) (p :: S) ∧ W.grownBy W' (some b) := by
  obtain ⟨D, ho, hD⟩ := h
  obtain ⟨W', hr, ho', hg⟩ := World.ownsMap.update ho law_str Tryz.underlying47 hn (key_str p.1 hl) (effR_mk p.2.1 p.2.2)
  exact ⟨W', hr, ⟨_, ho', hD.put p hl hne⟩, hg⟩
end Go.Proofs.YtiocdmfmghanmaaGreatDoor
