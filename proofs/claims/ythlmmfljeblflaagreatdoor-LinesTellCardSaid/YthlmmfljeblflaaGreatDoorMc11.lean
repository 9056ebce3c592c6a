import Derived.Test.YthlmmfljeblflaaGreatDoorMc4
import Derived.Test.YthlmmfljeblflaaGreatDoorMc6
import Derived.Test.YthlmmfljeblflaaGreatDoorMc3
import Derived.Test.YthlmmfljeblflaaGreatDoorMc7
import Derived.Lib.LaidTab
import Derived.Lib.ConvBytes
import Derived.WalkSmall
import Derived.Test.YthlmmfljeblflaaGreatDoorMc0
import Derived.Test.YthlmmfljeblflaaGreatDoorMc5
import Derived.DeepKeys4
import Derived.DeepKeys5
import Derived.Maps.Views
import Derived.Maps.OwnSet
import Derived.Maps.RangeWalk
/-! Texts of values. -/
namespace Go.Proofs.YthlmmfljeblflaaGreatDoor
set_option linter.unusedSimpArgs false
set_option linter.unusedVariables false
open Go.RowKit Ga

theorem grew_grow (w : World) (k : Nat) (os : Array Obj) : Grew w (Sort.grow (w.drewN k) os) := ⟨os, w.drawn + k, rfl⟩
theorem grew_bytes (w : World) (t : TypeId) (x : ByteArray) : Grew w (Lib.bytesWorld w t x) := by
  apply Grew.ofBelow
  unfold Lib.bytesWorld
  exact below_freeze (((Below.refl _ _).drew).alloc (Nat.le_refl _) _) (p := ⟨w.heap.size, _, none⟩) (Nat.le_refl w.heap.size) _

/-- The table that strconv.Itoa reads. -/
def Pow (w : World) : Prop := Lib.TabIs Tryz.prog w "internal/strconv.uint64pow10" .u64 Lib.pow10Tab
theorem var_grew {n : String} {cs : Array Value} {w w' : World} (h : w.var? Tryz.prog n = some cs) (g : Grew w w') : w'.var? Tryz.prog n = some cs := by
  cases hg : Tryz.prog.globalNamed n with
  | none => unfold World.var? at h; simp [hg] at h
  | some i =>
    by_cases hi : i < w.heap.size
    · exact var?_below g.below hg hi h
    · unfold World.var? at h
      have : w.heap[i]? = none := Array.getElem?_eq_none (by omega)
      simp [hg, this] at h
theorem Pow.grew {w w' : World} (h : Pow w) (g : Grew w w') : Pow w' := var_grew h g

theorem itoa_any (n : Int) (h : -9223372036854775808 ≤ n ∧ n ≤ 9223372036854775807) (w : World) (hp : Pow w) : Calls Tryz.prog 16 #[.int .i64 n] w (Gives (str (Lib.itoa n)) w) := by
  refine (Tryz.strconv_Itoa n h.1 h.2 w hp).mono ?_
  rintro e w' ⟨rfl, k, os, rfl⟩
  exact ⟨rfl, grew_grow w k os⟩

end Go.Proofs.YthlmmfljeblflaaGreatDoor

/-! forebayref03.Text. -/
namespace Go.Proofs.YthlmmfljeblflaaGreatDoor
set_option linter.unusedSimpArgs false
set_option linter.unusedVariables false
open Go.RowKit Ga
set_option maxRecDepth 100000

end Go.Proofs.YthlmmfljeblflaaGreatDoor

/-! What is kept: a map from places (a node, a key) to two values each, as a list of entries. -/
namespace Go.Proofs.YthlmmfljeblflaaGreatDoor
set_option linter.unusedSimpArgs false
set_option linter.unusedVariables false
open Go.RowKit Ga
set_option maxRecDepth 100000

theorem laidOutC : laidOutB Tryz.prog = true := by kernel_rfl
theorem cell_law : Maps.Keyed Tryz.prog 134 := Maps.Keyed.of_law (deep_law_laid laidOutC (m := 3) (by decide) (of_decide_eq_true (by kernel_rfl)) (by kernel_rfl) (by kernel_rfl))
/-- a place as a key -/
def ceK (n k : Int) : Value := .agg #[.int .i64 n, .int .i64 k]
theorem ceK_inj {n k n' k' : Int} (h : ceK n k = ceK n' k') : n = n' ∧ k = k' := by
  unfold ceK at h
  simp at h
  exact h
theorem keyTypeC : Tryz.prog.keyType 134 = true := by kernel_rfl
theorem cellsC : Tryz.prog.cellsOf 134 = 2 := by kernel_rfl
theorem cellsCI : Tryz.prog.cellsOf 3 = 1 := by kernel_rfl
theorem sizeC : Tryz.prog.types.size ≠ 0 := of_decide_eq_true (by kernel_rfl)
theorem keyC (n k : Int) (h1 : -9223372036854775808 ≤ n ∧ n ≤ 9223372036854775807) (h2 : -9223372036854775808 ≤ k ∧ k ≤ 9223372036854775807) : ∃ kl, keyOf Tryz.prog 134 (ceK n k) = some kl := by
  have w1 := WalkArith.wf_i64 h1
  have w2 := WalkArith.wf_i64 h2
  unfold ceK keyOf
  obtain ⟨m, hm⟩ := Nat.exists_eq_succ_of_ne_zero sizeC
  simp only [Tryz.underlying134, keyTypeC, hm]
  simp [Value.formed, Tryz.underlying134, cellsC, Program.keyLits, Value.cells, Tryz.underlying3, cellsCI, w1, w2]
/-- two values, as they lie -/
def cev (x y : Val) : Value := .agg #[.int .i64 x.1, .int .i64 x.2, .int .i64 y.1, .int .i64 y.2]
def ceDat (x y : Val) : DataW Unit := .agg [.lit (.int .i64 x.1), .lit (.int .i64 x.2), .lit (.int .i64 y.1), .lit (.int .i64 y.2)]
def ceL : List Value → Option (DataW Unit × List MemPlace)
  | [.int .i64 a, .int .i64 b, .int .i64 c, .int .i64 d] => some (.agg [.lit (.int .i64 a), .lit (.int .i64 b), .lit (.int .i64 c), .lit (.int .i64 d)], [])
  | _ => none
def ceR : Value → Option (DataW Unit × List MemPlace)
  | .agg c => ceL c.toList
  | _ => none
theorem ceR_mk (x y : Val) : ceR (cev x y) = some (ceDat x y, []) := rfl
theorem ceR_inv {v : Value} {d : DataW Unit × List MemPlace} (h : ceR v = some d) : ∃ c : Val × Val, v = cev c.1 c.2 ∧ d = (ceDat c.1 c.2, []) := by
  cases v with
  | agg c =>
    obtain ⟨c⟩ := c
    have h2 : ceL c = some d := h
    unfold ceL at h2
    split at h2
    · rename_i a b p q
      exact ⟨((a, b), (p, q)), rfl, (Option.some.inj h2).symm⟩
    · cases h2
  | _ => cases h
theorem ceDat_inj {x y p q : Val} (h : ceDat x y = ceDat p q) : x = p ∧ y = q := by
  obtain ⟨a, b⟩ := x
  obtain ⟨c, d⟩ := y
  obtain ⟨e, f⟩ := p
  obtain ⟨g, i⟩ := q
  unfold ceDat at h
  simp at h
  obtain ⟨rfl, rfl, rfl, rfl⟩ := h
  exact ⟨rfl, rfl⟩
/-- an entry's place is one -/
def There (x : Tab.En) : Prop := (0 ≤ x.node ∧ x.node < 8) ∧ (0 ≤ x.key ∧ x.key < 64)
theorem There.inj {x y : Tab.En} (hx : There x) (hy : There y) : Tab.num x = Tab.num y ↔ x.node = y.node ∧ x.key = y.key :=
  ⟨Tab.num_inj hx.2 hy.2, fun ⟨h1, h2⟩ => by unfold Tab.num; rw [h1, h2]⟩
theorem There.kl {x : Tab.En} (h : There x) : ∃ kl, keyOf Tryz.prog 134 (ceK x.node x.key) = some kl := keyC _ _ (by have := h.1; omega) (by have := h.2; omega)
structure TabD (D : DataW Unit) (m : List Tab.En) : Prop where
  im : Maps.IsMap D
  has : ∀ kl, Maps.has D kl = true → ∃ x ∈ m, keyOf Tryz.prog 134 (ceK x.node x.key) = some kl
  at' : ∀ x ∈ m, ∀ kl, keyOf Tryz.prog 134 (ceK x.node x.key) = some kl → Maps.has D kl = true ∧ ∀ zd, D.atKey kl zd = ceDat x.c0 x.c1
  there : ∀ x ∈ m, There x
  un : m.Pairwise fun a b => Tab.num a ≠ Tab.num b
def TabAt (W : World) (b n : Nat) (m : List Tab.En) : Prop := ∃ D : DataW Unit, W.ownsMap Tryz.prog 134 ceR b n D ∧ TabD D m
theorem TabAt.made (W : World) : TabAt (W.alloc (.map #[] 0)) W.heap.size 0 [] :=
  ⟨_, World.ownsMap_made _ _ _ _, ⟨_, rfl⟩, fun kl h => by simp [Maps.has] at h, fun p hp => (by cases hp), fun p hp => (by cases hp), List.Pairwise.nil⟩
theorem TabAt.same {W W' : World} {b n : Nat} {m : List Tab.En} (h : TabAt W b n m) (hb : W'.heap[b]? = W.heap[b]?) : TabAt W' b n m := by
  obtain ⟨D, ⟨es, c, h1, h2⟩, h3⟩ := h
  exact ⟨D, ⟨es, c, by rw [hb]; exact h1, h2⟩, h3⟩
theorem TabAt.lt {W : World} {b n : Nat} {m : List Tab.En} (h : TabAt W b n m) : b < W.heap.size := by
  obtain ⟨D, ho, _⟩ := h
  exact ho.lt
theorem TabAt.grew {W W' : World} {b n : Nat} {m : List Tab.En} (h : TabAt W b n m) (g : Grew W W') : TabAt W' b n m := h.same (g.below.block b h.lt)
theorem TabAt.more {W : World} {b n n' : Nat} {m : List Tab.En} (h : TabAt W b n m) (hn : n ≤ n') : TabAt W b n' m := by
  obtain ⟨D, ho, h2⟩ := h
  exact ⟨D, ho.mono hn, h2⟩
theorem key_other {x y : Tab.En} (hx : There x) (hy : There y) {kx ky : Lit} (h1 : keyOf Tryz.prog 134 (ceK x.node x.key) = some kx) (h2 : keyOf Tryz.prog 134 (ceK y.node y.key) = some ky) : kx = ky ↔ Tab.num x = Tab.num y := by
  constructor
  · intro e
    exact (hx.inj hy).2 (ceK_inj (cell_law.inj (e ▸ h1) h2))
  · intro e
    obtain ⟨e1, e2⟩ := (hx.inj hy).1 e
    rw [e1, e2, h2] at h1
    exact (Option.some.inj h1).symm
theorem TabD.put {D : DataW Unit} {m : List Tab.En} (h : TabD D m) (x : Tab.En) (hx : There x) {kl : Lit} (hk : keyOf Tryz.prog 134 (ceK x.node x.key) = some kl) : TabD (D.put kl (ceDat x.c0 x.c1)) (x :: m.filter fun y => Tab.num y != Tab.num x) := by
  have hf : ∀ y ∈ m.filter (fun y => Tab.num y != Tab.num x), y ∈ m ∧ Tab.num y ≠ Tab.num x := fun y hy => by
    obtain ⟨h1, h2⟩ := List.mem_filter.1 hy
    exact ⟨h1, by simpa using h2⟩
  refine ⟨h.im.put _ _, fun k2 hh => ?_, fun y hy k2 hk2 => ?_, fun y hy => ?_, List.pairwise_cons.2 ⟨fun y hy e => (hf y hy).2 e.symm, h.un.filter _⟩⟩
  · by_cases e : k2 = kl
    · exact ⟨x, List.mem_cons_self .., by rw [e]; exact hk⟩
    · rw [Maps.has_put_other e] at hh
      obtain ⟨y, hy, hyk⟩ := h.has k2 hh
      refine ⟨y, List.mem_cons_of_mem _ (List.mem_filter.2 ⟨hy, ?_⟩), hyk⟩
      rw [bne_iff_ne]
      exact fun e2 => e ((key_other (h.there y hy) hx hyk hk).2 e2)
  · rcases List.mem_cons.1 hy with rfl | hy
    · rw [hk] at hk2
      cases hk2
      exact ⟨Maps.has_put_same h.im (cell_law.key hk) _, fun zd => Maps.atKey_put_same h.im (cell_law.key hk) _ _⟩
    · obtain ⟨h1, h2⟩ := hf y hy
      have hne : k2 ≠ kl := fun e => h2 ((key_other (h.there y h1) hx hk2 hk).1 e)
      rw [Maps.has_put_other hne]
      exact ⟨(h.at' y h1 k2 hk2).1, fun zd => by rw [Maps.atKey_put_other hne]; exact (h.at' y h1 k2 hk2).2 zd⟩
  · rcases List.mem_cons.1 hy with rfl | hy
    · exact hx
    · exact h.there y (hf y hy).1
theorem TabD.del {D : DataW Unit} {m : List Tab.En} (h : TabD D m) (x : Tab.En) (hx : There x) {kl : Lit} (hk : keyOf Tryz.prog 134 (ceK x.node x.key) = some kl) : TabD (D.del kl) (m.filter fun y => Tab.num y != Tab.num x) := by
  have hf : ∀ y ∈ m.filter (fun y => Tab.num y != Tab.num x), y ∈ m ∧ Tab.num y ≠ Tab.num x := fun y hy => by
    obtain ⟨h1, h2⟩ := List.mem_filter.1 hy
    exact ⟨h1, by simpa using h2⟩
  refine ⟨h.im.del _, fun k2 hh => ?_, fun y hy k2 hk2 => ?_, fun y hy => h.there y (hf y hy).1, h.un.filter _⟩
  · by_cases e : k2 = kl
    · rw [e, Maps.has_del_same] at hh
      cases hh
    · rw [Maps.has_del_other e] at hh
      obtain ⟨y, hy, hyk⟩ := h.has k2 hh
      refine ⟨y, List.mem_filter.2 ⟨hy, ?_⟩, hyk⟩
      rw [bne_iff_ne]
      exact fun e2 => e ((key_other (h.there y hy) hx hyk hk).2 e2)
  · obtain ⟨h1, h2⟩ := hf y hy
    have hne : k2 ≠ kl := fun e => h2 ((key_other (h.there y h1) hx hk2 hk).1 e)
    rw [Maps.has_del_other hne]
    exact ⟨(h.at' y h1 k2 hk2).1, fun zd => by rw [Maps.atKey_del_other hne]; exact (h.at' y h1 k2 hk2).2 zd⟩
theorem keep_turned {W W' : World} {b : Nat} (h : W.mapTurned W' b) : Keep b W W' := ⟨h.grown.size, fun q hq hne => h.grown.block q hq fun e => hne (Option.some.inj e)⟩
theorem grew_turned {w0 W W' : World} {b : Nat} (g : Grew w0 W) (hb : w0.heap.size ≤ b) (h : W.mapTurned W' b) : Grew w0 W' := g.grown h.grown fun q hq => by cases hq; exact hb
/-- something is kept -/
theorem TabAt.put {W : World} {b n : Nat} {m : List Tab.En} (h : TabAt W b n m) (hn : n < maxLen) (x : Tab.En) (hx : There x) :
    ∃ W', (Instr.mapUpdate 129 (.map (some b)) (ceK x.node x.key) (cev x.c0 x.c1)).run Tryz.prog W = .ok () W' ∧ TabAt W' b (n + 1) (x :: m.filter fun y => Tab.num y != Tab.num x) ∧ W.mapTurned W' b := by
  obtain ⟨D, ho, hD⟩ := h
  obtain ⟨kl, hk⟩ := hx.kl
  obtain ⟨W', hr, ho', hg⟩ := World.ownsMap.store ho cell_law Tryz.underlying129 hn hk (ceR_mk x.c0 x.c1)
  exact ⟨W', hr, ⟨_, ho', hD.put x hx hk⟩, hg⟩
/-- nothing is kept any more -/
theorem TabAt.del {W : World} {b n : Nat} {m : List Tab.En} (h : TabAt W b n m) (x : Tab.En) (hx : There x) (ty : TypeId) :
    ∃ W', (Builtin.delete_ #[129, 134] ty #[.map (some b), ceK x.node x.key]).run Tryz.prog W = .ok (.tuple #[]) W' ∧ TabAt W' b n (m.filter fun y => Tab.num y != Tab.num x) ∧ W.mapTurned W' b := by
  obtain ⟨D, ho, hD⟩ := h
  obtain ⟨kl, hk⟩ := hx.kl
  obtain ⟨W', hr, ho', hg⟩ := World.ownsMap.drop ho cell_law Tryz.underlying129 hk ty
  exact ⟨W', hr, ⟨_, ho', hD.del x hx hk⟩, hg⟩
end Go.Proofs.YthlmmfljeblflaaGreatDoor

/-! slices.SortFunc where there is nothing. -/
namespace Go.Proofs.YthlmmfljeblflaaGreatDoor
set_option linter.unusedSimpArgs false
set_option linter.unusedVariables false
open Go.RowKit
set_option maxRecDepth 100000

end Go.Proofs.YthlmmfljeblflaaGreatDoor

/-! A map in memory, whatever its keys and values: a list of pairs, no key twice. -/
namespace Go.Proofs.YthlmmfljeblflaaGreatDoor
set_option linter.unusedSimpArgs false
set_option linter.unusedVariables false
open Go.RowKit
set_option maxRecDepth 100000

/-- what a map's keys and values are -/
structure MSpec (κ ν : Type) where
  kt : TypeId
  law : Maps.Keyed Tryz.prog kt
  kenc : κ → Value
  kinj : ∀ a b, kenc a = kenc b → a = b
  ok : κ → Prop
  key : ∀ a, ok a → ∃ kl, keyOf Tryz.prog kt (kenc a) = some kl
  venc : ν → Value
  dat : ν → DataW Unit
  R : Value → Option (DataW Unit × List MemPlace)
  rmk : ∀ v, R (venc v) = some (dat v, [])
  rinv : ∀ u ps v, R u = some (dat v, ps) → u = venc v
structure MpD {κ ν : Type} (S : MSpec κ ν) (D : DataW Unit) (m : List (κ × ν)) : Prop where
  tidy : Maps.Tidy D
  has : ∀ kl, Maps.has D kl = true → ∃ x ∈ m, keyOf Tryz.prog S.kt (S.kenc x.1) = some kl
  at' : ∀ x ∈ m, ∀ kl, keyOf Tryz.prog S.kt (S.kenc x.1) = some kl → Maps.has D kl = true ∧ ∀ zd, D.atKey kl zd = S.dat x.2
  ok : ∀ x ∈ m, S.ok x.1
  un : m.Pairwise fun a b => a.1 ≠ b.1
  sz : Maps.size D = m.length
def MapAt {κ ν : Type} (S : MSpec κ ν) (W : World) (b n : Nat) (m : List (κ × ν)) : Prop := ∃ D : DataW Unit, W.ownsMap Tryz.prog S.kt S.R b n D ∧ MpD S D m
theorem MapAt.made {κ ν : Type} (S : MSpec κ ν) (W : World) : MapAt S (W.alloc (.map #[] 0)) W.heap.size 0 [] :=
  ⟨_, World.ownsMap_made _ _ _ _, ⟨Maps.tidy_empty, fun kl h => by simp [Maps.has] at h, fun p hp => (by cases hp), fun p hp => (by cases hp), List.Pairwise.nil, rfl⟩⟩
theorem MapAt.same {κ ν : Type} {S : MSpec κ ν} {W W' : World} {b n : Nat} {m : List (κ × ν)} (h : MapAt S W b n m) (hb : W'.heap[b]? = W.heap[b]?) : MapAt S W' b n m := by
  obtain ⟨D, ⟨es, c, h1, h2⟩, h3⟩ := h
  exact ⟨D, ⟨es, c, by rw [hb]; exact h1, h2⟩, h3⟩
theorem MapAt.lt {κ ν : Type} {S : MSpec κ ν} {W : World} {b n : Nat} {m : List (κ × ν)} (h : MapAt S W b n m) : b < W.heap.size := by
  obtain ⟨D, ho, _⟩ := h
  exact ho.lt
theorem MapAt.grew {κ ν : Type} {S : MSpec κ ν} {W W' : World} {b n : Nat} {m : List (κ × ν)} (h : MapAt S W b n m) (g : Grew W W') : MapAt S W' b n m := h.same (g.below.block b h.lt)
theorem MapAt.more {κ ν : Type} {S : MSpec κ ν} {W : World} {b n n' : Nat} {m : List (κ × ν)} (h : MapAt S W b n m) (hn : n ≤ n') : MapAt S W b n' m := by
  obtain ⟨D, ho, h2⟩ := h
  exact ⟨D, ho.mono hn, h2⟩
theorem MpD.fresh {κ ν : Type} {S : MSpec κ ν} {D : DataW Unit} {m : List (κ × ν)} (h : MpD S D m) {k : κ} (hk : ∀ x ∈ m, x.1 ≠ k) {kl : Lit} (hl : keyOf Tryz.prog S.kt (S.kenc k) = some kl) : Maps.has D kl = false := by
  cases hh : Maps.has D kl
  · rfl
  · obtain ⟨x, hx, hxk⟩ := h.has kl hh
    exact absurd (S.kinj _ _ (S.law.inj hxk hl)) (hk x hx)
theorem MpD.put {κ ν : Type} {S : MSpec κ ν} {D : DataW Unit} {m : List (κ × ν)} (h : MpD S D m) (k : κ) (v : ν) (hok : S.ok k) (hf : ∀ x ∈ m, x.1 ≠ k) {kl : Lit} (hk : keyOf Tryz.prog S.kt (S.kenc k) = some kl) : MpD S (D.put kl (S.dat v)) ((k, v) :: m) := by
  have hno := h.fresh hf hk
  refine ⟨h.tidy.put (S.law.key hk) _, fun k2 hh => ?_, fun y hy k2 hk2 => ?_, fun y hy => ?_, List.pairwise_cons.2 ⟨fun y hy e => hf y hy e.symm, h.un⟩, ?_⟩
  · by_cases e : k2 = kl
    · exact ⟨_, List.mem_cons_self .., by rw [e]; exact hk⟩
    · rw [Maps.has_put_other e] at hh
      obtain ⟨y, hy, hyk⟩ := h.has k2 hh
      exact ⟨y, List.mem_cons_of_mem _ hy, hyk⟩
  · rcases List.mem_cons.1 hy with rfl | hy
    · rw [hk] at hk2
      cases hk2
      exact ⟨Maps.has_put_same h.tidy.isMap (S.law.key hk) _, fun zd => Maps.atKey_put_same h.tidy.isMap (S.law.key hk) _ _⟩
    · have hne : k2 ≠ kl := fun e => hf y hy (S.kinj _ _ (S.law.inj (e ▸ hk2) hk))
      rw [Maps.has_put_other hne]
      exact ⟨(h.at' y hy k2 hk2).1, fun zd => by rw [Maps.atKey_put_other hne]; exact (h.at' y hy k2 hk2).2 zd⟩
  · rcases List.mem_cons.1 hy with rfl | hy
    · exact hok
    · exact h.ok y hy
  · rw [Maps.size_put h.tidy, hno, h.sz]
    rfl
theorem MapAt.put {κ ν : Type} {S : MSpec κ ν} {W : World} {b n : Nat} {m : List (κ × ν)} (h : MapAt S W b n m) (hn : n < maxLen) (k : κ) (v : ν) (hok : S.ok k) (hf : ∀ x ∈ m, x.1 ≠ k) {t e : TypeId} (ht : Tryz.prog.underlying t = some (.map S.kt e)) :
    ∃ W', (Instr.mapUpdate t (.map (some b)) (S.kenc k) (S.venc v)).run Tryz.prog W = .ok () W' ∧ MapAt S W' b (n + 1) ((k, v) :: m) ∧ W.mapTurned W' b := by
  obtain ⟨D, ho, hD⟩ := h
  obtain ⟨kl, hk⟩ := S.key k hok
  obtain ⟨W', hr, ho', hg⟩ := World.ownsMap.store ho S.law ht hn hk (S.rmk v)
  exact ⟨W', hr, ⟨_, ho', hD.put k v hok hf hk⟩, hg⟩
open Classical in
/-- what is kept of a key -/
noncomputable def mfind {κ ν : Type} (m : List (κ × ν)) (k : κ) : Option ν := (m.find? fun x => decide (x.1 = k)).map (·.2)
theorem mfind_cases {κ ν : Type} (m : List (κ × ν)) (k : κ) : (∃ v, mfind m k = some v ∧ (k, v) ∈ m) ∨ (mfind m k = none ∧ ∀ x ∈ m, x.1 ≠ k) := by
  classical
  unfold mfind
  cases h : m.find? fun x => decide (x.1 = k) with
  | none =>
    refine .inr ⟨rfl, fun x hx => ?_⟩
    simpa using List.find?_eq_none.1 h x hx
  | some x =>
    have h1 := List.find?_some h
    have h2 := List.mem_of_find?_eq_some h
    obtain ⟨a, v⟩ := x
    simp only [decide_eq_true_eq] at h1
    subst h1
    exact .inl ⟨v, rfl, h2⟩
theorem MpD.found {κ ν : Type} {S : MSpec κ ν} {D : DataW Unit} {m : List (κ × ν)} (h : MpD S D m) {k : κ} {kl : Lit} (hl : keyOf Tryz.prog S.kt (S.kenc k) = some kl) (v0 : ν) : Maps.has D kl = (mfind m k).isSome ∧ D.atKey kl (S.dat v0) = S.dat ((mfind m k).getD v0) := by
  rcases mfind_cases m k with ⟨v, h1, h2⟩ | ⟨h1, h2⟩
  · obtain ⟨h3, h4⟩ := h.at' _ h2 kl hl
    rw [h1]
    exact ⟨h3, h4 _⟩
  · have h3 := h.fresh h2 hl
    rw [h1, h3]
    exact ⟨rfl, Maps.atKey_of_not_has h3 _⟩
theorem MapAt.look {κ ν : Type} {S : MSpec κ ν} {W : World} {b n : Nat} {m : List (κ × ν)} (h : MapAt S W b n m) (k : κ) (hok : S.ok k) {t e : TypeId} (ht : Tryz.prog.underlying t = some (.map S.kt e)) (v0 : ν) (hz : (zeroValue e).run Tryz.prog W = .ok (S.venc v0) W) :
    (Instr.lookup t (.map (some b)) (S.kenc k) false).run Tryz.prog W = .ok (S.venc ((mfind m k).getD v0)) W := by
  obtain ⟨D, ho, hD⟩ := h
  obtain ⟨kl, hk⟩ := S.key k hok
  obtain ⟨v, ps, hr, hR⟩ := World.ownsMap.lookup ho S.law ht hz (S.rmk v0) hk
  rw [(hD.found hk v0).2] at hR
  rw [hr, S.rinv _ _ _ hR]
theorem MapAt.len {κ ν : Type} {S : MSpec κ ν} {W : World} {b n : Nat} {m : List (κ × ν)} (h : MapAt S W b n m) {t e : TypeId} (ht : Tryz.prog.underlying t = some (.map S.kt e)) (ty : TypeId) :
    (Builtin.len_ #[t] ty #[.map (some b)]).run Tryz.prog W = .ok (.int .i64 m.length) W := by
  obtain ⟨D, ho, hD⟩ := h
  rw [ho.len ht ty, hD.sz]
theorem MapAt.un {κ ν : Type} {S : MSpec κ ν} {W : World} {b n : Nat} {m : List (κ × ν)} (h : MapAt S W b n m) : m.Pairwise fun a b => a.1 ≠ b.1 := by
  obtain ⟨D, ho, hD⟩ := h
  exact hD.un
end Go.Proofs.YthlmmfljeblflaaGreatDoor

/-! Right manifests: plain laws. -/
namespace Gr
open Oc (be bes)
open Ga Tab
set_option linter.unusedSimpArgs false
set_option linter.unusedVariables false

/-- a manifest that may be, by the document -/
structure RightM (fits : List Vm.Ins → Prop) (m : Mf) : Prop where
  ep : 0 ≤ m.epoch ∧ m.epoch ≤ 2147483647
  pl : 0 ≤ m.plans ∧ m.plans ≤ 2147483647
  gr : RightR m.graph
  so : m.graph.Pairwise fun a b => a.id < b.id
  of : ∃ n, m.graph.head? = some n ∧ (m.offs.length : Int) = n.par
  o4 : ∀ x ∈ m.offs, 0 ≤ x ∧ x ≤ 400
  en : ∀ x ∈ m.ents, (0 ≤ x.node ∧ x.node < 8) ∧ (0 ≤ x.key ∧ x.key < 64) ∧ rightV x.c0 = true ∧ rightV x.c1 = true ∧ nz x = true
  ei : m.ents.Pairwise fun a b => num a < num b
  ek : ∀ x ∈ m.ents, ∃ n, nodeOf m.graph x.node = some n ∧ n.kind = 1
  ol : m.out.length ≤ 4000
  ou : ∀ x ∈ m.out, (0 ≤ x.sink ∧ x.sink ≤ 7) ∧ (0 ≤ x.frm ∧ x.frm ≤ 7) ∧ (0 ≤ x.key ∧ x.key < 64) ∧ rightV x.v = true
  pn : m.plan = [] ∨ OkPl fits m.plan ∧ ∀ x ∈ m.plan, cleanS x = x
theorem okV_of {v : Val} (h : rightV v = true) : okV v := by
  unfold rightV at h
  simp only [Bool.and_eq_true, decide_eq_true_eq] at h
  have h1 := into_range v.1
  have h2 := into_range v.2
  unfold okV
  omega
theorem ents_len {l : List En} (h : ∀ x ∈ l, (0 ≤ x.node ∧ x.node < 8) ∧ (0 ≤ x.key ∧ x.key < 64)) (hs : l.Pairwise fun a b => num a < num b) : l.length ≤ 512 := by
  have hnd : (l.map fun x => (num x).toNat).Nodup := by
    rw [List.Nodup, List.pairwise_map]
    refine hs.imp_of_mem fun {a b} ha hb hlt => ?_
    have h1 := h a ha
    have h2 := h b hb
    unfold num at hlt ⊢
    omega
  have := hnd.length_le_of_subset (l₂ := List.range 512) (fun y hy => by
    obtain ⟨x, hx, rfl⟩ := List.mem_map.1 hy
    have h1 := h x hx
    rw [List.mem_range]
    unfold num
    omega)
  simpa using this
section
variable {gp : List UInt8 → List Vm.Ins × Int × List UInt8} {pp : List Vm.Ins → List UInt8} {fits : List Vm.Ins → Prop}
theorem putNd_len (hl : ∀ l, fits l → (pp l).length ≤ 200) {lp : Int} {n : Nd} (h : OkB fits lp n) : (putNd pp n).length ≤ 260 := by
  unfold putNd
  simp only [List.length_append, Oc.be_len, Oc.bes_len]
  have := hl _ h.p
  have := h.m
  have := h.ol
  omega
theorem flat_len {α : Type} {f : α → List UInt8} {k : Nat} : ∀ (l : List α), (∀ x ∈ l, (f x).length ≤ k) → (l.flatMap f).length ≤ l.length * k
  | [], _ => Nat.zero_le _
  | x :: l, h => by
    rw [List.flatMap_cons, List.length_append, List.length_cons, Nat.add_mul, Nat.one_mul]
    have h1 := h x (List.mem_cons_self ..)
    have h2 := flat_len l fun y hy => h y (List.mem_cons_of_mem _ hy)
    omega
theorem putPl_len (hl : ∀ l, fits l → (pp l).length ≤ 200) {p : List Stp} (h : OkPl fits p) : (putPl pp p).length ≤ 8000 := by
  unfold putPl
  rw [List.length_append, Oc.be_len]
  have h1 := flat_len (f := putSt pp) (k := 268) p fun s hs => by
    unfold putSt
    simp only [List.length_append, Oc.be_len]
    have := putNd_len hl (h.2.2 s hs).2
    omega
  have := h.2.1
  have h2 : p.length * 268 ≤ 6 * 268 := Nat.mul_le_mul_right _ this
  omega
theorem RightM.okM {m : Mf} (h : RightM fits m) (h0 : fits []) (hs : ∀ p, Vm.safe p = true → fits p) (hr : ∀ n ∈ m.graph, n.route.length = 8) (hl : ∀ l, fits l → (pp l).length ≤ 200) : okM pp fits m := by
  refine ⟨h.ep, h.pl, ⟨?_, h.o4⟩, ⟨by have := h.gr.len; omega, h.gr.okB h0 hs hr⟩, ⟨?_, fun x hx => ?_⟩, ⟨by have := h.ol; omega, fun x hx => ?_⟩, ?_⟩
  · obtain ⟨n, hn, e⟩ := h.of
    have hm : n ∈ m.graph := List.mem_of_mem_head? hn
    obtain ⟨i, hk⟩ := h.gr.at hm
    have := hk.pr3
    omega
  · have := ents_len (fun x hx => ⟨(h.en x hx).1, (h.en x hx).2.1⟩) h.ei
    omega
  · obtain ⟨h1, h2, h3, h4, -⟩ := h.en x hx
    exact ⟨⟨⟨by omega, by omega⟩, okV_of h3⟩, okV_of h4⟩
  · obtain ⟨h1, h2, h3, h4⟩ := h.ou x hx
    exact ⟨⟨⟨h1, h2⟩, by omega⟩, okV_of h4⟩
  · rcases h.pn with e | ⟨h1, h2⟩
    · exact .inl e
    · exact .inr ⟨h1, h2, by have := putPl_len hl h1; omega⟩
end
end Gr

/-! Right manifests: the program's answer is the document's: plain laws. -/
namespace Gr
open Oc (be bes)
open Ga Tab
set_option linter.unusedSimpArgs false
set_option linter.unusedVariables false

end Gr

/-! What each task begins with: plain laws. -/
namespace Gr
open Tab Ga
set_option linter.unusedSimpArgs false
set_option linter.unusedVariables false

/-- a key's task at a node -/
def taskOf (n : Nd) (k : Int) : Int := n.route.getD (k % 8).toNat 0
def partE (n : Nd) (t : Int) (l : List En) : List En := l.filter fun x => x.node == n.id && taskOf n x.key == t
def many (g : List Nd) (l : List En) : Nat := (g.map fun n => ((List.range n.par.toNat).map fun t => (partE n (t : Nat) l).length).sum).sum
end Gr

/-! Bytes with more behind them: plain laws of PackTexts. -/
namespace Gr
open Oc (be bes)
set_option linter.unusedSimpArgs false
set_option linter.unusedVariables false
section
variable {gp : List UInt8 → List Vm.Ins × Int × List UInt8} {pp : List Vm.Ins → List UInt8} {fits : List Vm.Ins → Prop}
end
end Gr
