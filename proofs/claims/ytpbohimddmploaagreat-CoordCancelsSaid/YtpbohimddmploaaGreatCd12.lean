import Derived.Test.YtpbohimddmploaaGreatCd5
import Derived.Test.YtpbohimddmploaaGreatCd0
import Derived.Test.YtpbohimddmploaaGreatCd6
import Derived.DeepKeys4
import Derived.DeepKeys5
import Derived.Maps.Views
import Derived.Maps.OwnSet
import Derived.Maps.RangeWalk
import Derived.Deep.LoopGhost
import Derived.ChangeKeysEq
set_option linter.unusedSimpArgs false
set_option linter.unusedVariables false
set_option maxRecDepth 100000
set_option maxHeartbeats 64000000
namespace Go.Proofs.YtpbohimddmploaaGreat
open Go.RowKit Ga

theorem laidOutC : laidOutB Tryz.prog = true := by kernel_rfl
theorem cell_law : Maps.Keyed Tryz.prog 271 := Maps.Keyed.of_law (deep_law_laid laidOutC (m := 3) (by decide) (of_decide_eq_true (by kernel_rfl)) (by kernel_rfl) (by kernel_rfl))
def ceK (n k : Int) : Value := .agg #[.int .i64 n, .int .i64 k]
theorem ceK_inj {n k n' k' : Int} (h : ceK n k = ceK n' k') : n = n' ∧ k = k' := by
  unfold ceK at h
  simp at h
  exact h
theorem keyTypeC : Tryz.prog.keyType 271 = true := by kernel_rfl
theorem cellsC : Tryz.prog.cellsOf 271 = 2 := by kernel_rfl
theorem cellsCI : Tryz.prog.cellsOf 3 = 1 := by kernel_rfl
theorem sizeC : Tryz.prog.types.size ≠ 0 := of_decide_eq_true (by kernel_rfl)
theorem keyC (n k : Int) (h1 : -9223372036854775808 ≤ n ∧ n ≤ 9223372036854775807) (h2 : -9223372036854775808 ≤ k ∧ k ≤ 9223372036854775807) : ∃ kl, keyOf Tryz.prog 271 (ceK n k) = some kl := by
  have w1 := WalkArith.wf_i64 h1
  have w2 := WalkArith.wf_i64 h2
  unfold ceK keyOf
  obtain ⟨m, hm⟩ := Nat.exists_eq_succ_of_ne_zero sizeC
  simp only [Tryz.underlying271, keyTypeC, hm]
  simp [Value.formed, Tryz.underlying271, cellsC, Program.keyLits, Value.cells, Tryz.underlying3, cellsCI, w1, w2]
def cev (x y : Val) : Value := .agg #[.int .i64 x.1, .int .i64 x.2, .int .i64 y.1, .int .i64 y.2]
def ceDat (x y : Val) : DataW Unit := .agg [.lit (.int .i64 x.1), .lit (.int .i64 x.2), .lit (.int .i64 y.1), .lit (.int .i64 y.2)]
def ceL : List Value → Option (DataW Unit × List MemPlace)
  | [.int .i64 a, .int .i64 b, .int .i64 c, .int .i64 d] => some (.agg [.lit (.int .i64 a), .lit (.int .i64 b), .lit (.int .i64 c), .lit (.int .i64 d)], [])
  | _ => none
def ceR : Value → Option (DataW Unit × List MemPlace)
  | .agg c => ceL c.toList
  | _ => none
theorem ceR_mk (x y : Val) : ceR (cev x y) = some (ceDat x y, []) := rfl
theorem ceR_inv {v : Value} {d : DataW Unit × List MemPlace} (h : ceR v = some d) : ∃ c : Val × Val, v = cev c.1 c.2 ∧ d = (ceDat c.1 c.2, []) := by
  cases v with
  | agg c =>
    obtain ⟨c⟩ := c
    have h2 : ceL c = some d := h
    unfold ceL at h2
    split at h2
    · rename_i a b p q
      exact ⟨((a, b), (p, q)), rfl, (Option.some.inj h2).symm⟩
    · cases h2
  | _ => cases h
theorem ceDat_inj {x y p q : Val} (h : ceDat x y = ceDat p q) : x = p ∧ y = q := by
  obtain ⟨a, b⟩ := x
  obtain ⟨c, d⟩ := y
  obtain ⟨e, f⟩ := p
  obtain ⟨g, i⟩ := q
  unfold ceDat at h
  simp at h
  obtain ⟨rfl, rfl, rfl, rfl⟩ := h
  exact ⟨rfl, rfl⟩
def There (x : Tab.En) : Prop := (0 ≤ x.node ∧ x.node < 8) ∧ (0 ≤ x.key ∧ x.key < 64)
theorem There.inj {x y : Tab.En} (hx : There x) (hy : There y) : Tab.num x = Tab.num y ↔ x.node = y.node ∧ x.key = y.key :=
  ⟨Tab.num_inj hx.2 hy.2, fun ⟨h1, h2⟩ => by unfold Tab.num; rw [h1, h2]⟩
theorem There.kl {x : Tab.En} (h : There x) : ∃ kl, keyOf Tryz.prog 271 (ceK x.node x.key) = some kl := keyC _ _ (by have := h.1; omega) (by have := h.2; omega)
structure TabD (D : DataW Unit) (m : List Tab.En) : Prop where
  im : Maps.IsMap D
  has : ∀ kl, Maps.has D kl = true → ∃ x ∈ m, keyOf Tryz.prog 271 (ceK x.node x.key) = some kl
  at' : ∀ x ∈ m, ∀ kl, keyOf Tryz.prog 271 (ceK x.node x.key) = some kl → Maps.has D kl = true ∧ ∀ zd, D.atKey kl zd = ceDat x.c0 x.c1
  there : ∀ x ∈ m, There x
  un : m.Pairwise fun a b => Tab.num a ≠ Tab.num b
def TabAt (W : World) (b n : Nat) (m : List Tab.En) : Prop := ∃ D : DataW Unit, W.ownsMap Tryz.prog 271 ceR b n D ∧ TabD D m
theorem TabAt.made (W : World) : TabAt (W.alloc (.map #[] 0)) W.heap.size 0 [] :=
  ⟨_, World.ownsMap_made _ _ _ _, ⟨_, rfl⟩, fun kl h => by simp [Maps.has] at h, fun p hp => (by cases hp), fun p hp => (by cases hp), List.Pairwise.nil⟩
theorem TabAt.same {W W' : World} {b n : Nat} {m : List Tab.En} (h : TabAt W b n m) (hb : W'.heap[b]? = W.heap[b]?) : TabAt W' b n m := by
  obtain ⟨D, ⟨es, c, h1, h2⟩, h3⟩ := h
  exact ⟨D, ⟨es, c, by rw [hb]; exact h1, h2⟩, h3⟩
theorem TabAt.lt {W : World} {b n : Nat} {m : List Tab.En} (h : TabAt W b n m) : b < W.heap.size := by
  obtain ⟨D, ho, _⟩ := h
  exact ho.lt
theorem TabAt.grew {W W' : World} {b n : Nat} {m : List Tab.En} (h : TabAt W b n m) (g : Grew W W') : TabAt W' b n m := h.same (g.below.block b h.lt)
theorem TabAt.more {W : World} {b n n' : Nat} {m : List Tab.En} (h : TabAt W b n m) (hn : n ≤ n') : TabAt W b n' m := by
  obtain ⟨D, ho, h2⟩ := h
  exact ⟨D, ho.mono hn, h2⟩
theorem key_other {x y : Tab.En} (hx : There x) (hy : There y) {kx ky : Lit} (h1 : keyOf Tryz.prog 271 (ceK x.node x.key) = some kx) (h2 : keyOf Tryz.prog 271 (ceK y.node y.key) = some ky) : kx = ky ↔ Tab.num x = Tab.num y := by
  constructor
  · intro e
    exact (hx.inj hy).2 (ceK_inj (cell_law.inj (e ▸ h1) h2))
  · intro e
    obtain ⟨e1, e2⟩ := (hx.inj hy).1 e
    rw [e1, e2, h2] at h1
    exact (Option.some.inj h1).symm
theorem TabD.put {D : DataW Unit} {m : List Tab.En} (h : TabD D m) (x : Tab.En) (hx : There x) {kl : Lit} (hk : keyOf Tryz.prog 271 (ceK x.node x.key) = some kl) : TabD (D.put kl (ceDat x.c0 x.c1)) (x :: m.filter fun y => Tab.num y != Tab.num x) := by
  have hf : ∀ y ∈ m.filter (fun y => Tab.num y != Tab.num x), y ∈ m ∧ Tab.num y ≠ Tab.num x := fun y hy => by
    obtain ⟨h1, h2⟩ := List.mem_filter.1 hy
    exact ⟨h1, by simpa using h2⟩
  refine ⟨h.im.put _ _, fun k2 hh => ?_, fun y hy k2 hk2 => ?_, fun y hy => ?_, List.pairwise_cons.2 ⟨fun y hy e => (hf y hy).2 e.symm, h.un.filter _⟩⟩
  · by_cases e : k2 = kl
    · exact ⟨x, List.mem_cons_self .., by rw [e]; exact hk⟩
    · rw [Maps.has_put_other e] at hh
      obtain ⟨y, hy, hyk⟩ := h.has k2 hh
      refine ⟨y, List.mem_cons_of_mem _ (List.mem_filter.2 ⟨hy, ?_⟩), hyk⟩
      rw [bne_iff_ne]
      exact fun e2 => e ((key_other (h.there y hy) hx hyk hk).2 e2)
  · rcases List.mem_cons.1 hy with rfl | hy
    · rw [hk] at hk2
      cases hk2
      exact ⟨Maps.has_put_same h.im (cell_law.key hk) _, fun zd => Maps.atKey_put_same h.im (cell_law.key hk) _ _⟩
    · obtain ⟨h1, h2⟩ := hf y hy
      have hne : k2 ≠ kl := fun e => h2 ((key_other (h.there y h1) hx hk2 hk).1 e)
      rw [Maps.has_put_other hne]
      exact ⟨(h.at' y h1 k2 hk2).1, fun zd => by rw [Maps.atKey_put_other hne]; exact (h.at' y h1 k2 hk2).2 zd⟩
  · rcases List.mem_cons.1 hy with rfl | hy
    · exact hx
    · exact h.there y (hf y hy).1
theorem TabD.del {D : DataW Unit} {m : List Tab.En} (h : TabD D m) (x : Tab.En) (hx : There x) {kl : Lit} (hk : keyOf Tryz.prog 271 (ceK x.node x.key) = some kl) : TabD (D.del kl) (m.filter fun y => Tab.num y != Tab.num x) := by
  have hf : ∀ y ∈ m.filter (fun y => Tab.num y != Tab.num x), y ∈ m ∧ Tab.num y ≠ Tab.num x := fun y hy => by
    obtain ⟨h1, h2⟩ := List.mem_filter.1 hy
    exact ⟨h1, by simpa using h2⟩
  refine ⟨h.im.del _, fun k2 hh => ?_, fun y hy k2 hk2 => ?_, fun y hy => h.there y (hf y hy).1, h.un.filter _⟩
  · by_cases e : k2 = kl
    · rw [e, Maps.has_del_same] at hh
      cases hh
    · rw [Maps.has_del_other e] at hh
      obtain ⟨y, hy, hyk⟩ := h.has k2 hh
      refine ⟨y, List.mem_filter.2 ⟨hy, ?_⟩, hyk⟩
      rw [bne_iff_ne]
      exact fun e2 => e ((key_other (h.there y hy) hx hyk hk).2 e2)
  · obtain ⟨h1, h2⟩ := hf y hy
    have hne : k2 ≠ kl := fun e => h2 ((key_other (h.there y h1) hx hk2 hk).1 e)
    rw [Maps.has_del_other hne]
    exact ⟨(h.at' y h1 k2 hk2).1, fun zd => by rw [Maps.atKey_del_other hne]; exact (h.at' y h1 k2 hk2).2 zd⟩
theorem keep_turned {W W' : World} {b : Nat} (h : W.mapTurned W' b) : Keep b W W' := ⟨h.grown.size, fun q hq hne => h.grown.block q hq fun e => hne (Option.some.inj e)⟩
theorem grew_turned {w0 W W' : World} {b : Nat} (g : Grew w0 W) (hb : w0.heap.size ≤ b) (h : W.mapTurned W' b) : Grew w0 W' := g.grown h.grown fun q hq => by cases hq; exact hb
theorem TabAt.put {W : World} {b n : Nat} {m : List Tab.En} (h : TabAt W b n m) (hn : n < maxLen) (x : Tab.En) (hx : There x) :
    ∃ W', (Instr.mapUpdate 295 (.map (some b)) (ceK x.node x.key) (cev x.c0 x.c1)).run Tryz.prog W = .ok () W' ∧ TabAt W' b (n + 1) (x :: m.filter fun y => Tab.num y != Tab.num x) ∧ W.mapTurned W' b := by
  obtain ⟨D, ho, hD⟩ := h
  obtain ⟨kl, hk⟩ := hx.kl
  obtain ⟨W', hr, ho', hg⟩ := World.ownsMap.store ho cell_law Tryz.underlying295 hn hk (ceR_mk x.c0 x.c1)
  exact ⟨W', hr, ⟨_, ho', hD.put x hx hk⟩, hg⟩
theorem TabAt.del {W : World} {b n : Nat} {m : List Tab.En} (h : TabAt W b n m) (x : Tab.En) (hx : There x) (ty : TypeId) :
    ∃ W', (Builtin.delete_ #[295, 271] ty #[.map (some b), ceK x.node x.key]).run Tryz.prog W = .ok (.tuple #[]) W' ∧ TabAt W' b n (m.filter fun y => Tab.num y != Tab.num x) ∧ W.mapTurned W' b := by
  obtain ⟨D, ho, hD⟩ := h
  obtain ⟨kl, hk⟩ := hx.kl
  obtain ⟨W', hr, ho', hg⟩ := World.ownsMap.drop ho cell_law Tryz.underlying295 hk ty
  exact ⟨W', hr, ⟨_, ho', hD.del x hx hk⟩, hg⟩
end Go.Proofs.YtpbohimddmploaaGreat
namespace Go.Proofs.YtpbohimddmploaaGreat
open Go.RowKit

structure MSpec (κ ν : Type) where
  kt : TypeId
  law : Maps.Keyed Tryz.prog kt
  kenc : κ → Value
  kinj : ∀ a b, kenc a = kenc b → a = b
  ok : κ → Prop
  key : ∀ a, ok a → ∃ kl, keyOf Tryz.prog kt (kenc a) = some kl
  venc : ν → Value
  dat : ν → DataW Unit
  R : Value → Option (DataW Unit × List MemPlace)
  rmk : ∀ v, R (venc v) = some (dat v, [])
  rinv : ∀ u ps v, R u = some (dat v, ps) → u = venc v
structure MpD {κ ν : Type} (S : MSpec κ ν) (D : DataW Unit) (m : List (κ × ν)) : Prop where
  tidy : Maps.Tidy D
  has : ∀ kl, Maps.has D kl = true → ∃ x ∈ m, keyOf Tryz.prog S.kt (S.kenc x.1) = some kl
  at' : ∀ x ∈ m, ∀ kl, keyOf Tryz.prog S.kt (S.kenc x.1) = some kl → Maps.has D kl = true ∧ ∀ zd, D.atKey kl zd = S.dat x.2
  ok : ∀ x ∈ m, S.ok x.1
  un : m.Pairwise fun a b => a.1 ≠ b.1
  sz : Maps.size D = m.length
def MapAt {κ ν : Type} (S : MSpec κ ν) (W : World) (b n : Nat) (m : List (κ × ν)) : Prop := ∃ D : DataW Unit, W.ownsMap Tryz.prog S.kt S.R b n D ∧ MpD S D m
theorem MapAt.made {κ ν : Type} (S : MSpec κ ν) (W : World) : MapAt S (W.alloc (.map #[] 0)) W.heap.size 0 [] :=
  ⟨_, World.ownsMap_made _ _ _ _, ⟨Maps.tidy_empty, fun kl h => by simp [Maps.has] at h, fun p hp => (by cases hp), fun p hp => (by cases hp), List.Pairwise.nil, rfl⟩⟩
theorem MapAt.same {κ ν : Type} {S : MSpec κ ν} {W W' : World} {b n : Nat} {m : List (κ × ν)} (h : MapAt S W b n m) (hb : W'.heap[b]? = W.heap[b]?) : MapAt S W' b n m := by
  obtain ⟨D, ⟨es, c, h1, h2⟩, h3⟩ := h
  exact ⟨D, ⟨es, c, by rw [hb]; exact h1, h2⟩, h3⟩
theorem MapAt.lt {κ ν : Type} {S : MSpec κ ν} {W : World} {b n : Nat} {m : List (κ × ν)} (h : MapAt S W b n m) : b < W.heap.size := by
  obtain ⟨D, ho, _⟩ := h
  exact ho.lt
theorem MapAt.grew {κ ν : Type} {S : MSpec κ ν} {W W' : World} {b n : Nat} {m : List (κ × ν)} (h : MapAt S W b n m) (g : Grew W W') : MapAt S W' b n m := h.same (g.below.block b h.lt)
theorem MapAt.more {κ ν : Type} {S : MSpec κ ν} {W : World} {b n n' : Nat} {m : List (κ × ν)} (h : MapAt S W b n m) (hn : n ≤ n') : MapAt S W b n' m := by
  obtain ⟨D, ho, h2⟩ := h
  exact ⟨D, ho.mono hn, h2⟩
theorem MpD.fresh {κ ν : Type} {S : MSpec κ ν} {D : DataW Unit} {m : List (κ × ν)} (h : MpD S D m) {k : κ} (hk : ∀ x ∈ m, x.1 ≠ k) {kl : Lit} (hl : keyOf Tryz.prog S.kt (S.kenc k) = some kl) : Maps.has D kl = false := by
  cases hh : Maps.has D kl
  · rfl
  · obtain ⟨x, hx, hxk⟩ := h.has kl hh
    exact absurd (S.kinj _ _ (S.law.inj hxk hl)) (hk x hx)
theorem MpD.put {κ ν : Type} {S : MSpec κ ν} {D : DataW Unit} {m : List (κ × ν)} (h : MpD S D m) (k : κ) (v : ν) (hok : S.ok k) (hf : ∀ x ∈ m, x.1 ≠ k) {kl : Lit} (hk : keyOf Tryz.prog S.kt (S.kenc k) = some kl) : MpD S (D.put kl (S.dat v)) ((k, v) :: m) := by
  have hno := h.fresh hf hk
  refine ⟨h.tidy.put (S.law.key hk) _, fun k2 hh => ?_, fun y hy k2 hk2 => ?_, fun y hy => ?_, List.pairwise_cons.2 ⟨fun y hy e => hf y hy e.symm, h.un⟩, ?_⟩
  · by_cases e : k2 = kl
    · exact ⟨_, List.mem_cons_self .., by rw [e]; exact hk⟩
    · rw [Maps.has_put_other e] at hh
      obtain ⟨y, hy, hyk⟩ := h.has k2 hh
      exact ⟨y, List.mem_cons_of_mem _ hy, hyk⟩
  · rcases List.mem_cons.1 hy with rfl | hy
    · rw [hk] at hk2
      cases hk2
      exact ⟨Maps.has_put_same h.tidy.isMap (S.law.key hk) _, fun zd => Maps.atKey_put_same h.tidy.isMap (S.law.key hk) _ _⟩
    · have hne : k2 ≠ kl := fun e => hf y hy (S.kinj _ _ (S.law.inj (e ▸ hk2) hk))
      rw [Maps.has_put_other hne]
      exact ⟨(h.at' y hy k2 hk2).1, fun zd => by rw [Maps.atKey_put_other hne]; exact (h.at' y hy k2 hk2).2 zd⟩
  · rcases List.mem_cons.1 hy with rfl | hy
    · exact hok
    · exact h.ok y hy
  · rw [Maps.size_put h.tidy, hno, h.sz]
    rfl
theorem MapAt.put {κ ν : Type} {S : MSpec κ ν} {W : World} {b n : Nat} {m : List (κ × ν)} (h : MapAt S W b n m) (hn : n < maxLen) (k : κ) (v : ν) (hok : S.ok k) (hf : ∀ x ∈ m, x.1 ≠ k) {t e : TypeId} (ht : Tryz.prog.underlying t = some (.map S.kt e)) :
    ∃ W', (Instr.mapUpdate t (.map (some b)) (S.kenc k) (S.venc v)).run Tryz.prog W = .ok () W' ∧ MapAt S W' b (n + 1) ((k, v) :: m) ∧ W.mapTurned W' b := by
  obtain ⟨D, ho, hD⟩ := h
  obtain ⟨kl, hk⟩ := S.key k hok
  obtain ⟨W', hr, ho', hg⟩ := World.ownsMap.store ho S.law ht hn hk (S.rmk v)
  exact ⟨W', hr, ⟨_, ho', hD.put k v hok hf hk⟩, hg⟩
open Classical in
noncomputable def mfind {κ ν : Type} (m : List (κ × ν)) (k : κ) : Option ν := (m.find? fun x => decide (x.1 = k)).map (·.2)
open Classical in
theorem mfind_no {κ ν : Type} {m : List (κ × ν)} {k : κ} (h : ∀ x ∈ m, x.1 ≠ k) : mfind m k = none := by
  unfold mfind
  rw [List.find?_eq_none.2 fun x hx => by simpa using h x hx]
  rfl
theorem mfind_cases {κ ν : Type} (m : List (κ × ν)) (k : κ) : (∃ v, mfind m k = some v ∧ (k, v) ∈ m) ∨ (mfind m k = none ∧ ∀ x ∈ m, x.1 ≠ k) := by
  classical
  unfold mfind
  cases h : m.find? fun x => decide (x.1 = k) with
  | none =>
    refine .inr ⟨rfl, fun x hx => ?_⟩
    simpa using List.find?_eq_none.1 h x hx
  | some x =>
    have h1 := List.find?_some h
    have h2 := List.mem_of_find?_eq_some h
    obtain ⟨a, v⟩ := x
    simp only [decide_eq_true_eq] at h1
    subst h1
    exact .inl ⟨v, rfl, h2⟩
theorem MpD.found {κ ν : Type} {S : MSpec κ ν} {D : DataW Unit} {m : List (κ × ν)} (h : MpD S D m) {k : κ} {kl : Lit} (hl : keyOf Tryz.prog S.kt (S.kenc k) = some kl) (v0 : ν) : Maps.has D kl = (mfind m k).isSome ∧ D.atKey kl (S.dat v0) = S.dat ((mfind m k).getD v0) := by
  rcases mfind_cases m k with ⟨v, h1, h2⟩ | ⟨h1, h2⟩
  · obtain ⟨h3, h4⟩ := h.at' _ h2 kl hl
    rw [h1]
    exact ⟨h3, h4 _⟩
  · have h3 := h.fresh h2 hl
    rw [h1, h3]
    exact ⟨rfl, Maps.atKey_of_not_has h3 _⟩
theorem MapAt.look {κ ν : Type} {S : MSpec κ ν} {W : World} {b n : Nat} {m : List (κ × ν)} (h : MapAt S W b n m) (k : κ) (hok : S.ok k) {t e : TypeId} (ht : Tryz.prog.underlying t = some (.map S.kt e)) (v0 : ν) (hz : (zeroValue e).run Tryz.prog W = .ok (S.venc v0) W) :
    (Instr.lookup t (.map (some b)) (S.kenc k) false).run Tryz.prog W = .ok (S.venc ((mfind m k).getD v0)) W := by
  obtain ⟨D, ho, hD⟩ := h
  obtain ⟨kl, hk⟩ := S.key k hok
  obtain ⟨v, ps, hr, hR⟩ := World.ownsMap.lookup ho S.law ht hz (S.rmk v0) hk
  rw [(hD.found hk v0).2] at hR
  rw [hr, S.rinv _ _ _ hR]
theorem MapAt.lookOk {κ ν : Type} {S : MSpec κ ν} {W : World} {b n : Nat} {m : List (κ × ν)} (h : MapAt S W b n m) (k : κ) (hok : S.ok k) {t e : TypeId} (ht : Tryz.prog.underlying t = some (.map S.kt e)) (v0 : ν) (hz : (zeroValue e).run Tryz.prog W = .ok (S.venc v0) W) :
    (Instr.lookup t (.map (some b)) (S.kenc k) true).run Tryz.prog W = .ok (.tuple #[S.venc ((mfind m k).getD v0), .bool (mfind m k).isSome]) W := by
  obtain ⟨D, ho, hD⟩ := h
  obtain ⟨kl, hk⟩ := S.key k hok
  obtain ⟨v, ps, hr, hR⟩ := World.ownsMap.look_ok ho S.law ht hz (S.rmk v0) hk
  rw [(hD.found hk v0).2] at hR
  rw [hr, S.rinv _ _ _ hR, (hD.found hk v0).1]
theorem MapAt.len {κ ν : Type} {S : MSpec κ ν} {W : World} {b n : Nat} {m : List (κ × ν)} (h : MapAt S W b n m) {t e : TypeId} (ht : Tryz.prog.underlying t = some (.map S.kt e)) (ty : TypeId) :
    (Builtin.len_ #[t] ty #[.map (some b)]).run Tryz.prog W = .ok (.int .i64 m.length) W := by
  obtain ⟨D, ho, hD⟩ := h
  rw [ho.len ht ty, hD.sz]
theorem MapAt.len_le {κ ν : Type} {S : MSpec κ ν} {W : World} {b n : Nat} {m : List (κ × ν)} (h : MapAt S W b n m) : m.length ≤ n := by
  obtain ⟨D, ho, hD⟩ := h
  have := ho.size_le
  rw [hD.sz] at this
  exact this
theorem MapAt.un {κ ν : Type} {S : MSpec κ ν} {W : World} {b n : Nat} {m : List (κ × ν)} (h : MapAt S W b n m) : m.Pairwise fun a b => a.1 ≠ b.1 := by
  obtain ⟨D, ho, hD⟩ := h
  exact hD.un
theorem wpList_mapPut {κ ν : Type} {S : MSpec κ ν} {w0 W : World} {ops : Array Oper} {rest : List Oper} {o : Oper} {a : Act} {Q : Exit → Act → World → Prop} {b n : Nat} {M : List (κ × ν)}
    (hg : o.guard = none) (m k v : Operand) (t : TypeId) (hop : o.op = Op.mapUpdate t m k v) {e : TypeId} (ht : Tryz.prog.underlying t = some (.map S.kt e)) (hgr : Grew w0 W) (hb : w0.heap.size ≤ b)
    (hm : a.eval m = .map (some b)) (h : MapAt S W b n M) (hn : n < maxLen) (x : κ) (y : ν) (hok : S.ok x) (hf : ∀ z ∈ M, z.1 ≠ x) (hk : a.eval k = S.kenc x) (hv : a.eval v = S.venc y)
    (hK : ∀ W', MapAt S W' b (n + 1) ((x, y) :: M) → Grew w0 W' → Keep b W W' → wpList Tryz.prog ops Q rest (a.put o.dst undef) W') : wpList Tryz.prog ops Q (o :: rest) a W := by
  refine wpList_plain hg fun K' hK' => ?_
  obtain ⟨W', hrun, r1, r2⟩ := h.put hn x y hok hf ht
  unfold Oper.wp
  simp [execOp, hop, hm, hk, hv, hrun, Result.andThen]
  exact hK' _ _ (hK W' r1 (grew_turned hgr hb r2) (keep_turned r2))
end Go.Proofs.YtpbohimddmploaaGreat
namespace Go.Proofs.YtpbohimddmploaaGreat
open Go.RowKit Ga

theorem wpList_tabPut {w0 W : World} {ops : Array Oper} {rest : List Oper} {o : Oper} {a : Act} {Q : Exit → Act → World → Prop} {b n : Nat} {M : List Tab.En}
    (hg : o.guard = none) (m k v : Operand) (hop : o.op = Op.mapUpdate 295 m k v) (hgr : Grew w0 W) (hb : w0.heap.size ≤ b)
    (hm : a.eval m = .map (some b)) (h : TabAt W b n M) (hn : n < maxLen) (x : Tab.En) (hx : There x) (hk : a.eval k = ceK x.node x.key) (hv : a.eval v = cev x.c0 x.c1)
    (hK : ∀ W', TabAt W' b (n + 1) (x :: M.filter fun y => Tab.num y != Tab.num x) → Grew w0 W' → Keep b W W' → wpList Tryz.prog ops Q rest (a.put o.dst undef) W') : wpList Tryz.prog ops Q (o :: rest) a W := by
  refine wpList_plain hg fun K' hK' => ?_
  obtain ⟨W', hrun, r1, r2⟩ := h.put hn x hx
  unfold Oper.wp
  simp [execOp, hop, hm, hk, hv, hrun, Result.andThen]
  exact hK' _ _ (hK W' r1 (grew_turned hgr hb r2) (keep_turned r2))
theorem wpList_tabDel {w0 W : World} {ops : Array Oper} {rest : List Oper} {o : Oper} {a : Act} {Q : Exit → Act → World → Prop} {b n : Nat} {M : List Tab.En}
    (hg : o.guard = none) (m k : Operand) (hop : o.op = Op.call { callee := Callee.builtin Builtin.delete, args := #[m, k], argTypes := #[295, 271] }) (hgr : Grew w0 W) (hb : w0.heap.size ≤ b)
    (hm : a.eval m = .map (some b)) (h : TabAt W b n M) (x : Tab.En) (hx : There x) (hk : a.eval k = ceK x.node x.key)
    (hK : ∀ W', TabAt W' b n (M.filter fun y => Tab.num y != Tab.num x) → Grew w0 W' → Keep b W W' → wpList Tryz.prog ops Q rest (a.put o.dst (.tuple #[])) W') : wpList Tryz.prog ops Q (o :: rest) a W := by
  refine wpList_plain hg fun K' hK' => ?_
  obtain ⟨W', hrun, r1, r2⟩ := h.del x hx o.type
  unfold Oper.wp
  simp [execOp, hop, resolve, invoke, builtin, hm, hk, hrun, Result.andThen]
  exact hK' _ _ (hK W' r1 (grew_turned hgr hb r2) (keep_turned r2))
def thereB (n k : Int) : Bool := decide (0 ≤ n) && decide (n < 8) && decide (0 ≤ k) && decide (k < 64)
theorem thereB_iff {x : Tab.En} : thereB x.node x.key = true ↔ There x := by
  unfold thereB There
  simp only [Bool.and_eq_true, decide_eq_true_eq, and_assoc]
theorem there_any (n k : Int) (w : World) : Calls Tryz.prog 233 #[.int .i64 n, .int .i64 k] w fun e w' => e = .returned (.bool (thereB n k)) ∧ w = w' := by
  by_cases h1 : 0 ≤ n
  · by_cases h2 : n < 8
    · by_cases h3 : 0 ≤ k
      · have hb : thereB n k = decide (k < 64) := by unfold thereB; simp [h1, h2, h3]
        rw [hb]
        clear hb
        go_enter Tryz.func233, Tryz.ntmps233
        go_wp2
        go_ret
        exact ⟨rfl, rfl⟩
      · have hb : thereB n k = false := by unfold thereB; simp [h3]
        rw [hb]
        clear hb
        go_enter Tryz.func233, Tryz.ntmps233
        go_wp2
        go_ret
        exact ⟨rfl, rfl⟩
    · have hb : thereB n k = false := by unfold thereB; simp [h2]
      rw [hb]
      clear hb
      go_enter Tryz.func233, Tryz.ntmps233
      go_wp2
      go_ret
      exact ⟨rfl, rfl⟩
  · have hb : thereB n k = false := by unfold thereB; simp [h1]
    rw [hb]
    clear hb
    go_enter Tryz.func233, Tryz.ntmps233
    go_wp2
    go_ret
    exact ⟨rfl, rfl⟩
def TableAt (W : World) (t b n : Nat) (m : List Tab.En) : Prop := W.heap[t]? = some (.cells #[.map (some b)] 297) ∧ TabAt W b n m
theorem TableAt.ne {W : World} {t b n : Nat} {m : List Tab.En} (h : TableAt W t b n m) : t ≠ b := fun e => by
  obtain ⟨h1, D, ⟨es, c, h2, -⟩, -⟩ := h
  rw [e, h2] at h1
  cases h1
theorem TableAt.grew {W W' : World} {t b n : Nat} {m : List Tab.En} (h : TableAt W t b n m) (g : Grew W W') : TableAt W' t b n m := ⟨grew_heap g h.1, h.2.grew g⟩
theorem TableAt.more {W : World} {t b n n' : Nat} {m : List Tab.En} (h : TableAt W t b n m) (hn : n ≤ n') : TableAt W t b n' m := ⟨h.1, h.2.more hn⟩
def okEn (x : Tab.En) : Bool := thereB x.node x.key && (rightV x.c0 && rightV x.c1)
def setR (m : List Tab.En) (x : Tab.En) : Int × List Tab.En := if okEn x then (0, Tab.setT m x) else (1, m)
def SetPost (w0 W : World) (t b n : Nat) (r : Int × List Tab.En) (e : Ending) (W' : World) : Prop := e = .returned (.int .i64 r.1) ∧ TableAt W' t b (n + 1) r.2 ∧ Grew w0 W' ∧ Keep b W W'
theorem infoCV : (Tryz.prog.info? 117).map (fun i => (i.zero, i.size, i.bytes)) = some (some (.agg #[.int .i64 0, .int .i64 0]), 2, 16) := by kernel_rfl
theorem right_xy (x y : Int) (w : World) : Calls Tryz.prog 187 #[.agg #[.int .i64 x, .int .i64 y]] w (Gives (.bool (rightV (x, y))) w) := right_any (x, y) w
theorem cellsCV : Tryz.prog.cellsOf 117 = 2 := by kernel_rfl
theorem run_eql_ce (a b c d : Int) (w : World) : (binOp .eql 118 (.agg #[.int .i64 a, .int .i64 b, .int .i64 c, .int .i64 d]) (.agg #[.int .i64 0, .int .i64 0, .int .i64 0, .int .i64 0])).run Tryz.prog w = .ok (.bool (((a, b) : Val) == (0, 0) && ((c, d) : Val) == (0, 0))) w := by
  have h : (Op.equalIn 10000 118 (.agg #[.int .i64 a, .int .i64 b, .int .i64 c, .int .i64 d]) (.agg #[.int .i64 0, .int .i64 0, .int .i64 0, .int .i64 0])).run Tryz.prog w = .ok (((a, b) : Val) == (0, 0) && ((c, d) : Val) == (0, 0)) w := by
    obtain ⟨i, hi, _⟩ := info_parts infoCV
    have h0 := run_equalIn_array (P := Tryz.prog) (w := w) 9999 #[.int .i64 a, .int .i64 b, .int .i64 c, .int .i64 d] #[.int .i64 0, .int .i64 0, .int .i64 0, .int .i64 0] Tryz.underlying118 hi
    rw [h0, show List.range 2 = [0, 1] from rfl, cellsCV]
    simp [Op.eqItems, go_sem, Tryz.underlying117, Tryz.underlying3]
    by_cases h1 : a = 0 <;> by_cases h2 : b = 0 <;> by_cases h3 : c = 0 <;> by_cases h4 : d = 0 <;> simp [h1, h2, h3, h4]
  simp [go_sem, h]
theorem tabSet_any (w0 W : World) (t b n : Nat) (m : List Tab.En) (x : Tab.En) (hT : TableAt W t b n m) (hg : Grew w0 W) (hb : w0.heap.size ≤ b) (hn : n < maxLen) :
    Calls Tryz.prog 215 #[.pointer (some ⟨t, 0, none⟩), .int .i64 x.node, .int .i64 x.key, cev x.c0 x.c1] W (SetPost w0 W t b n (setR m x)) := by
  obtain ⟨nd, ky, ⟨p0, q0⟩, ⟨p1, q1⟩⟩ := x
  have HT := Lib.hid hT
  have HG := Lib.hid hg
  have HN := Lib.hid hn
  have hth := Lib.hid (thereB_iff (x := ⟨nd, ky, (p0, q0), (p1, q1)⟩))
  obtain ⟨r, hr⟩ : ∃ r, setR m ⟨nd, ky, (p0, q0), (p1, q1)⟩ = r := ⟨_, rfl⟩
  rw [hr]
  have HR := Lib.hid hr
  have tc := cell_of (o := 0) hT.1
  simp at tc
  have pt := Pre.mk (heap_lt hT.1)
  have HNE := Lib.hid hT.ne
  clear hT hg hn hr
  show Calls Tryz.prog 215 #[.pointer (some ⟨t, 0, none⟩), .int .i64 nd, .int .i64 ky, .agg #[.int .i64 p0, .int .i64 q0, .int .i64 p1, .int .i64 q1]] W _
  cases h1 : thereB nd ky
  case false =>
    have H1 := Lib.hid h1
    have hrr : r = (1, m) := by rw [← HR.out]; unfold setR okEn; rw [show thereB nd ky = false from h1]; rfl
    subst hrr
    clear h1
    go_enter Tryz.func215, Tryz.ntmps215
    go_wp2_with (go_at_call 233; refine (there_any _ _ _).mono ?_; rintro e w1 ⟨rfl, rfl⟩; rw [H1.out])
    go_ret
    exact ⟨rfl, (HT.out.grew (by repeat (first | with_reducible exact Grew.refl _ | apply Grew.more | apply Grew.alloc | apply Grew.drew | apply Grew.drewN))).more (Nat.le_succ _), HG.out.trans (by repeat (first | with_reducible exact Grew.refl _ | apply Grew.more | apply Grew.alloc | apply Grew.drew | apply Grew.drewN)), Keep.ofGrew (by repeat (first | with_reducible exact Grew.refl _ | apply Grew.more | apply Grew.alloc | apply Grew.drew | apply Grew.drewN))⟩
  cases h2 : rightV (p0, q0)
  case false =>
    have H1 := Lib.hid h1
    have H2 := Lib.hid h2
    have hrr : r = (1, m) := by rw [← HR.out]; unfold setR okEn; rw [show rightV (p0, q0) = false from h2]; simp
    subst hrr
    clear h1 h2
    go_enter Tryz.func215, Tryz.ntmps215
    go_wp2_with (first
      | (go_at_call 233; refine (there_any _ _ _).mono ?_; rintro e w1 ⟨rfl, rfl⟩; rw [H1.out])
      | (go_at_call 187; refine (right_xy _ _ _).mono ?_; rintro e w1 ⟨rfl, R1, n1, rfl⟩; rw [H2.out]))
    go_ret
    exact ⟨rfl, (HT.out.grew (by repeat (first | with_reducible exact Grew.refl _ | apply Grew.more | apply Grew.alloc | apply Grew.drew | apply Grew.drewN))).more (Nat.le_succ _), HG.out.trans (by repeat (first | with_reducible exact Grew.refl _ | apply Grew.more | apply Grew.alloc | apply Grew.drew | apply Grew.drewN)), Keep.ofGrew (by repeat (first | with_reducible exact Grew.refl _ | apply Grew.more | apply Grew.alloc | apply Grew.drew | apply Grew.drewN))⟩
  cases h3 : rightV (p1, q1)
  case false =>
    have H1 := Lib.hid h1
    have H2 := Lib.hid h2
    have H3 := Lib.hid h3
    have hrr : r = (1, m) := by rw [← HR.out]; unfold setR okEn; rw [show rightV (p1, q1) = false from h3]; simp
    subst hrr
    clear h1 h2 h3
    go_enter Tryz.func215, Tryz.ntmps215
    go_wp2_with (first
      | (go_at_call 233; refine (there_any _ _ _).mono ?_; rintro e w1 ⟨rfl, rfl⟩; rw [H1.out])
      | (go_at_call_of 187 (Value.agg #[.int .i64 p0, .int .i64 q0]); refine (right_xy _ _ _).mono ?_; rintro e w1 ⟨rfl, R1, n1, rfl⟩; rw [H2.out])
      | (go_at_call 187; refine (right_xy _ _ _).mono ?_; rintro e w1 ⟨rfl, R2, n2, rfl⟩; rw [H3.out]))
    go_ret
    exact ⟨rfl, (HT.out.grew (by repeat (first | with_reducible exact Grew.refl _ | apply Grew.more | apply Grew.alloc | apply Grew.drew | apply Grew.drewN))).more (Nat.le_succ _), HG.out.trans (by repeat (first | with_reducible exact Grew.refl _ | apply Grew.more | apply Grew.alloc | apply Grew.drew | apply Grew.drewN)), Keep.ofGrew (by repeat (first | with_reducible exact Grew.refl _ | apply Grew.more | apply Grew.alloc | apply Grew.drew | apply Grew.drewN))⟩
  have H1 := Lib.hid h1
  have H2 := Lib.hid h2
  have H3 := Lib.hid h3
  have hx : There ⟨nd, ky, (p0, q0), (p1, q1)⟩ := hth.out.1 h1
  have HX := Lib.hid hx
  have hrr : r = (0, Tab.setT m ⟨nd, ky, (p0, q0), (p1, q1)⟩) := by rw [← HR.out]; unfold setR okEn; rw [show thereB nd ky = true from h1, show rightV (p0, q0) = true from h2, show rightV (p1, q1) = true from h3]; rfl
  subst hrr
  clear h1 h2 h3 hx
  cases hz : (((p0, q0) : Val) == (0, 0) && ((p1, q1) : Val) == (0, 0))
  · have heq := fun W => run_eql_ce p0 q0 p1 q1 W
    rw [hz] at heq
    have hst : Tab.setT m ⟨nd, ky, (p0, q0), (p1, q1)⟩ = ⟨nd, ky, (p0, q0), (p1, q1)⟩ :: m.filter fun y => Tab.num y != Tab.num ⟨nd, ky, (p0, q0), (p1, q1)⟩ := by unfold Tab.setT Tab.nz; rw [hz]; rfl
    have HST := Lib.hid hst
    clear hz hst
    go_enter Tryz.func215, Tryz.ntmps215
    go_upto_region 1 with (first
      | (go_at_call 233; refine (there_any _ _ _).mono ?_; rintro e w1 ⟨rfl, rfl⟩; rw [H1.out])
      | (go_at_call_of 187 (Value.agg #[.int .i64 p0, .int .i64 q0]); refine (right_xy _ _ _).mono ?_; rintro e w1 ⟨rfl, R1, n1, rfl⟩; rw [H2.out])
      | (go_at_call 187; refine (right_xy _ _ _).mono ?_; rintro e w1 ⟨rfl, R2, n2, rfl⟩; rw [H3.out]))
    refine wp_region_seq 8 Tryz.mixed (by kernel_rfl) (by kernel_rfl) ?_
    iterate 8
      apply Seq.val
      focus
        rintro w1 u ⟨R1, n1, rfl⟩ hF
        simp [moreFacts, Fact.more, Oper.deps, Region.binds, List.filter_cons, World.more_drew] at hF
        simp [putFacts, Oper.deps, Region.binds, List.filter_cons, Region.dstOf, Fact.at, Act.put, World.more_drew]
        go_wp2
        exact ⟨by repeat (first | with_reducible exact Grew.refl _ | apply Grew.more | apply Grew.alloc | apply Grew.drew | apply Grew.drewN), rfl, _, _, rfl, rfl, rfl⟩
    rintro u w1 ⟨R1, n1, rfl⟩ hF
    clear hF
    simp [putFacts, Region.dstOf, Fact.at, Act.put, List.range_succ, World.more_drew]
    refine wpList_tabPut (w0 := w0) rfl (.tmp 12) (.tmp 15) (.tmp 16) rfl (HG.out.trans (by repeat (first | with_reducible exact Grew.refl _ | apply Grew.more | apply Grew.alloc | apply Grew.drew | apply Grew.drewN))) hb rfl (HT.out.2.grew (by repeat (first | with_reducible exact Grew.refl _ | apply Grew.more | apply Grew.alloc | apply Grew.drew | apply Grew.drewN))) HN.out ⟨nd, ky, (p0, q0), (p1, q1)⟩ HX.out rfl rfl ?_
    intro W5 h5 g5 k5
    have H5 := Lib.hid h5
    have G5 := Lib.hid g5
    have K5 := Lib.hid k5
    clear h5 g5 k5
    go_wp2
    go_ret
    exact ⟨rfl, ⟨by rw [K5.out.2 t (by have := heap_lt HT.out.1; simp [go_sem]; omega) HNE.out]; exact (HT.out.grew (by repeat (first | with_reducible exact Grew.refl _ | apply Grew.more | apply Grew.alloc | apply Grew.drew | apply Grew.drewN))).1, by rw [HST.out]; exact H5.out⟩, G5.out, (Keep.ofGrew (by repeat (first | with_reducible exact Grew.refl _ | apply Grew.more | apply Grew.alloc | apply Grew.drew | apply Grew.drewN))).trans K5.out⟩
  · have heq := fun W => run_eql_ce p0 q0 p1 q1 W
    rw [hz] at heq
    have hst : Tab.setT m ⟨nd, ky, (p0, q0), (p1, q1)⟩ = m.filter fun y => Tab.num y != Tab.num ⟨nd, ky, (p0, q0), (p1, q1)⟩ := by unfold Tab.setT Tab.nz; rw [hz]; rfl
    have HST := Lib.hid hst
    clear hz hst
    go_enter Tryz.func215, Tryz.ntmps215
    go_wp2_with (first
      | (go_at_call 233; refine (there_any _ _ _).mono ?_; rintro e w1 ⟨rfl, rfl⟩; rw [H1.out])
      | (go_at_call_of 187 (Value.agg #[.int .i64 p0, .int .i64 q0]); refine (right_xy _ _ _).mono ?_; rintro e w1 ⟨rfl, R1, n1, rfl⟩; rw [H2.out])
      | (go_at_call 187; refine (right_xy _ _ _).mono ?_; rintro e w1 ⟨rfl, R2, n2, rfl⟩; rw [H3.out])
      | (refine wpList_tabDel (w0 := w0) rfl (.tmp 45) (.tmp 48) rfl (HG.out.trans (by repeat (first | with_reducible exact Grew.refl _ | apply Grew.more | apply Grew.alloc | apply Grew.drew | apply Grew.drewN))) hb rfl (HT.out.2.grew (by repeat (first | with_reducible exact Grew.refl _ | apply Grew.more | apply Grew.alloc | apply Grew.drew | apply Grew.drewN))) ⟨nd, ky, (p0, q0), (p1, q1)⟩ HX.out rfl ?_; intro W5 h5 g5 k5; (have H5 := Lib.hid h5); (have G5 := Lib.hid g5); (have K5 := Lib.hid k5); clear h5 g5 k5))
    go_ret
    exact ⟨rfl, ⟨by rw [K5.out.2 t (by have := heap_lt HT.out.1; simp [go_sem]; omega) HNE.out]; exact (HT.out.grew (by repeat (first | with_reducible exact Grew.refl _ | apply Grew.more | apply Grew.alloc | apply Grew.drew | apply Grew.drewN))).1, by rw [HST.out]; exact H5.out.more (Nat.le_succ _)⟩, G5.out, (Keep.ofGrew (by repeat (first | with_reducible exact Grew.refl _ | apply Grew.more | apply Grew.alloc | apply Grew.drew | apply Grew.drewN))).trans K5.out⟩

def encEn (x : Tab.En) : List Value := [.int .i64 x.node, .int .i64 x.key, .int .i64 x.c0.1, .int .i64 x.c0.2, .int .i64 x.c1.1, .int .i64 x.c1.2]
theorem encEn_len (x : Tab.En) : (encEn x).length = 6 := rfl
theorem encEn_one (x : Tab.En) : ∀ u ∈ encEn x, u.oneCell' = true := by
  intro u hu
  simp [encEn] at hu
  rcases hu with rfl | rfl | rfl | rfl | rfl | rfl <;> rfl
abbrev EntsAt (w : World) (v : Value) (l : List Tab.En) : Prop := RowsAt 6 encEn w v l
theorem EntsAt.open6 {w : World} {v : Value} {l : List Tab.En} (h : EntsAt w v l) : ∃ a cap, v = .slice a l.length cap ∧ l.length ≤ 9223372036854775807 ∧ ∀ i (hi : i < l.length), ∃ b off, a = some ⟨b, off, none⟩ ∧ Pre b w ∧
    w.cell? ⟨b, off + i * 6, none⟩ = some (.int .i64 l[i].node) ∧ w.cell? ⟨b, off + i * 6 + 1, none⟩ = some (.int .i64 l[i].key) ∧ w.cell? ⟨b, off + i * 6 + 2, none⟩ = some (.int .i64 l[i].c0.1) ∧ w.cell? ⟨b, off + i * 6 + 3, none⟩ = some (.int .i64 l[i].c0.2) ∧ w.cell? ⟨b, off + i * 6 + 4, none⟩ = some (.int .i64 l[i].c1.1) ∧ w.cell? ⟨b, off + i * 6 + 5, none⟩ = some (.int .i64 l[i].c1.2) := by
  obtain ⟨a, cap, rfl, hm, hx⟩ := h
  refine ⟨a, cap, rfl, by unfold maxLen at hm; omega, fun i hi => ?_⟩
  obtain ⟨b, off, rfl, hc⟩ := hx (by intro e; subst e; simp at hi)
  have hj := fun j u => hc i l[i] (List.getElem?_eq_getElem hi) j u
  have h0 := hj 0 _ rfl
  exact ⟨b, off, rfl, Pre.mk (World.block_lt_of_cell? w _ h0), h0, hj 1 _ rfl, hj 2 _ rfl, hj 3 _ rfl, hj 4 _ rfl, hj 5 _ rfl⟩
theorem tabSet_c (w0 W : World) (t b n : Nat) (m : List Tab.En) (nd ky p0 q0 p1 q1 : Int) (hT : TableAt W t b n m) (hg : Grew w0 W) (hb : w0.heap.size ≤ b) (hn : n < maxLen) :
    Calls Tryz.prog 215 #[.pointer (some ⟨t, 0, none⟩), .int .i64 nd, .int .i64 ky, .agg #[.int .i64 p0, .int .i64 q0, .int .i64 p1, .int .i64 q1]] W (SetPost w0 W t b n (setR m ⟨nd, ky, (p0, q0), (p1, q1)⟩)) := tabSet_any w0 W t b n m ⟨nd, ky, (p0, q0), (p1, q1)⟩ hT hg hb hn
def newOk (l : List Tab.En) : Bool := l.all okEn
theorem newOk_false {l : List Tab.En} {k : Nat} (hk : k < l.length) (h : okEn l[k] = false) : newOk l = false := by
  unfold newOk
  rw [List.all_eq_false]
  exact ⟨_, List.getElem_mem hk, by rw [h]; simp⟩
theorem newT_succ {l : List Tab.En} {k : Nat} (hk : k < l.length) : Tab.newT (l.take (k + 1)) = Tab.setT (Tab.newT (l.take k)) l[k] := by
  rw [List.take_succ_eq_append_getElem hk, Tab.newT_snoc]
def NewPost (l : List Tab.En) (w : World) (e : Ending) (w' : World) : Prop :=
  (newOk l = true ∧ ∃ t b, e = .returned (.tuple #[.pointer (some ⟨t, 0, none⟩), .int .i64 0]) ∧ TableAt w' t b l.length (Tab.newT l) ∧ w.heap.size ≤ t ∧ w.heap.size ≤ b ∧ Grew w w') ∨
  (newOk l = false ∧ e = .returned (.tuple #[.pointer none, .int .i64 1]) ∧ Grew w w')
theorem tabNew_any (v : Value) (l : List Tab.En) (w : World) (hv : EntsAt w v l) (hl : l.length ≤ 100000) : Calls Tryz.prog 188 #[v] w (NewPost l w) := by
  have HV := Lib.hid hv
  obtain ⟨a, cap, rfl, hm, -⟩ := EntsAt.open6 hv
  have hmm := @run_makeMap Tryz.prog
  clear hv
  go_enter Tryz.func188, Tryz.ntmps188
  go_wp2
  have HT0 : Hid (TableAt ((w.alloc (.map #[] 0)).alloc (.cells #[.map (some w.heap.size)] 297)) (w.heap.size + 1) w.heap.size 0 []) := Lib.hid ⟨heap_new_at _ _ _ (by simp [World.size_alloc]), (TabAt.made w).grew (by repeat (first | with_reducible exact Grew.refl _ | apply Grew.more | apply Grew.alloc | apply Grew.drew | apply Grew.drewN))⟩
  clear hmm
  go_loopg [13] l.length (fun gg s13 wr => ∃ k : Nat, k ≤ l.length ∧ l.length - k ≤ gg ∧ s13 = .int .i64 k ∧ Hid (TableAt wr (w.heap.size + 1) w.heap.size k (Tab.newT (l.take k))) ∧ Hid (Grew w wr) ∧ Hid (∀ i (h : i < l.length), i < k → okEn l[i] = true))
  case atStart => exact ⟨0, by omega, by omega, rfl, HT0, Lib.hid (by repeat (first | with_reducible exact Grew.refl _ | apply Grew.more | apply Grew.alloc | apply Grew.drew | apply Grew.drewN)), Lib.hid fun i _ h => by omega⟩
  case round =>
    obtain ⟨k, hk, hgg, rfl, HT, HG, HOK⟩ := hrel
    by_cases hlt : k < l.length
    · obtain ⟨a', cap', e, -, hx⟩ := EntsAt.open6 (HV.out.grew HG.out)
      cases e
      obtain ⟨b, off, rfl, hb, c0, c1, c2, c3, c4, c5⟩ := hx k hlt
      have HNS := Lib.hid (newT_succ hlt)
      have HNF := Lib.hid fun h => newOk_false hlt h
      have HKX : Hid (okEn l[k] = true → ∀ i (hi : i < l.length), i < k + 1 → okEn l[i] = true) := Lib.hid fun h i hi h2 => (Nat.lt_or_ge i k).elim (HOK.out i hi) fun h3 => by
        obtain rfl : i = k := by omega
        exact h
      clear hx
      generalize l[k] = x at *
      obtain ⟨nd, ky, ⟨p0, q0⟩, ⟨p1, q1⟩⟩ := x
      simp only at c0 c1 c2 c3 c4 c5
      have HS := Lib.hid fun W (g : Grew wr W) => tabSet_c w W (w.heap.size + 1) w.heap.size k _ nd ky p0 q0 p1 q1 (HT.out.grew g) (HG.out.trans g) (Nat.le_refl _) (by unfold maxLen; omega)
      cases hok : okEn ⟨nd, ky, (p0, q0), (p1, q1)⟩
      · have hr : setR (Tab.newT (l.take k)) ⟨nd, ky, (p0, q0), (p1, q1)⟩ = (1, Tab.newT (l.take k)) := by unfold setR; rw [hok]; rfl
        rw [hr] at HS
        have HNF2 := Lib.hid (HNF.out hok)
        clear hok hr
        go_wp2_with (go_at_call 215; refine (HS.out _ (by repeat (first | with_reducible exact Grew.refl _ | apply Grew.more | apply Grew.alloc | apply Grew.drew | apply Grew.drewN))).mono ?_; rintro e w1 ⟨rfl, h1, hg1, hk1⟩; (have HG1 := Lib.hid hg1); clear h1 hg1 hk1; simp only)
        go_ret2
        exact .inr ⟨HNF2.out, rfl, HG1.out⟩
      · have hr : setR (Tab.newT (l.take k)) ⟨nd, ky, (p0, q0), (p1, q1)⟩ = (0, Tab.setT (Tab.newT (l.take k)) ⟨nd, ky, (p0, q0), (p1, q1)⟩) := by unfold setR; rw [hok]; rfl
        rw [hr] at HS
        have HKX2 := Lib.hid (HKX.out hok)
        clear hok hr
        go_wp2_with (go_at_call 215; refine (HS.out _ (by repeat (first | with_reducible exact Grew.refl _ | apply Grew.more | apply Grew.alloc | apply Grew.drew | apply Grew.drewN))).mono ?_; rintro e w1 ⟨rfl, h1, hg1, hk1⟩; (have HG1 := Lib.hid hg1); (have HT1 := Lib.hid h1); clear h1 hg1 hk1; simp only)
        go_roundg (l.length - (k + 1))
        case measure => omega
        case rel => exact ⟨k + 1, by omega, by omega, by go_num, Lib.hid (by rw [HNS.out]; exact HT1.out), HG1, HKX2⟩
    · obtain rfl : k = l.length := by omega
      have hT := HT.out
      rw [List.take_length] at hT
      have HT9 := Lib.hid hT
      clear hT
      go_wp2
      go_ret2
      refine .inl ⟨?_, _, _, rfl, HT9.out, by omega, Nat.le_refl _, HG.out⟩
      unfold newOk
      rw [List.all_eq_true]
      intro x hx
      obtain ⟨i, hi, rfl⟩ := List.mem_iff_getElem.1 hx
      exact HOK.out i hi hi

theorem arr2_eq (d : Nat) (a b c e a' b' c' e' : Int) (w : World) : (Op.equalIn (d + 4) 118 (.agg #[.int .i64 a, .int .i64 b, .int .i64 c, .int .i64 e]) (.agg #[.int .i64 a', .int .i64 b', .int .i64 c', .int .i64 e'])).run Tryz.prog w = .ok (decide (a = a' ∧ b = b' ∧ c = c' ∧ e = e')) w := by
  obtain ⟨i, hi, _⟩ := info_parts infoCV
  have h0 := run_equalIn_array (P := Tryz.prog) (w := w) (d + 3) #[.int .i64 a, .int .i64 b, .int .i64 c, .int .i64 e] #[.int .i64 a', .int .i64 b', .int .i64 c', .int .i64 e'] Tryz.underlying118 hi
  rw [h0, show List.range 2 = [0, 1] from rfl, cellsCV]
  simp [Op.eqItems, go_sem, Tryz.underlying117, Tryz.underlying3]
  by_cases h1 : a = a' <;> by_cases h2 : b = b' <;> by_cases h3 : c = c' <;> by_cases h4 : e = e' <;> simp [h1, h2, h3, h4]
theorem run_neq_Ens (nd ky p0 q0 p1 q1 nd' ky' p0' q0' p1' q1' : Int) (r : Bool) (h : (!(decide (nd = nd' ∧ ky = ky' ∧ p0 = p0' ∧ q0 = q0' ∧ p1 = p1' ∧ q1 = q1'))) = r) (w : World) : (binOp .neq 120 (.agg #[.int .i64 nd, .int .i64 ky, .int .i64 p0, .int .i64 q0, .int .i64 p1, .int .i64 q1]) (.agg #[.int .i64 nd', .int .i64 ky', .int .i64 p0', .int .i64 q0', .int .i64 p1', .int .i64 q1'])).run Tryz.prog w = .ok (.bool r) w := by
  subst h
  simp [go_sem, arr2_eq, Tryz.underlying120, Tryz.underlying3]
  by_cases h0 : nd = nd' <;> by_cases h1 : ky = ky' <;> by_cases h2 : p0 = p0' <;> by_cases h3 : q0 = q0' <;> by_cases h4 : p1 = p1' <;> by_cases h5 : q1 = q1' <;> simp [h0, h1, h2, h3, h4, h5]
end Go.Proofs.YtpbohimddmploaaGreat
