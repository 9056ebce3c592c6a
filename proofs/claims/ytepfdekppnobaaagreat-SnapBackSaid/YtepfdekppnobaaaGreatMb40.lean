import Derived.Test.YtepfdekppnobaaaGreatMb38
import Derived.Test.YtepfdekppnobaaaGreatMb10
import Derived.Test.YtepfdekppnobaaaGreatMb19
import Derived.Test.YtepfdekppnobaaaGreatMb31
/-! Acknowledgements in memory; forebaylaw22.great; a gathering that is not there; the tasks that have come, as the law keeps them. -/
namespace Go.Proofs.YtepfdekppnobaaaGreat
set_option linter.unusedSimpArgs false
set_option linter.unusedVariables false
open Go.RowKit Ga
set_option maxRecDepth 100000

def encAk (c : AkC) : List Value := [.int .i64 c.node, .int .i64 c.ix, .int .i64 c.ep, .slice c.ae c.ne c.ce, .slice c.ax c.nx c.cx, .int .i64 c.off]
abbrev AcksAt (w : World) (v : Value) (l : List AkC) : Prop := RowsAt 6 encAk w v l
theorem AcksAt.open6 {w : World} {v : Value} {l : List AkC} (h : AcksAt w v l) : ∃ a cap, v = .slice a l.length cap ∧ l.length ≤ 9223372036854775807 ∧ ∀ i (hi : i < l.length), ∃ b off, a = some ⟨b, off, none⟩ ∧ Pre b w ∧
    w.cell? ⟨b, off + i * 6, none⟩ = some (.int .i64 l[i].node) ∧ w.cell? ⟨b, off + i * 6 + 1, none⟩ = some (.int .i64 l[i].ix) ∧ w.cell? ⟨b, off + i * 6 + 2, none⟩ = some (.int .i64 l[i].ep) ∧
    w.cell? ⟨b, off + i * 6 + 3, none⟩ = some (.slice l[i].ae l[i].ne l[i].ce) ∧ w.cell? ⟨b, off + i * 6 + 4, none⟩ = some (.slice l[i].ax l[i].nx l[i].cx) ∧ w.cell? ⟨b, off + i * 6 + 5, none⟩ = some (.int .i64 l[i].off) := by
  obtain ⟨a, cap, rfl, hm, hx⟩ := h
  refine ⟨a, cap, rfl, by unfold maxLen at hm; omega, fun i hi => ?_⟩
  obtain ⟨b, off, rfl, hc⟩ := hx (by intro e; subst e; simp at hi)
  have hj := fun j u => hc i l[i] (List.getElem?_eq_getElem hi) j u
  have h0 := hj 0 _ rfl
  exact ⟨b, off, rfl, Pre.mk (World.block_lt_of_cell? w _ h0), h0, hj 1 _ rfl, hj 2 _ rfl, hj 3 _ rfl, hj 4 _ rfl, hj 5 _ rfl⟩
/-! a gathering's epoch; none -/
end Go.Proofs.YtepfdekppnobaaaGreat

/-! The tasks that have come, as the law keeps them: a map of bools. -/
namespace Go.Proofs.YtepfdekppnobaaaGreat
set_option linter.unusedSimpArgs false
set_option linter.unusedVariables false
open Go.RowKit Ga
set_option maxRecDepth 100000

theorem GatherAt.moren {W : World} {x b n n' : Nat} {g : List Gr.Nd} {ep : Int} {m : List (Who × AkC)} (h : GatherAt W x b n g ep m) (q : n ≤ n') : GatherAt W x b n' g ep m :=
  { h with map := h.map.more q }
theorem GatherAt.keep {W W' : World} {x b n b2 : Nat} {g : List Gr.Nd} {ep : Int} {m : List (Who × AkC)} (h : GatherAt W x b n g ep m) (hk : Keep b2 W W') (h1 : x ≠ b2) (h2 : b ≠ b2) (hb : ∀ c t f, W.heap[b2]? ≠ some (.cells c t f)) : GatherAt W' x b n g ep m := by
  obtain ⟨v, q1, q2⟩ := h.cells
  exact { h with cells := ⟨v, by rw [hk.2 x (heap_lt q1) h1]; exact q1, nodes_keep q2 hk hb⟩, map := h.map.same (hk.2 b h.map.lt h2) }
theorem GatherAt.fresh {W : World} {x b n : Nat} {g : List Gr.Nd} {ep : Int} {m : List (Who × AkC)} (h : GatherAt W x b n g ep m) : x < W.heap.size ∧ b < W.heap.size := by
  obtain ⟨v, q1, -⟩ := h.cells
  exact ⟨heap_lt q1, h.map.lt⟩
/-! how many tasks there are -/
end Go.Proofs.YtepfdekppnobaaaGreat

/-! snap: gathered. -/
namespace Go.Proofs.YtepfdekppnobaaaGreat
set_option linter.unusedSimpArgs false
set_option linter.unusedVariables false
open Go.RowKit Ga
set_option maxRecDepth 100000

/-- an acknowledgement, plain -/
structure AkP where
  ents : List Tab.En
  lines : List Gr.Ln
  off : Int
def AkIs (W : World) (c : AkC) (a : AkP) : Prop := c.off = a.off ∧ (∃ b, OwnAt b 57 6 encEn W (.slice c.ae c.ne c.ce) a.ents) ∧ (∃ b, OwnAt b 97 5 encLn W (.slice c.ax c.nx c.cx) a.lines) ∧ a.ents.length ≤ 100 ∧ a.lines.length ≤ 100
theorem AkIs.grew {W W' : World} {c : AkC} {a : AkP} (h : AkIs W c a) (g : Grew W W') : AkIs W' c a := by
  obtain ⟨h1, ⟨b1, h2⟩, ⟨b2, h3⟩, h4, h5⟩ := h
  exact ⟨h1, ⟨b1, h2.grew g⟩, ⟨b2, h3.grew g⟩, h4, h5⟩
/-- all tasks have acknowledged -/
def AllCame (W : World) (g : List Gr.Nd) (m : List (Who × AkC)) (f : Who → AkP) : Prop := ∀ t ∈ tasksOf g, ∃ c, mfind m t = some c ∧ AkIs W c (f t)
def kindR (r : Option Gr.Nd) : Int := match r with
  | some n => n.kind
  | none => 0
def kindOf (g : List Gr.Nd) (id : Int) : Int := kindR (Gr.nodeOf g id)
def offsG (g : List Gr.Nd) (f : Who → AkP) (T : List Who) : List Int := T.flatMap fun t => if kindOf g t.1 = 0 then [(f t).off] else []
def outG (g : List Gr.Nd) (f : Who → AkP) (T : List Who) : List Gr.Ln := T.flatMap fun t => if kindOf g t.1 = 2 then (f t).lines else []
def entG (g : List Gr.Nd) (f : Who → AkP) (T : List Who) : List Tab.En := T.flatMap fun t => if kindOf g t.1 = 0 ∨ kindOf g t.1 = 2 then [] else (f t).ents
theorem find_kind {r : Option Gr.Nd} {w w' : World} {e : Ending} (h : GivesFind r w e w') : ∃ c : NdC, e = .returned (.tuple #[.agg #[.int .i64 c.id, .int .i64 c.kind, .slice c.af c.nf c.cf, .slice c.ap c.np c.cp, .int .i64 c.par, .int .i64 c.r0, .int .i64 c.r1, .int .i64 c.r2, .int .i64 c.r3, .int .i64 c.r4, .int .i64 c.r5, .int .i64 c.r6, .int .i64 c.r7], .bool r.isSome]) ∧ c.kind = kindR r ∧ Grew w w' := by
  cases r with
  | none =>
    obtain ⟨h1, h2⟩ := h
    exact ⟨⟨0, 0, none, 0, 0, none, 0, 0, 0, 0, 0, 0, 0, 0, 0, 0, 0⟩, h1, rfl, h2⟩
  | some n =>
    obtain ⟨c, h1, h2, -, h4⟩ := h
    exact ⟨c, h1, h2.kind.symm, h4⟩
/-- what has been gathered so far: the manifest in block B -/
structure GaSt (w W : World) (B : Nat) (ep : Int) (vO vX vE : Value) (os : List Int) (xs : List Gr.Ln) (es : List Tab.En) (vT : Value) (T : List Who) : Prop where
  g : Grew w W
  hB : w.heap.size < B
  z : W.heap[w.heap.size]? = some (.cells #[.int .i64 0, .int .i64 0, .slice none 0 0, .slice none 0 0, .slice none 0 0, .slice none 0 0, .slice none 0 0] 42)
  blk : W.heap[B]? = some (.cells #[.int .i64 ep, .int .i64 0, vO, .slice none 0 0, .slice none 0 0, vX, .slice none 0 0] 42)
  o : OwnAt w.heap.size 3 1 encN W vO os
  x : OwnAt w.heap.size 97 5 encLn W vX xs
  e : OwnAt w.heap.size 57 6 encEn W vE es
  t : OwnAt w.heap.size 111 2 encWho W vT T
theorem GaSt.grew {w W W' : World} {B : Nat} {ep : Int} {vO vX vE : Value} {os : List Int} {xs : List Gr.Ln} {es : List Tab.En} {vT : Value} {T : List Who} (h : GaSt w W B ep vO vX vE os xs es vT T) (q : Grew W W') : GaSt w W' B ep vO vX vE os xs es vT T :=
  ⟨h.g.trans q, h.hB, grew_heap q h.z, grew_heap q h.blk, h.o.grew q, h.x.grew q, h.e.grew q, h.t.grew q⟩
theorem GaSt.addE {w W W' : World} {B : Nat} {ep : Int} {vO vX vE v' : Value} {os : List Int} {xs : List Gr.Ln} {es l : List Tab.En} {vT : Value} {T : List Who} (h : GaSt w W B ep vO vX vE os xs es vT T) (hA : Appended w 57 6 encEn W vE (es ++ l) v' W') : GaSt w W' B ep vO vX v' os xs (es ++ l) vT T := by
  obtain ⟨a1, a2, a3, a4, a5⟩ := hA
  refine ⟨a1, h.hB, by rw [a4 _ (heap_lt h.z) (OwnAt.other h.e h.z (by decide))]; exact h.z, by rw [a4 B (heap_lt h.blk) (OwnAt.other h.e h.blk (by decide))]; exact h.blk, OwnAt.same h.o fun b hb => ?_, OwnAt.same h.x fun b hb => ?_, a2, OwnAt.same h.t fun b hb => ?_⟩
  · obtain ⟨-, cs, hc⟩ := OwnAt.block h.o hb
    exact a4 b (heap_lt hc) (OwnAt.other h.e hc (by decide))
  · obtain ⟨-, cs, hc⟩ := OwnAt.block h.x hb
    exact a4 b (heap_lt hc) (OwnAt.other h.e hc (by decide))
  · obtain ⟨-, cs, hc⟩ := OwnAt.block h.t hb
    exact a4 b (heap_lt hc) (OwnAt.other h.e hc (by decide))
theorem GaSt.addO {w W W' : World} {B : Nat} {ep : Int} {vO vX vE v' : Value} {os l : List Int} {xs : List Gr.Ln} {es : List Tab.En} {vT : Value} {T : List Who} (h : GaSt w W B ep vO vX vE os xs es vT T) (hA : Appended w 3 1 encN W vO (os ++ l) v' W') : GaSt w (W'.setCell ⟨B, 2, none⟩ v') B ep v' vX vE (os ++ l) xs es vT T := by
  obtain ⟨a1, a2, a3, a4, a5⟩ := hA
  have hb : W'.heap[B]? = some (.cells #[.int .i64 ep, .int .i64 0, vO, .slice none 0 0, .slice none 0 0, vX, .slice none 0 0] 42) := by rw [a4 B (heap_lt h.blk) (OwnAt.other h.o h.blk (by decide))]; exact h.blk
  have st : ∀ {α : Type} {t : TypeId} {k : Nat} {enc : α → List Value} {v : Value} {l : List α}, OwnAt w.heap.size t k enc W' v l → t ≠ 42 → OwnAt w.heap.size t k enc (W'.setCell ⟨B, 2, none⟩ v') v l := fun {α t k enc v l} ho hne =>
    OwnAt.same ho fun b hb2 => set_other fun e => OwnAt.other ho hb (fun q => hne q.symm) (e ▸ hb2)
  refine ⟨a1.set (Nat.le_of_lt h.hB) _, h.hB, by rw [set_other (by have := h.hB; omega), a4 _ (heap_lt h.z) (OwnAt.other h.o h.z (by decide))]; exact h.z, by rw [set_self hb]; rfl, st a2 (by decide), st (OwnAt.same h.x fun b hb => ?_) (by decide), st (OwnAt.same h.e fun b hb => ?_) (by decide), st (OwnAt.same h.t fun b hb => ?_) (by decide)⟩
  · obtain ⟨-, cs, hc⟩ := OwnAt.block h.x hb
    exact a4 b (heap_lt hc) (OwnAt.other h.o hc (by decide))
  · obtain ⟨-, cs, hc⟩ := OwnAt.block h.e hb
    exact a4 b (heap_lt hc) (OwnAt.other h.o hc (by decide))
  · obtain ⟨-, cs, hc⟩ := OwnAt.block h.t hb
    exact a4 b (heap_lt hc) (OwnAt.other h.o hc (by decide))
theorem GaSt.addX {w W W' : World} {B : Nat} {ep : Int} {vO vX vE v' : Value} {os : List Int} {xs l : List Gr.Ln} {es : List Tab.En} {vT : Value} {T : List Who} (h : GaSt w W B ep vO vX vE os xs es vT T) (hA : Appended w 97 5 encLn W vX (xs ++ l) v' W') : GaSt w (W'.setCell ⟨B, 5, none⟩ v') B ep vO v' vE os (xs ++ l) es vT T := by
  obtain ⟨a1, a2, a3, a4, a5⟩ := hA
  have hb : W'.heap[B]? = some (.cells #[.int .i64 ep, .int .i64 0, vO, .slice none 0 0, .slice none 0 0, vX, .slice none 0 0] 42) := by rw [a4 B (heap_lt h.blk) (OwnAt.other h.x h.blk (by decide))]; exact h.blk
  have st : ∀ {α : Type} {t : TypeId} {k : Nat} {enc : α → List Value} {v : Value} {l : List α}, OwnAt w.heap.size t k enc W' v l → t ≠ 42 → OwnAt w.heap.size t k enc (W'.setCell ⟨B, 5, none⟩ v') v l := fun {α t k enc v l} ho hne =>
    OwnAt.same ho fun b hb2 => set_other fun e => OwnAt.other ho hb (fun q => hne q.symm) (e ▸ hb2)
  refine ⟨a1.set (Nat.le_of_lt h.hB) _, h.hB, by rw [set_other (by have := h.hB; omega), a4 _ (heap_lt h.z) (OwnAt.other h.x h.z (by decide))]; exact h.z, by rw [set_self hb]; rfl, st (OwnAt.same h.o fun b hb => ?_) (by decide), st a2 (by decide), st (OwnAt.same h.e fun b hb => ?_) (by decide), st (OwnAt.same h.t fun b hb => ?_) (by decide)⟩
  · obtain ⟨-, cs, hc⟩ := OwnAt.block h.o hb
    exact a4 b (heap_lt hc) (OwnAt.other h.x hc (by decide))
  · obtain ⟨-, cs, hc⟩ := OwnAt.block h.e hb
    exact a4 b (heap_lt hc) (OwnAt.other h.x hc (by decide))
  · obtain ⟨-, cs, hc⟩ := OwnAt.block h.t hb
    exact a4 b (heap_lt hc) (OwnAt.other h.x hc (by decide))
theorem GaSt.blkA {α : Type} {t : TypeId} {k : Nat} {enc : α → List Value} {w W W' : World} {B : Nat} {ep : Int} {vO vX vE : Value} {os : List Int} {xs : List Gr.Ln} {es : List Tab.En} {vT : Value} {T : List Who} {v v' : Value} {l0 l : List α} (h : GaSt w W B ep vO vX vE os xs es vT T) (ho : OwnAt w.heap.size t k enc W v l0) (hne : 42 ≠ t) (henc : ∀ x, (enc x).length = k) (hA : Appended w t k enc W v l v' W') :
    W'.heap[B]? = some (.cells #[.int .i64 ep, .int .i64 0, vO, .slice none 0 0, .slice none 0 0, vX, .slice none 0 0] 42) ∧ W'.cell? ⟨B, 2, none⟩ = some vO ∧ W'.cell? ⟨B, 5, none⟩ = some vX ∧ W'.frozen? ⟨B, 2, none⟩ = false ∧ W'.frozen? ⟨B, 5, none⟩ = false ∧ Pre B W' ∧ ∃ a c, v' = .slice a l.length c := by
  obtain ⟨a1, a2, a3, a4, a5⟩ := hA
  have hb : W'.heap[B]? = some (.cells #[.int .i64 ep, .int .i64 0, vO, .slice none 0 0, .slice none 0 0, vX, .slice none 0 0] 42) := by rw [a4 B (heap_lt h.blk) (OwnAt.other ho h.blk hne)]; exact h.blk
  exact ⟨hb, (cell_of hb).trans rfl, (cell_of hb).trans rfl, frozen_of hb, frozen_of hb, Pre.mk (heap_lt hb), (OwnAt.rows a2 henc).len⟩
end Go.Proofs.YtepfdekppnobaaaGreat
