import Derived.Test.YtmdmbimfdpngaaaGreatDoorMc3
import Derived.Test.YtmdmbimfdpngaaaGreatDoorMc4
import Derived.Test.YtmdmbimfdpngaaaGreatDoorMc14
/-! Nodes in memory: thirteen cells each, two slices among them. -/
namespace Go.Proofs.YtmdmbimfdpngaaaGreatDoor
set_option linter.unusedSimpArgs false
set_option linter.unusedVariables false
open Go.RowKit Ga
set_option maxRecDepth 100000

abbrev IntsAt (w : World) (v : Value) (l : List Int) : Prop := RowsAt 1 (fun x => [Value.int .i64 x]) w v l
/-- a node as it lies: its slices are values -/
structure NdC where
  id : Int
  kind : Int
  af : Option Addr
  nf : Nat
  cf : Nat
  ap : Option Addr
  np : Nat
  cp : Nat
  par : Int
  r0 : Int
  r1 : Int
  r2 : Int
  r3 : Int
  r4 : Int
  r5 : Int
  r6 : Int
  r7 : Int
instance : Inhabited NdC := ⟨⟨0, 0, none, 0, 0, none, 0, 0, 0, 0, 0, 0, 0, 0, 0, 0, 0⟩⟩
abbrev NdC.vf (c : NdC) : Value := .slice c.af c.nf c.cf
abbrev NdC.vp (c : NdC) : Value := .slice c.ap c.np c.cp
def encNd (n : NdC) : List Value := [.int .i64 n.id, .int .i64 n.kind, .slice n.af n.nf n.cf, .slice n.ap n.np n.cp, .int .i64 n.par, .int .i64 n.r0, .int .i64 n.r1, .int .i64 n.r2, .int .i64 n.r3, .int .i64 n.r4, .int .i64 n.r5, .int .i64 n.r6, .int .i64 n.r7]
theorem encNd_len (n : NdC) : (encNd n).length = 13 := rfl
structure NodeIs (w : World) (c : NdC) (n : Gr.Nd) : Prop where
  id : n.id = c.id
  kind : n.kind = c.kind
  f : IntsAt w c.vf n.frm
  p : ValsAt w c.vp n.prog
  par : n.par = c.par
  route : n.route = [c.r0, c.r1, c.r2, c.r3, c.r4, c.r5, c.r6, c.r7]
  fc : n.frm.length ≤ c.cf
theorem NodeIs.grew {w w' : World} {c : NdC} {n : Gr.Nd} (h : NodeIs w c n) (g : Grew w w') : NodeIs w' c n :=
  { h with f := h.f.grew g, p := h.p.grew g }
theorem IntsAt.one {w : World} {v : Value} {l : List Int} (h : IntsAt w v l) : v.oneCell' = true := by
  obtain ⟨a, cap, rfl, -⟩ := h
  rfl
theorem ValsAt.one {w : World} {v : Value} {l : List Val} (h : ValsAt w v l) : v.oneCell' = true := by
  obtain ⟨a, cap, rfl, -⟩ := h
  rfl
/-- .. written out -/
theorem NodeIs.lit {w : World} {c : NdC} {n : Gr.Nd} (h : NodeIs w c n) : ∃ id kind af cf ap cp par r0 r1 r2 r3 r4 r5 r6 r7, c = ⟨id, kind, af, n.frm.length, cf, ap, n.prog.length, cp, par, r0, r1, r2, r3, r4, r5, r6, r7⟩ := by
  obtain ⟨id, kind, af, nf, cf, ap, np, cp, par, r0, r1, r2, r3, r4, r5, r6, r7⟩ := c
  obtain ⟨af', cf', e1⟩ := h.f.len
  obtain ⟨ap', cp', e2⟩ := h.p.len
  simp only [NdC.vf, NdC.vp] at e1 e2
  cases e1
  cases e2
  exact ⟨id, kind, _, _, _, _, par, r0, r1, r2, r3, r4, r5, r6, r7, rfl⟩
def NodesAt (w : World) (v : Value) (l : List Gr.Nd) : Prop := ∃ lc : List NdC, RowsAt 13 encNd w v lc ∧ lc.length = l.length ∧ ∀ (i : Nat) (c : NdC) (n : Gr.Nd), lc[i]? = some c → l[i]? = some n → NodeIs w c n
theorem NodesAt.grew {w w' : World} {v : Value} {l : List Gr.Nd} (h : NodesAt w v l) (g : Grew w w') : NodesAt w' v l := by
  obtain ⟨lc, h1, h2, h3⟩ := h
  exact ⟨lc, h1.grew g, h2, fun i c n hc hn => (h3 i c n hc hn).grew g⟩
/-- the slice and its cells, the node as it lies -/
theorem NodesAt.openC {w : World} {v : Value} {l : List Gr.Nd} (h : NodesAt w v l) : ∃ a cap, v = .slice a l.length cap ∧ l.length ≤ 9223372036854775807 ∧ ∀ i (hi : i < l.length), ∃ b off c, a = some ⟨b, off, none⟩ ∧ Pre b w ∧ NodeIs w c l[i] ∧
    w.cell? ⟨b, off + i * 13, none⟩ = some (.int .i64 c.id) ∧ w.cell? ⟨b, off + i * 13 + 1, none⟩ = some (.int .i64 c.kind) ∧ w.cell? ⟨b, off + i * 13 + 2, none⟩ = some (.slice c.af c.nf c.cf) ∧ w.cell? ⟨b, off + i * 13 + 3, none⟩ = some (.slice c.ap c.np c.cp) ∧ w.cell? ⟨b, off + i * 13 + 4, none⟩ = some (.int .i64 c.par) ∧
    w.cell? ⟨b, off + i * 13 + 5, none⟩ = some (.int .i64 c.r0) ∧ w.cell? ⟨b, off + i * 13 + 6, none⟩ = some (.int .i64 c.r1) ∧ w.cell? ⟨b, off + i * 13 + 7, none⟩ = some (.int .i64 c.r2) ∧ w.cell? ⟨b, off + i * 13 + 8, none⟩ = some (.int .i64 c.r3) ∧ w.cell? ⟨b, off + i * 13 + 9, none⟩ = some (.int .i64 c.r4) ∧ w.cell? ⟨b, off + i * 13 + 10, none⟩ = some (.int .i64 c.r5) ∧ w.cell? ⟨b, off + i * 13 + 11, none⟩ = some (.int .i64 c.r6) ∧ w.cell? ⟨b, off + i * 13 + 12, none⟩ = some (.int .i64 c.r7) := by
  obtain ⟨lc, ⟨a, cap, rfl, hm, hx⟩, h2, h3⟩ := h
  refine ⟨a, cap, by rw [h2], by unfold maxLen at hm; omega, fun i hi => ?_⟩
  have hi' : i < lc.length := by omega
  obtain ⟨b, off, rfl, hc⟩ := hx (by intro e; subst e; simp at hi')
  have hn := h3 i lc[i] l[i] (List.getElem?_eq_getElem hi') (List.getElem?_eq_getElem hi)
  have hj := fun j u => hc i lc[i] (List.getElem?_eq_getElem hi') j u
  have h0 := hj 0 _ rfl
  exact ⟨b, off, lc[i], rfl, Pre.mk (World.block_lt_of_cell? w _ h0), hn, h0, hj 1 _ rfl, hj 2 _ rfl, hj 3 _ rfl, hj 4 _ rfl, hj 5 _ rfl, hj 6 _ rfl, hj 7 _ rfl, hj 8 _ rfl, hj 9 _ rfl, hj 10 _ rfl, hj 11 _ rfl, hj 12 _ rfl⟩
/-- .. what the first cells hold, in the node's own words -/
theorem NodesAt.open' {w : World} {v : Value} {l : List Gr.Nd} (h : NodesAt w v l) : ∃ a cap, v = .slice a l.length cap ∧ l.length ≤ 9223372036854775807 ∧ ∀ i (hi : i < l.length), ∃ b off vf vp, a = some ⟨b, off, none⟩ ∧ Pre b w ∧ IntsAt w vf l[i].frm ∧ ValsAt w vp l[i].prog ∧
    w.cell? ⟨b, off + i * 13, none⟩ = some (.int .i64 l[i].id) ∧ w.cell? ⟨b, off + i * 13 + 1, none⟩ = some (.int .i64 l[i].kind) ∧ w.cell? ⟨b, off + i * 13 + 2, none⟩ = some vf ∧ w.cell? ⟨b, off + i * 13 + 3, none⟩ = some vp ∧ w.cell? ⟨b, off + i * 13 + 4, none⟩ = some (.int .i64 l[i].par) ∧
    ∀ g, g < 8 → w.cell? ⟨b, off + i * 13 + 5 + g, none⟩ = some (.int .i64 (l[i].route.getD g 0)) := by
  obtain ⟨a, cap, rfl, hm, hx⟩ := h.openC
  refine ⟨a, cap, rfl, hm, fun i hi => ?_⟩
  obtain ⟨b, off, c, rfl, hb, hn, c0, c1, c2, c3, c4, c5, c6, c7, c8, c9, c10, c11, c12⟩ := hx i hi
  refine ⟨b, off, c.vf, c.vp, rfl, hb, hn.f, hn.p, by rw [hn.id]; exact c0, by rw [hn.kind]; exact c1, c2, c3, by rw [hn.par]; exact c4, fun g hg => ?_⟩
  rw [hn.route]
  rcases (show g = 0 ∨ g = 1 ∨ g = 2 ∨ g = 3 ∨ g = 4 ∨ g = 5 ∨ g = 6 ∨ g = 7 by omega) with rfl | rfl | rfl | rfl | rfl | rfl | rfl | rfl
  · exact c5
  · exact c6
  · exact c7
  · exact c8
  · exact c9
  · exact c10
  · exact c11
  · exact c12
end Go.Proofs.YtmdmbimfdpngaaaGreatDoor
