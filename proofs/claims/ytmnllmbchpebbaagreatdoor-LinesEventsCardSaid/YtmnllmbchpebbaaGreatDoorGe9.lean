import Derived.Test.YtmnllmbchpebbaaGreatDoorGe0
import Derived.Test.YtmnllmbchpebbaaGreatDoorGe5
import Derived.Test.YtmnllmbchpebbaaGreatDoorGe6
import Derived.Test.YtmnllmbchpebbaaGreatDoorGe4
import Derived.Deep.RegionLaw
import Derived.Deep.RegionHeld3
import Derived.Lib.SlicesCompact
import Derived.Deep.LoopGhost
import Derived.Deep.DeepCutAuto
import Derived.Deep.QuietTactic
import Derived.BigQuiet
import Derived.RegionTactic
/-! Nodes in memory: thirteen cells each, two slices among them. -/
namespace Go.Proofs.YtmnllmbchpebbaaGreatDoor
set_option linter.unusedSimpArgs false
set_option linter.unusedVariables false
open Go.RowKit Ga
set_option maxRecDepth 100000

abbrev IntsAt (w : World) (v : Value) (l : List Int) : Prop := RowsAt 1 (fun x => [Value.int .i64 x]) w v l
/-- a node as it lies: its slices are values -/
structure NdC where
  id : Int
  kind : Int
  af : Option Addr
  nf : Nat
  cf : Nat
  ap : Option Addr
  np : Nat
  cp : Nat
  par : Int
  r0 : Int
  r1 : Int
  r2 : Int
  r3 : Int
  r4 : Int
  r5 : Int
  r6 : Int
  r7 : Int
instance : Inhabited NdC := ⟨⟨0, 0, none, 0, 0, none, 0, 0, 0, 0, 0, 0, 0, 0, 0, 0, 0⟩⟩
abbrev NdC.vf (c : NdC) : Value := .slice c.af c.nf c.cf
abbrev NdC.vp (c : NdC) : Value := .slice c.ap c.np c.cp
def encNd (n : NdC) : List Value := [.int .i64 n.id, .int .i64 n.kind, .slice n.af n.nf n.cf, .slice n.ap n.np n.cp, .int .i64 n.par, .int .i64 n.r0, .int .i64 n.r1, .int .i64 n.r2, .int .i64 n.r3, .int .i64 n.r4, .int .i64 n.r5, .int .i64 n.r6, .int .i64 n.r7]
theorem encNd_len (n : NdC) : (encNd n).length = 13 := rfl
structure NodeIs (w : World) (c : NdC) (n : Gr.Nd) : Prop where
  id : n.id = c.id
  kind : n.kind = c.kind
  f : IntsAt w c.vf n.frm
  p : ValsAt w c.vp n.prog
  par : n.par = c.par
  route : n.route = [c.r0, c.r1, c.r2, c.r3, c.r4, c.r5, c.r6, c.r7]
  fc : n.frm.length ≤ c.cf
theorem NodeIs.grew {w w' : World} {c : NdC} {n : Gr.Nd} (h : NodeIs w c n) (g : Grew w w') : NodeIs w' c n :=
  { h with f := h.f.grew g, p := h.p.grew g }
theorem IntsAt.one {w : World} {v : Value} {l : List Int} (h : IntsAt w v l) : v.oneCell' = true := by
  obtain ⟨a, cap, rfl, -⟩ := h
  rfl
theorem ValsAt.one {w : World} {v : Value} {l : List Val} (h : ValsAt w v l) : v.oneCell' = true := by
  obtain ⟨a, cap, rfl, -⟩ := h
  rfl
theorem encNd_one (c : NdC) : ∀ u ∈ encNd c, u.oneCell' = true := by
  intro u hu
  simp [encNd] at hu
  rcases hu with rfl | rfl | rfl | rfl | rfl | rfl | rfl | rfl | rfl | rfl | rfl | rfl | rfl <;> rfl
/-- .. written out -/
theorem NodeIs.lit {w : World} {c : NdC} {n : Gr.Nd} (h : NodeIs w c n) : ∃ id kind af cf ap cp par r0 r1 r2 r3 r4 r5 r6 r7, c = ⟨id, kind, af, n.frm.length, cf, ap, n.prog.length, cp, par, r0, r1, r2, r3, r4, r5, r6, r7⟩ := by
  obtain ⟨id, kind, af, nf, cf, ap, np, cp, par, r0, r1, r2, r3, r4, r5, r6, r7⟩ := c
  obtain ⟨af', cf', e1⟩ := h.f.len
  obtain ⟨ap', cp', e2⟩ := h.p.len
  simp only [NdC.vf, NdC.vp] at e1 e2
  cases e1
  cases e2
  exact ⟨id, kind, _, _, _, _, par, r0, r1, r2, r3, r4, r5, r6, r7, rfl⟩
def NodesAt (w : World) (v : Value) (l : List Gr.Nd) : Prop := ∃ lc : List NdC, RowsAt 13 encNd w v lc ∧ lc.length = l.length ∧ ∀ (i : Nat) (c : NdC) (n : Gr.Nd), lc[i]? = some c → l[i]? = some n → NodeIs w c n
theorem NodesAt.grew {w w' : World} {v : Value} {l : List Gr.Nd} (h : NodesAt w v l) (g : Grew w w') : NodesAt w' v l := by
  obtain ⟨lc, h1, h2, h3⟩ := h
  exact ⟨lc, h1.grew g, h2, fun i c n hc hn => (h3 i c n hc hn).grew g⟩
theorem NodeIs.r8 {w : World} {c : NdC} {n : Gr.Nd} (h : NodeIs w c n) : n.route.length = 8 := by rw [h.route]; rfl
theorem NodesAt.r8 {w : World} {v : Value} {l : List Gr.Nd} (h : NodesAt w v l) : ∀ n ∈ l, n.route.length = 8 := by
  obtain ⟨lc, h1, h2, h3⟩ := h
  intro n hn
  obtain ⟨i, hi, e⟩ := List.mem_iff_getElem.1 hn
  exact (h3 i _ n (List.getElem?_eq_getElem (by omega)) (by rw [List.getElem?_eq_getElem hi, e])).r8
/-- the slice and its cells, the node as it lies -/
theorem NodesAt.openC {w : World} {v : Value} {l : List Gr.Nd} (h : NodesAt w v l) : ∃ a cap, v = .slice a l.length cap ∧ l.length ≤ 9223372036854775807 ∧ ∀ i (hi : i < l.length), ∃ b off c, a = some ⟨b, off, none⟩ ∧ Pre b w ∧ NodeIs w c l[i] ∧
    w.cell? ⟨b, off + i * 13, none⟩ = some (.int .i64 c.id) ∧ w.cell? ⟨b, off + i * 13 + 1, none⟩ = some (.int .i64 c.kind) ∧ w.cell? ⟨b, off + i * 13 + 2, none⟩ = some (.slice c.af c.nf c.cf) ∧ w.cell? ⟨b, off + i * 13 + 3, none⟩ = some (.slice c.ap c.np c.cp) ∧ w.cell? ⟨b, off + i * 13 + 4, none⟩ = some (.int .i64 c.par) ∧
    w.cell? ⟨b, off + i * 13 + 5, none⟩ = some (.int .i64 c.r0) ∧ w.cell? ⟨b, off + i * 13 + 6, none⟩ = some (.int .i64 c.r1) ∧ w.cell? ⟨b, off + i * 13 + 7, none⟩ = some (.int .i64 c.r2) ∧ w.cell? ⟨b, off + i * 13 + 8, none⟩ = some (.int .i64 c.r3) ∧ w.cell? ⟨b, off + i * 13 + 9, none⟩ = some (.int .i64 c.r4) ∧ w.cell? ⟨b, off + i * 13 + 10, none⟩ = some (.int .i64 c.r5) ∧ w.cell? ⟨b, off + i * 13 + 11, none⟩ = some (.int .i64 c.r6) ∧ w.cell? ⟨b, off + i * 13 + 12, none⟩ = some (.int .i64 c.r7) := by
  obtain ⟨lc, ⟨a, cap, rfl, hm, hx⟩, h2, h3⟩ := h
  refine ⟨a, cap, by rw [h2], by unfold maxLen at hm; omega, fun i hi => ?_⟩
  have hi' : i < lc.length := by omega
  obtain ⟨b, off, rfl, hc⟩ := hx (by intro e; subst e; simp at hi')
  have hn := h3 i lc[i] l[i] (List.getElem?_eq_getElem hi') (List.getElem?_eq_getElem hi)
  have hj := fun j u => hc i lc[i] (List.getElem?_eq_getElem hi') j u
  have h0 := hj 0 _ rfl
  exact ⟨b, off, lc[i], rfl, Pre.mk (World.block_lt_of_cell? w _ h0), hn, h0, hj 1 _ rfl, hj 2 _ rfl, hj 3 _ rfl, hj 4 _ rfl, hj 5 _ rfl, hj 6 _ rfl, hj 7 _ rfl, hj 8 _ rfl, hj 9 _ rfl, hj 10 _ rfl, hj 11 _ rfl, hj 12 _ rfl⟩
/-- .. what the first cells hold, in the node's own words -/
theorem NodesAt.open' {w : World} {v : Value} {l : List Gr.Nd} (h : NodesAt w v l) : ∃ a cap, v = .slice a l.length cap ∧ l.length ≤ 9223372036854775807 ∧ ∀ i (hi : i < l.length), ∃ b off vf vp, a = some ⟨b, off, none⟩ ∧ Pre b w ∧ IntsAt w vf l[i].frm ∧ ValsAt w vp l[i].prog ∧
    w.cell? ⟨b, off + i * 13, none⟩ = some (.int .i64 l[i].id) ∧ w.cell? ⟨b, off + i * 13 + 1, none⟩ = some (.int .i64 l[i].kind) ∧ w.cell? ⟨b, off + i * 13 + 2, none⟩ = some vf ∧ w.cell? ⟨b, off + i * 13 + 3, none⟩ = some vp ∧ w.cell? ⟨b, off + i * 13 + 4, none⟩ = some (.int .i64 l[i].par) ∧
    ∀ g, g < 8 → w.cell? ⟨b, off + i * 13 + 5 + g, none⟩ = some (.int .i64 (l[i].route.getD g 0)) := by
  obtain ⟨a, cap, rfl, hm, hx⟩ := h.openC
  refine ⟨a, cap, rfl, hm, fun i hi => ?_⟩
  obtain ⟨b, off, c, rfl, hb, hn, c0, c1, c2, c3, c4, c5, c6, c7, c8, c9, c10, c11, c12⟩ := hx i hi
  refine ⟨b, off, c.vf, c.vp, rfl, hb, hn.f, hn.p, by rw [hn.id]; exact c0, by rw [hn.kind]; exact c1, c2, c3, by rw [hn.par]; exact c4, fun g hg => ?_⟩
  rw [hn.route]
  rcases (show g = 0 ∨ g = 1 ∨ g = 2 ∨ g = 3 ∨ g = 4 ∨ g = 5 ∨ g = 6 ∨ g = 7 by omega) with rfl | rfl | rfl | rfl | rfl | rfl | rfl | rfl
  · exact c5
  · exact c6
  · exact c7
  · exact c8
  · exact c9
  · exact c10
  · exact c11
  · exact c12
end Go.Proofs.YtmnllmbchpebbaaGreatDoor

/-! forebayref08: Find, Has. -/
namespace Go.Proofs.YtmnllmbchpebbaaGreatDoor
set_option linter.unusedSimpArgs false
set_option linter.unusedVariables false
open Go.RowKit Ga
set_option maxRecDepth 100000

theorem ints_open {w : World} {v : Value} {l : List Int} (h : IntsAt w v l) : ∃ a cap, v = .slice a l.length cap ∧ l.length ≤ 9223372036854775807 ∧ ∀ i (hi : i < l.length), ∃ b off, a = some ⟨b, off, none⟩ ∧ Pre b w ∧ w.cell? ⟨b, off + i, none⟩ = some (.int .i64 l[i]) := by
  obtain ⟨a, cap, rfl, hm, hl⟩ := h
  refine ⟨a, cap, rfl, by unfold maxLen at hm; omega, fun i hi => ?_⟩
  obtain ⟨b, off, rfl, hx⟩ := hl (by intro e; subst e; simp at hi)
  have h0 := hx i l[i] (List.getElem?_eq_getElem hi) 0 _ rfl
  rw [Nat.mul_one, Nat.add_zero] at h0
  exact ⟨b, off, rfl, Pre.mk (World.block_lt_of_cell? w _ h0), h0⟩

end Go.Proofs.YtmnllmbchpebbaaGreatDoor

/-! slices.Clone at numbers and at instructions; graph.own. -/
namespace Go.Proofs.YtmnllmbchpebbaaGreatDoor
set_option linter.unusedSimpArgs false
set_option linter.unusedVariables false
open Go.RowKit Ga
set_option maxRecDepth 100000

def MadeOf (P : Value → World → Prop) (w : World) (e : Ending) (w' : World) : Prop := ∃ v, e = .returned v ∧ P v w' ∧ Grew w w'
theorem cloneInts_any (v : Value) (l : List Int) (w : World) (hv : IntsAt w v l) (hl : l.length ≤ 1000) : Calls Tryz.prog 89 #[v] w (MadeOf (fun v' w' => OwnAt w.heap.size 3 1 encN w' v' l) w) := by
  obtain ⟨a, cap, rfl, hm, hx⟩ := ints_open hv
  cases a with
  | none =>
    have h0 : l = [] := by
      cases l with
      | nil => rfl
      | cons x l => obtain ⟨b, off, h, _⟩ := hx 0 (by simp); cases h
    subst h0
    exact (Tryz.slices_Clone_int_nil _ _ _).mono fun e w' ⟨he, hw⟩ => ⟨_, he, OwnAt.nil _, hw ▸ Grew.refl w⟩
  | some ad =>
    cases l with
    | nil => exact (Tryz.slices_Clone_int_zero ad cap w).mono fun e w' ⟨v', he, ho, _, hb⟩ => ⟨v', he, ho, Grew.ofBelow hb⟩
    | cons x l =>
      obtain ⟨b, off, h, _⟩ := hx 0 (by simp)
      cases h
      refine (Tryz.slices_Clone_int b off _ cap (x :: l) w (Nat.le_refl _) (by simp at hl ⊢; omega) fun j hj => ?_).mono fun e w' ⟨v', he, ho, _, hb⟩ => ⟨v', he, ?_, Grew.ofBelow hb⟩
      · obtain ⟨b', off', h, _, hc⟩ := hx j hj
        cases h
        rw [List.getD_eq_getElem?_getD, List.getElem?_eq_getElem hj]
        exact hc
      · unfold OwnAt
        rw [List.take_of_length_le (Nat.le_refl _)] at ho
        have e1 : (x :: l).flatMap encN = (x :: l).map (Value.int .i64) := by
          generalize x :: l = l
          induction l with
          | nil => rfl
          | cons x l ih => rw [List.flatMap_cons, ih]; rfl
        rw [e1]
        exact ho

theorem addr_add (b off j : Nat) : (⟨b, off, none⟩ : Addr).add j = ⟨b, off + j, none⟩ := by
  unfold Addr.add; split
  · rename_i h; have : j = 0 := by simpa using h
    rw [this]; rfl
  · rfl
theorem cloneVals_any (v : Value) (l : List Val) (w : World) (hv : ValsAt w v l) (hl : l.length ≤ 1000) : Calls Tryz.prog 87 #[v] w (MadeOf (fun v' w' => OwnAt w.heap.size 131 2 encI w' v' l) w) := by
  obtain ⟨a, cap, rfl, hm, hx⟩ := hv
  cases a with
  | none =>
    have h0 : l = [] := by
      cases l with
      | nil => rfl
      | cons x l => obtain ⟨b, off, h, _⟩ := hx (by simp); cases h
    subst h0
    exact (AnyE.slices_Clone_nil Tryz.cloneInstr _ _ _).mono fun e w' ⟨he, hw⟩ => ⟨_, he, OwnAt.nil _, hw ▸ Grew.refl w⟩
  | some ad =>
    have hnews : ∀ j u, (l.flatMap encI)[j]? = some u → (w.alloc (.cells #[] 131)).cell? (ad.add j) = some u := by
      intro j u hj
      obtain ⟨q, y, r, h1, h2, rfl⟩ := flat_inv encI_len l j u hj
      obtain ⟨b, off, h, hc⟩ := hx (by intro e; subst e; simp at h1)
      cases h
      rw [addr_add]
      have h3 := hc q y h1 r u h2
      rw [Nat.add_assoc] at h3
      exact Lib.cell?_alloc_some _ h3
    have HN := Lib.hid hnews
    obtain ⟨i, hi, hz0, hz1, hz2⟩ := info_parts infoIns
    have q22 : ∀ (w : World) (a : Option Addr) (n c n' c' : Nat), (binOp .eql 39 (.slice a n c) (.slice none n' c')).run Tryz.prog w = .ok (.bool a.isNone) w := fun w a n c n' c' => Lib.run_eql_slice_nil w _ _ a n c n' c' Tryz.underlying39
    clear hnews hx
    go_enter Tryz.func87, Tryz.ntmps87
    go_wp2_with (at_builtin; refine wpList_append_own _ rfl _ _ 39 rfl w.heap.size 131 i _ 2 16 Tryz.underlying39 hi hz0 hz1 hz2 rfl (by decide) _ _ _ rfl (World.ownsRow_made w #[] 0 (Nat.le_refl _) (Nat.zero_le _) rfl) ad l.length cap (l.flatMap encI) rfl (flat_length encI_len l) HN.out (by intro u hu; obtain ⟨y, _, hy⟩ := List.mem_flatMap.1 hu; exact encI_one y u hy) (by unfold maxLen; omega) (by omega) (by simp) ?_)
    intro v' w1 hown hgrow hnil
    go_wp2
    go_ret
    refine ⟨v', rfl, ?_, Grew.ofBelow (((Below.refl _ w).alloc (Nat.le_refl _) _).grown hgrow (by simp) (by intro k hk; simp [Value.ownBlock] at hk; omega))⟩
    unfold OwnAt
    simpa using hown

theorem heap_more_same {W W' : World} (hs : W.heap.size = W'.heap.size) (R : Array Obj) (n b : Nat) (hb : W.heap.size ≤ b) : (W'.more R n).heap[b]? = (W.more R n).heap[b]? := by
  rw [heap_more_in W R n b hb, heap_more_in W' R n b (by omega), hs]
/-- its slices lie behind 'base' -/
def OwnsNd (base : Nat) (w : World) (c : NdC) (n : Gr.Nd) : Prop := OwnAt base 3 1 encN w c.vf n.frm ∧ OwnAt base 131 2 encI w c.vp n.prog
theorem OwnsNd.to {base : Nat} {w w' : World} {c : NdC} {n : Gr.Nd} (o : OwnsNd base w c n) (hb : ∀ b, base ≤ b → b < w.heap.size → w'.heap[b]? = w.heap[b]?) : OwnsNd base w' c n := by
  refine ⟨OwnAt.same o.1 fun b h => ?_, OwnAt.same o.2 fun b h => ?_⟩
  · obtain ⟨h1, _, h2⟩ := OwnAt.block o.1 h
    exact hb b h1 (heap_lt h2)
  · obtain ⟨h1, _, h2⟩ := OwnAt.block o.2 h
    exact hb b h1 (heap_lt h2)
theorem OwnsNd.is {base : Nat} {w w' : World} {c : NdC} {n : Gr.Nd} (o : OwnsNd base w' c n) (h : NodeIs w c n) : NodeIs w' c n :=
  { h with f := o.1.rows encN_len, p := o.2.rows encI_len }
theorem OwnsNd.low {base base' : Nat} {w : World} {c : NdC} {n : Gr.Nd} (o : OwnsNd base w c n) (hb : base' ≤ base) : OwnsNd base' w c n := ⟨OwnAt.low o.1 hb, OwnAt.low o.2 hb⟩
theorem OwnsNd.grew {base : Nat} {w w' : World} {c : NdC} {n : Gr.Nd} (o : OwnsNd base w c n) (g : Grew w w') : OwnsNd base w' c n := ⟨o.1.grew g, o.2.grew g⟩
/-- a node comes back that is the same, in memory of its own -/
def GivesNode (n : Gr.Nd) (w : World) (e : Ending) (w' : World) : Prop := ∃ c : NdC, e = .returned (.agg #[.int .i64 c.id, .int .i64 c.kind, .slice c.af c.nf c.cf, .slice c.ap c.np c.cp, .int .i64 c.par, .int .i64 c.r0, .int .i64 c.r1, .int .i64 c.r2, .int .i64 c.r3, .int .i64 c.r4, .int .i64 c.r5, .int .i64 c.r6, .int .i64 c.r7]) ∧ NodeIs w' c n ∧ OwnsNd w.heap.size w' c n ∧ Grew w w'
theorem OwnAt.cap {α : Type} {base : Nat} {e : TypeId} {k : Nat} {enc : α → List Value} {w : World} {a : Option Addr} {n cap : Nat} {l : List α} (h : OwnAt base e k enc w (.slice a n cap) l) : l.length ≤ cap := by
  obtain ⟨h1, h2⟩ := h
  rcases h2 with ⟨h, h0⟩ | ⟨g, cap', cur, hv, hb, hh, hc, r⟩
  · rw [h0]; exact Nat.zero_le _
  · cases hv; exact hc
theorem node_made {w w' : World} (c : NdC) {c0 : NdC} {n : Gr.Nd} (h : NodeIs w c0 n) (ei : c0.id = c.id) (ek : c0.kind = c.kind) (ep : c0.par = c.par) (e0 : c0.r0 = c.r0) (e1 : c0.r1 = c.r1) (e2 : c0.r2 = c.r2) (e3 : c0.r3 = c.r3) (e4 : c0.r4 = c.r4) (e5 : c0.r5 = c.r5) (e6 : c0.r6 = c.r6) (e7 : c0.r7 = c.r7)
    (o1 : OwnAt w.heap.size 3 1 encN w' c.vf n.frm) (o2 : OwnAt w.heap.size 131 2 encI w' c.vp n.prog) (g : Grew w w') : GivesNode n w (.returned (.agg #[.int .i64 c.id, .int .i64 c.kind, .slice c.af c.nf c.cf, .slice c.ap c.np c.cp, .int .i64 c.par, .int .i64 c.r0, .int .i64 c.r1, .int .i64 c.r2, .int .i64 c.r3, .int .i64 c.r4, .int .i64 c.r5, .int .i64 c.r6, .int .i64 c.r7])) w' :=
  ⟨c, rfl, ⟨h.id.trans ei, h.kind.trans ek, o1.rows encN_len, o2.rows encI_len, h.par.trans ep, by rw [h.route, e0, e1, e2, e3, e4, e5, e6, e7], OwnAt.cap o1⟩, ⟨o1, o2⟩, g⟩
set_option maxHeartbeats 4000000 in
theorem own_any (c : NdC) (n : Gr.Nd) (w : World) (hn : NodeIs w c n) (hf : n.frm.length ≤ 1000) (hp : n.prog.length ≤ 1000) : Calls Tryz.prog 122 #[.agg #[.int .i64 c.id, .int .i64 c.kind, .slice c.af c.nf c.cf, .slice c.ap c.np c.cp, .int .i64 c.par, .int .i64 c.r0, .int .i64 c.r1, .int .i64 c.r2, .int .i64 c.r3, .int .i64 c.r4, .int .i64 c.r5, .int .i64 c.r6, .int .i64 c.r7]] w (GivesNode n w) := by
  obtain ⟨id, kind, af, cf, ap, cp, par, r0, r1, r2, r3, r4, r5, r6, r7, rfl⟩ := hn.lit
  have HN := Lib.hid hn
  clear hn
  have h1 := fun W (g : Grew w W) => cloneInts_any _ n.frm W (HN.out.f.grew g) hf
  have h2 := fun W (g : Grew w W) => cloneVals_any _ n.prog W (HN.out.p.grew g) hp
  have H1 := Lib.hid h1
  have H2 := Lib.hid h2
  clear h1 h2
  show Calls Tryz.prog 122 #[.agg #[.int .i64 id, .int .i64 kind, .slice af n.frm.length cf, .slice ap n.prog.length cp, .int .i64 par, .int .i64 r0, .int .i64 r1, .int .i64 r2, .int .i64 r3, .int .i64 r4, .int .i64 r5, .int .i64 r6, .int .i64 r7]] w _
  go_enter Tryz.func122, Tryz.ntmps122
  go_wp2_with fail
  refine wp_region_noPanic ?_
  go_region_law (first
    | (go_simp; go_at_call 89; refine (H1.out _ (by repeat (first | with_reducible exact Grew.refl _ | apply Grew.more | apply Grew.alloc | apply Grew.drew | apply Grew.drewN))).mono ?_; rintro e w1 ⟨v1, rfl, ho1, R3, n3, rfl⟩; obtain ⟨a1, c1, rfl⟩ := (ho1.rows encN_len).len; (have HO1 := Lib.hid ho1); clear ho1)
    | (go_simp; go_at_call 87; refine (H2.out _ (by repeat (first | with_reducible exact Grew.refl _ | apply Grew.more | apply Grew.alloc | apply Grew.drew | apply Grew.drewN))).mono ?_; rintro e w1 ⟨v2, rfl, ho2, R4, n4, rfl⟩; obtain ⟨a2, c2, rfl⟩ := (ho2.rows encI_len).len; (have HO2 := Lib.hid ho2); clear ho2))
  all_goals
    refine NoPanic.normal ?_
    go_wp2
    refine bodyPost_ret (v := .agg #[.int .i64 id, .int .i64 kind, .slice a1 n.frm.length c1, .slice a2 n.prog.length c2, .int .i64 par, .int .i64 r0, .int .i64 r1, .int .i64 r2, .int .i64 r3, .int .i64 r4, .int .i64 r5, .int .i64 r6, .int .i64 r7]) (by simp [results, Tryz.results122, go_sem]) rfl ?_
    refine node_made ⟨id, kind, a1, n.frm.length, c1, a2, n.prog.length, c2, par, r0, r1, r2, r3, r4, r5, r6, r7⟩ HN.out rfl rfl rfl rfl rfl rfl rfl rfl rfl rfl rfl
      (OwnAt.low (OwnAt.grew (OwnAt.same HO1.out fun b hb => heap_more_same (by simp [World.size_alloc]) _ _ _ (by have := HO1.out.lt b hb; simp [World.size_alloc] at this ⊢; omega)) (Grew.more (Grew.refl _) R4 n4)) (by simp [World.size_alloc]; omega))
      (OwnAt.low (OwnAt.same HO2.out fun b hb => heap_more_same (by simp [World.size_alloc, World.more_size]) _ _ _ (by have := HO2.out.lt b hb; simp [World.size_alloc, World.more_size] at this ⊢; omega)) (by simp [World.size_alloc, World.more_size]; omega)) (by repeat (first | with_reducible exact Grew.refl _ | apply Grew.more | apply Grew.alloc | apply Grew.drew | apply Grew.drewN))
end Go.Proofs.YtmnllmbchpebbaaGreatDoor

/-! slices.IndexFunc and ContainsFunc at numbers and at nodes; slices.Index and Contains at numbers. -/
namespace Go.Proofs.YtmnllmbchpebbaaGreatDoor
set_option linter.unusedSimpArgs false
set_option linter.unusedVariables false
open Go.RowKit Ga
set_option maxRecDepth 100000

end Go.Proofs.YtmnllmbchpebbaaGreatDoor

/-! graph.unlike: a list's numbers are unlike. -/
namespace Go.Proofs.YtmnllmbchpebbaaGreatDoor
set_option linter.unusedSimpArgs false
set_option linter.unusedVariables false
open Go.RowKit Ga
set_option maxRecDepth 100000

theorem grewRow {α : Type} [Inhabited α] {enc : α → Value} {w0 W : World} (g : Grew w0 W) {b off : Nat} {d : Array α} (hb : w0.heap.size ≤ b) : Grew w0 (Sort.putRow enc W b off d) :=
  Grew.ofBelow (g.below.trans ⟨rfl, rfl, rfl, by rw [Sort.size_putRow]; exact Nat.le_refl _, fun k hk => by
    unfold Sort.putRow Sort.mapBlock
    simp only [Array.getElem?_modify]
    rw [if_neg (by omega)]⟩)
theorem grewAhead {w0 W : World} (g : Grew w0 W) (n : Nat) : Grew w0 (Sort.ahead W n) := g.drewN n
theorem grewOs {w0 W : World} (g : Grew w0 W) (os : Array Obj) : Grew w0 (Sort.grow W os) := g.more os W.drawn
end Go.Proofs.YtmnllmbchpebbaaGreatDoor

/-! forebayref08.above. -/
namespace Go.Proofs.YtmnllmbchpebbaaGreatDoor
set_option linter.unusedSimpArgs false
set_option linter.unusedVariables false
open Go.RowKit Ga
set_option maxRecDepth 100000

end Go.Proofs.YtmnllmbchpebbaaGreatDoor

/-! graph.Find; the predicates route$1, sort$1, sort$2, node$1. -/
namespace Go.Proofs.YtmnllmbchpebbaaGreatDoor
set_option linter.unusedSimpArgs false
set_option linter.unusedVariables false
open Go.RowKit Ga
set_option maxRecDepth 100000

/-- nodes that are not too great -/
def Small (l : List Gr.Nd) : Prop := ∀ n ∈ l, n.frm.length ≤ 1000 ∧ n.prog.length ≤ 1000
end Go.Proofs.YtmnllmbchpebbaaGreatDoor

/-! Steps in memory: fifteen cells each. -/
namespace Go.Proofs.YtmnllmbchpebbaaGreatDoor
set_option linter.unusedSimpArgs false
set_option linter.unusedVariables false
open Go.RowKit Ga
set_option maxRecDepth 100000

/-- a step as it lies -/
structure StC where
  kind : Int
  c : NdC
  reset : Bool
instance : Inhabited StC := ⟨⟨0, default, false⟩⟩
def encSt (s : StC) : List Value := [.int .i64 s.kind, .int .i64 s.c.id, .int .i64 s.c.kind, .slice s.c.af s.c.nf s.c.cf, .slice s.c.ap s.c.np s.c.cp, .int .i64 s.c.par, .int .i64 s.c.r0, .int .i64 s.c.r1, .int .i64 s.c.r2, .int .i64 s.c.r3, .int .i64 s.c.r4, .int .i64 s.c.r5, .int .i64 s.c.r6, .int .i64 s.c.r7, .bool s.reset]
theorem encSt_len (s : StC) : (encSt s).length = 15 := rfl
theorem encSt_one (c : StC) : ∀ u ∈ encSt c, u.oneCell' = true := by
  intro u hu
  simp [encSt] at hu
  rcases hu with rfl | rfl | rfl | rfl | rfl | rfl | rfl | rfl | rfl | rfl | rfl | rfl | rfl | rfl | rfl <;> rfl
structure StepIs (w : World) (c : StC) (s : Gr.Stp) : Prop where
  kind : s.kind = c.kind
  nd : NodeIs w c.c s.nd
  reset : s.reset = c.reset
theorem StepIs.grew {w w' : World} {c : StC} {s : Gr.Stp} (h : StepIs w c s) (g : Grew w w') : StepIs w' c s := { h with nd := h.nd.grew g }
def StepsAt (w : World) (v : Value) (l : List Gr.Stp) : Prop := ∃ lc : List StC, RowsAt 15 encSt w v lc ∧ lc.length = l.length ∧ ∀ (i : Nat) (c : StC) (s : Gr.Stp), lc[i]? = some c → l[i]? = some s → StepIs w c s
theorem StepsAt.grew {w w' : World} {v : Value} {l : List Gr.Stp} (h : StepsAt w v l) (g : Grew w w') : StepsAt w' v l := by
  obtain ⟨lc, h1, h2, h3⟩ := h
  exact ⟨lc, h1.grew g, h2, fun i c n hc hn => (h3 i c n hc hn).grew g⟩
theorem StepsAt.nil (w : World) : StepsAt w (.slice none 0 0) [] := ⟨[], RowsAt.nil, rfl, fun i c n h => by simp at h⟩
theorem StepsAt.r8 {w : World} {v : Value} {l : List Gr.Stp} (h : StepsAt w v l) : ∀ s ∈ l, s.nd.route.length = 8 := by
  obtain ⟨lc, -, h2, h3⟩ := h
  intro n hn
  obtain ⟨i, hi, rfl⟩ := List.mem_iff_getElem.1 hn
  rw [(h3 i lc[i] l[i] (List.getElem?_eq_getElem (by omega)) (List.getElem?_eq_getElem hi)).nd.route]
  rfl
theorem StepsAt.openC {w : World} {v : Value} {l : List Gr.Stp} (h : StepsAt w v l) : ∃ a cap, v = .slice a l.length cap ∧ l.length ≤ 9223372036854775807 ∧ ∀ i (hi : i < l.length), ∃ b off c, a = some ⟨b, off, none⟩ ∧ Pre b w ∧ StepIs w c l[i] ∧
    w.cell? ⟨b, off + i * 15, none⟩ = some (.int .i64 c.kind) ∧
    w.cell? ⟨b, off + i * 15 + 1, none⟩ = some (.int .i64 c.c.id) ∧
    w.cell? ⟨b, off + i * 15 + 2, none⟩ = some (.int .i64 c.c.kind) ∧
    w.cell? ⟨b, off + i * 15 + 3, none⟩ = some (.slice c.c.af c.c.nf c.c.cf) ∧
    w.cell? ⟨b, off + i * 15 + 4, none⟩ = some (.slice c.c.ap c.c.np c.c.cp) ∧
    w.cell? ⟨b, off + i * 15 + 5, none⟩ = some (.int .i64 c.c.par) ∧
    w.cell? ⟨b, off + i * 15 + 6, none⟩ = some (.int .i64 c.c.r0) ∧
    w.cell? ⟨b, off + i * 15 + 7, none⟩ = some (.int .i64 c.c.r1) ∧
    w.cell? ⟨b, off + i * 15 + 8, none⟩ = some (.int .i64 c.c.r2) ∧
    w.cell? ⟨b, off + i * 15 + 9, none⟩ = some (.int .i64 c.c.r3) ∧
    w.cell? ⟨b, off + i * 15 + 10, none⟩ = some (.int .i64 c.c.r4) ∧
    w.cell? ⟨b, off + i * 15 + 11, none⟩ = some (.int .i64 c.c.r5) ∧
    w.cell? ⟨b, off + i * 15 + 12, none⟩ = some (.int .i64 c.c.r6) ∧
    w.cell? ⟨b, off + i * 15 + 13, none⟩ = some (.int .i64 c.c.r7) ∧
    w.cell? ⟨b, off + i * 15 + 14, none⟩ = some (.bool c.reset) := by
  obtain ⟨lc, ⟨a, cap, rfl, hm, hx⟩, h2, h3⟩ := h
  refine ⟨a, cap, by rw [h2], by unfold maxLen at hm; omega, fun i hi => ?_⟩
  have hi' : i < lc.length := by omega
  obtain ⟨b, off, rfl, hc⟩ := hx (by intro e; subst e; simp at hi')
  have hn := h3 i lc[i] l[i] (List.getElem?_eq_getElem hi') (List.getElem?_eq_getElem hi)
  have hj := fun j u => hc i lc[i] (List.getElem?_eq_getElem hi') j u
  have h0 := hj 0 _ rfl
  exact ⟨b, off, lc[i], rfl, Pre.mk (World.block_lt_of_cell? w _ h0), hn, h0, hj 1 _ rfl, hj 2 _ rfl, hj 3 _ rfl, hj 4 _ rfl, hj 5 _ rfl, hj 6 _ rfl, hj 7 _ rfl, hj 8 _ rfl, hj 9 _ rfl, hj 10 _ rfl, hj 11 _ rfl, hj 12 _ rfl, hj 13 _ rfl, hj 14 _ rfl⟩
/-- .. written out -/
theorem StepIs.lit {w : World} {c : StC} {s : Gr.Stp} (h : StepIs w c s) : ∃ kind reset id kd af cf ap cp par r0 r1 r2 r3 r4 r5 r6 r7, c = ⟨kind, ⟨id, kd, af, s.nd.frm.length, cf, ap, s.nd.prog.length, cp, par, r0, r1, r2, r3, r4, r5, r6, r7⟩, reset⟩ := by
  obtain ⟨kind, c, reset⟩ := c
  obtain ⟨id, kd, af, cf, ap, cp, par, r0, r1, r2, r3, r4, r5, r6, r7, e⟩ := h.nd.lit
  simp only at e
  subst e
  exact ⟨_, _, _, _, _, _, _, _, _, _, _, _, _, _, _, _, _, rfl⟩
/-- a node alone in a slice just made -/
theorem NodesAt.one {w : World} {c : NdC} {n : Gr.Nd} (h : NodeIs w c n) (k : Nat) (hk : k = w.heap.size) (cs : List Value) (hcs : cs = encNd c) : NodesAt (w.alloc (.cells cs.toArray 42)) (.slice (some ⟨k, 0, none⟩) 1 1) [n] := by
  refine ⟨[c], RowsAt.fresh (l := [c]) rfl (by simp [maxLen]) encNd_len hk (by rw [hcs]; simp), rfl, ?_⟩
  intro i c' n' h1 h2
  match i with
  | 0 =>
    cases h1
    cases h2
    exact h.grew ((Grew.refl _).alloc _)
  | i + 1 => cases h1
end Go.Proofs.YtmnllmbchpebbaaGreatDoor

/-! slices.Equal at numbers and at instructions. -/
namespace Go.Proofs.YtmnllmbchpebbaaGreatDoor
set_option linter.unusedSimpArgs false
set_option linter.unusedVariables false
open Go.RowKit Ga
set_option maxRecDepth 100000

set_option maxHeartbeats 4000000 in
theorem eqInts_any (v u : Value) (l m : List Int) (w : World) (hv : IntsAt w v l) (hu : IntsAt w u m) : Calls Tryz.prog 158 #[v, u] w (Gives (.bool (decide (l = m))) w) := by
  have HV := Lib.hid hv
  have HU := Lib.hid hu
  obtain ⟨a, cap, rfl, hm, -⟩ := ints_open hv
  obtain ⟨a2, cap2, rfl, hm2, -⟩ := ints_open hu
  clear hv hu
  by_cases hlen : l.length = m.length
  · have hD2 : ((l.length : Int) != (m.length : Int)) = false := by rw [hlen]; simp
    have HLEN := Lib.hid hlen
    clear hlen
    go_enter Tryz.func158, Tryz.ntmps158
    go_wp2
    go_loopg [13] l.length (fun gg s13 wr => ∃ g : Nat, g ≤ l.length ∧ l.length - g ≤ gg ∧ s13 = .int .i64 g ∧ Hid (Grew w wr) ∧ Hid (l.take g = m.take g))
    case atStart => exact ⟨0, by omega, by omega, rfl, Lib.hid (by repeat (first | with_reducible exact Grew.refl _ | apply Grew.more | apply Grew.alloc | apply Grew.drew | apply Grew.drewN)), Lib.hid rfl⟩
    case round =>
      obtain ⟨g, hg8, hgg, rfl, HGR, HNO⟩ := hrel
      by_cases hlt : g < l.length
      · have hlt2 : g < m.length := by have := HLEN.out; omega
        obtain ⟨av, cv, e, -, hx⟩ := ints_open (HV.out.grew HGR.out)
        cases e
        obtain ⟨av2, cv2, e, -, hx2⟩ := ints_open (HU.out.grew HGR.out)
        cases e
        obtain ⟨b, off, rfl, hb, cx⟩ := hx g hlt
        obtain ⟨b2, off2, rfl, hb2, dx⟩ := hx2 g hlt2
        have hs := take_eq_succ hlt hlt2 HNO.out
        have hf := neq_at hlt hlt2
        have HS := Lib.hid hs
        have HF := Lib.hid hf
        clear hx hx2 hs hf
        generalize l[g] = x at *
        generalize m[g] = y at *
        by_cases hr : x = y
        · cases hr
          go_upto_region 6 with fail
          go_quiet (fail)
          go_wp2
          go_roundg (l.length - (g + 1))
          case measure => omega
          case rel => exact ⟨g + 1, by omega, by omega, by go_num, Lib.hid (HGR.out.trans (by repeat (first | with_reducible exact Grew.refl _ | apply Grew.more | apply Grew.alloc | apply Grew.drew | apply Grew.drewN))), Lib.hid (HS.out (by first | exact rfl | trivial))⟩
        · have HR := Lib.hid hr
          have hfin : decide (l = m) = false := decide_eq_false (HF.out hr)
          have HFIN := Lib.hid hfin
          have hne : (x != y) = true := by rw [bne_iff_ne]; exact hr
          clear hr hfin
          go_upto_region 6 with fail
          go_quiet (fail)
          go_wp2
          go_ret
          exact ⟨by rw [HFIN.out]; rfl, HGR.out.trans (by repeat (first | with_reducible exact Grew.refl _ | apply Grew.more | apply Grew.alloc | apply Grew.drew | apply Grew.drewN))⟩
      · obtain rfl : g = l.length := by omega
        have hz := HNO.out
        rw [List.take_length, List.take_of_length_le (by have := HLEN.out; omega)] at hz
        have hfin : decide (l = m) = true := decide_eq_true hz
        have HFIN := Lib.hid hfin
        clear hz hfin
        go_wp2
        go_ret
        exact ⟨by rw [HFIN.out]; rfl, HGR.out⟩
  · have hD2 : ((l.length : Int) != (m.length : Int)) = true := by rw [bne_iff_ne]; omega
    have hfin : decide (l = m) = false := decide_eq_false fun h => hlen (by rw [h])
    have HFIN := Lib.hid hfin
    clear hfin hlen
    go_enter Tryz.func158, Tryz.ntmps158
    go_wp2
    go_ret
    exact ⟨by rw [HFIN.out]; rfl, by repeat (first | with_reducible exact Grew.refl _ | apply Grew.more | apply Grew.alloc | apply Grew.drew | apply Grew.drewN)⟩
set_option maxHeartbeats 4000000 in
theorem eqVals_any (v u : Value) (l m : List Val) (w : World) (hv : ValsAt w v l) (hu : ValsAt w u m) : Calls Tryz.prog 159 #[v, u] w (Gives (.bool (decide (l = m))) w) := by
  have HV := Lib.hid hv
  have HU := Lib.hid hu
  obtain ⟨a, cap, rfl, hm, -⟩ := hv.open2
  obtain ⟨a2, cap2, rfl, hm2, -⟩ := hu.open2
  clear hv hu
  by_cases hlen : l.length = m.length
  · have hD2 : ((l.length : Int) != (m.length : Int)) = false := by rw [hlen]; simp
    have HLEN := Lib.hid hlen
    clear hlen
    go_enter Tryz.func159, Tryz.ntmps159
    go_wp2
    go_loopg [13] l.length (fun gg s13 wr => ∃ g : Nat, g ≤ l.length ∧ l.length - g ≤ gg ∧ s13 = .int .i64 g ∧ Hid (Grew w wr) ∧ Hid (l.take g = m.take g))
    case atStart => exact ⟨0, by omega, by omega, rfl, Lib.hid (by repeat (first | with_reducible exact Grew.refl _ | apply Grew.more | apply Grew.alloc | apply Grew.drew | apply Grew.drewN)), Lib.hid rfl⟩
    case round =>
      obtain ⟨g, hg8, hgg, rfl, HGR, HNO⟩ := hrel
      by_cases hlt : g < l.length
      · have hlt2 : g < m.length := by have := HLEN.out; omega
        obtain ⟨av, cv, e, -, hx⟩ := (HV.out.grew HGR.out).open2
        cases e
        obtain ⟨av2, cv2, e, -, hx2⟩ := (HU.out.grew HGR.out).open2
        cases e
        obtain ⟨b, off, rfl, hb, cx, cy⟩ := hx g hlt
        obtain ⟨b2, off2, rfl, hb2, dx, dy⟩ := hx2 g hlt2
        have hs := take_eq_succ hlt hlt2 HNO.out
        have hf := neq_at hlt hlt2
        have HS := Lib.hid hs
        have HF := Lib.hid hf
        clear hx hx2 hs hf
        generalize l[g] = x at *
        generalize m[g] = y at *
        obtain ⟨x, x'⟩ := x
        obtain ⟨y, y'⟩ := y
        simp only at cx cy dx dy
        by_cases hr : ((x, x') : Val) = (y, y')
        · cases hr
          go_upto_region 6 with fail
          go_quiet (fail)
          go_wp2
          go_roundg (l.length - (g + 1))
          case measure => omega
          case rel => exact ⟨g + 1, by omega, by omega, by go_num, Lib.hid (HGR.out.trans (by repeat (first | with_reducible exact Grew.refl _ | apply Grew.more | apply Grew.alloc | apply Grew.drew | apply Grew.drewN))), Lib.hid (HS.out (by first | exact rfl | trivial))⟩
        · have HR := Lib.hid hr
          have hfin : decide (l = m) = false := decide_eq_false (HF.out hr)
          have HFIN := Lib.hid hfin
          have hq := run_neq_ins x x' y y' true (by
            have := HR.out
            by_cases e1 : x = y <;> by_cases e2 : x' = y' <;> simp [e1, e2]
            exact this (by rw [e1, e2]))
          clear hr hfin
          go_upto_region 6 with fail
          go_quiet (fail)
          go_wp2
          go_ret
          exact ⟨by rw [HFIN.out]; rfl, HGR.out.trans (by repeat (first | with_reducible exact Grew.refl _ | apply Grew.more | apply Grew.alloc | apply Grew.drew | apply Grew.drewN))⟩
      · obtain rfl : g = l.length := by omega
        have hz := HNO.out
        rw [List.take_length, List.take_of_length_le (by have := HLEN.out; omega)] at hz
        have hfin : decide (l = m) = true := decide_eq_true hz
        have HFIN := Lib.hid hfin
        clear hz hfin
        go_wp2
        go_ret
        exact ⟨by rw [HFIN.out]; rfl, HGR.out⟩
  · have hD2 : ((l.length : Int) != (m.length : Int)) = true := by rw [bne_iff_ne]; omega
    have hfin : decide (l = m) = false := decide_eq_false fun h => hlen (by rw [h])
    have HFIN := Lib.hid hfin
    clear hfin hlen
    go_enter Tryz.func159, Tryz.ntmps159
    go_wp2
    go_ret
    exact ⟨by rw [HFIN.out]; rfl, by repeat (first | with_reducible exact Grew.refl _ | apply Grew.more | apply Grew.alloc | apply Grew.drew | apply Grew.drewN)⟩
end Go.Proofs.YtmnllmbchpebbaaGreatDoor

/-! forebayref13.Clean. -/
namespace Go.Proofs.YtmnllmbchpebbaaGreatDoor
set_option linter.unusedSimpArgs false
set_option linter.unusedVariables false
open Go.RowKit Ga
set_option maxRecDepth 100000

def zeroNd (id : Int) : NdC := ⟨id, 0, none, 0, 0, none, 0, 0, 0, 0, 0, 0, 0, 0, 0, 0, 0⟩
/-- a step's cells without what doesn't matter -/
def cleanC (c : StC) : StC :=
  if c.kind = 1 then ⟨1, { zeroNd c.c.id with ap := c.c.ap, np := c.c.np, cp := c.c.cp }, c.reset⟩
  else if c.kind = 2 then ⟨2, c.c, false⟩
  else if c.kind = 3 then ⟨3, zeroNd c.c.id, false⟩
  else if c.kind = 4 then ⟨4, ⟨c.c.id, 0, none, 0, 0, none, 0, 0, c.c.par, c.c.r0, c.c.r1, c.c.r2, c.c.r3, c.c.r4, c.c.r5, c.c.r6, c.c.r7⟩, false⟩
  else if c.kind = 5 then ⟨5, { zeroNd c.c.id with af := c.c.af, nf := c.c.nf, cf := c.c.cf }, false⟩
  else ⟨0, zeroNd 0, false⟩
theorem StepIs.clean {w : World} {c : StC} {s : Gr.Stp} (h : StepIs w c s) : StepIs w (cleanC c) (Gr.cleanS s) := by
  obtain ⟨hk, hn, hr⟩ := h
  unfold cleanC Gr.cleanS
  rw [hk]
  by_cases h1 : c.kind = 1
  · rw [if_pos h1, if_pos h1]
    exact ⟨rfl, ⟨hn.id, rfl, RowsAt.nil, hn.p, rfl, rfl, Nat.zero_le _⟩, hr⟩
  rw [if_neg h1, if_neg h1]
  by_cases h2 : c.kind = 2
  · rw [if_pos h2, if_pos h2]
    exact ⟨rfl, hn, rfl⟩
  rw [if_neg h2, if_neg h2]
  by_cases h3 : c.kind = 3
  · rw [if_pos h3, if_pos h3]
    exact ⟨rfl, ⟨hn.id, rfl, RowsAt.nil, RowsAt.nil, rfl, rfl, Nat.zero_le _⟩, rfl⟩
  rw [if_neg h3, if_neg h3]
  by_cases h4 : c.kind = 4
  · rw [if_pos h4, if_pos h4]
    exact ⟨rfl, ⟨hn.id, rfl, RowsAt.nil, RowsAt.nil, hn.par, hn.route, Nat.zero_le _⟩, rfl⟩
  rw [if_neg h4, if_neg h4]
  by_cases h5 : c.kind = 5
  · rw [if_pos h5, if_pos h5]
    exact ⟨rfl, ⟨hn.id, rfl, hn.f, RowsAt.nil, rfl, rfl, hn.fc⟩, rfl⟩
  rw [if_neg h5, if_neg h5]
  exact ⟨rfl, ⟨rfl, rfl, RowsAt.nil, RowsAt.nil, rfl, rfl, Nat.zero_le _⟩, rfl⟩
theorem res_clean13 {W : World} {tmps : Array Value} {q : Nat} {v0 v1 v2 v3 v4 v5 v6 v7 v8 v9 v10 v11 v12 v13 v14 : Value} (ht : tmps[2]? = some (.pointer (some ⟨q, 0, none⟩))) (h : W.heap[q]? = some (.cells #[v0, v1, v2, v3, v4, v5, v6, v7, v8, v9, v10, v11, v12, v13, v14] 44)) :
    (results Tryz.f47 tmps).run Tryz.prog W = .ok (.agg #[v0, v1, v2, v3, v4, v5, v6, v7, v8, v9, v10, v11, v12, v13, v14]) W := by
  have c0 := cell_of (o := 0) h
  have c1 := cell_of (o := 1) h
  have c2 := cell_of (o := 2) h
  have c3 := cell_of (o := 3) h
  have c4 := cell_of (o := 4) h
  have c5 := cell_of (o := 5) h
  have c6 := cell_of (o := 6) h
  have c7 := cell_of (o := 7) h
  have c8 := cell_of (o := 8) h
  have c9 := cell_of (o := 9) h
  have c10 := cell_of (o := 10) h
  have c11 := cell_of (o := 11) h
  have c12 := cell_of (o := 12) h
  have c13 := cell_of (o := 13) h
  have c14 := cell_of (o := 14) h
  simp at c0 c1 c2 c3 c4 c5 c6 c7 c8 c9 c10 c11 c12 c13 c14
  simp [results, Tryz.results47, go_sem, ht, c0, c1, c2, c3, c4, c5, c6, c7, c8, c9, c10, c11, c12, c13, c14]
set_option maxHeartbeats 4000000 in
theorem clean13_1 (id kd par r0 r1 r2 r3 r4 r5 r6 r7 : Int) (af ap : Option Addr) (nf cf np cp : Nat) (reset : Bool) (w : World) : Calls Tryz.prog 47 #[.agg #[.int .i64 1, .int .i64 id, .int .i64 kd, .slice af nf cf, .slice ap np cp, .int .i64 par, .int .i64 r0, .int .i64 r1, .int .i64 r2, .int .i64 r3, .int .i64 r4, .int .i64 r5, .int .i64 r6, .int .i64 r7, .bool reset]] w (Gives (.agg #[.int .i64 1, .int .i64 id, .int .i64 0, .slice none 0 0, .slice ap np cp, .int .i64 0, .int .i64 0, .int .i64 0, .int .i64 0, .int .i64 0, .int .i64 0, .int .i64 0, .int .i64 0, .int .i64 0, .bool reset]) w) := by
  go_enter Tryz.func47, Tryz.ntmps47
  go_wp2
  refine bodyPost_ret (res_clean13 rfl ?_) rfl ⟨rfl, ?_⟩
  · exact heap_alloc' (heap_new_at (w.alloc _) _ _ (by simp [World.size_alloc])) _
  · repeat (first | with_reducible exact Grew.refl _ | apply Grew.more | apply Grew.alloc | apply Grew.drew | apply Grew.drewN)
set_option maxHeartbeats 4000000 in
theorem clean13_2 (id kd par r0 r1 r2 r3 r4 r5 r6 r7 : Int) (af ap : Option Addr) (nf cf np cp : Nat) (reset : Bool) (w : World) : Calls Tryz.prog 47 #[.agg #[.int .i64 2, .int .i64 id, .int .i64 kd, .slice af nf cf, .slice ap np cp, .int .i64 par, .int .i64 r0, .int .i64 r1, .int .i64 r2, .int .i64 r3, .int .i64 r4, .int .i64 r5, .int .i64 r6, .int .i64 r7, .bool reset]] w (Gives (.agg #[.int .i64 2, .int .i64 id, .int .i64 kd, .slice af nf cf, .slice ap np cp, .int .i64 par, .int .i64 r0, .int .i64 r1, .int .i64 r2, .int .i64 r3, .int .i64 r4, .int .i64 r5, .int .i64 r6, .int .i64 r7, .bool false]) w) := by
  go_enter Tryz.func47, Tryz.ntmps47
  go_wp2
  refine bodyPost_ret (res_clean13 rfl ?_) rfl ⟨rfl, ?_⟩
  · exact heap_alloc' (heap_new_at (w.alloc _) _ _ (by simp [World.size_alloc])) _
  · repeat (first | with_reducible exact Grew.refl _ | apply Grew.more | apply Grew.alloc | apply Grew.drew | apply Grew.drewN)
set_option maxHeartbeats 4000000 in
theorem clean13_3 (id kd par r0 r1 r2 r3 r4 r5 r6 r7 : Int) (af ap : Option Addr) (nf cf np cp : Nat) (reset : Bool) (w : World) : Calls Tryz.prog 47 #[.agg #[.int .i64 3, .int .i64 id, .int .i64 kd, .slice af nf cf, .slice ap np cp, .int .i64 par, .int .i64 r0, .int .i64 r1, .int .i64 r2, .int .i64 r3, .int .i64 r4, .int .i64 r5, .int .i64 r6, .int .i64 r7, .bool reset]] w (Gives (.agg #[.int .i64 3, .int .i64 id, .int .i64 0, .slice none 0 0, .slice none 0 0, .int .i64 0, .int .i64 0, .int .i64 0, .int .i64 0, .int .i64 0, .int .i64 0, .int .i64 0, .int .i64 0, .int .i64 0, .bool false]) w) := by
  go_enter Tryz.func47, Tryz.ntmps47
  go_wp2
  refine bodyPost_ret (res_clean13 rfl ?_) rfl ⟨rfl, ?_⟩
  · exact heap_alloc' (heap_new_at (w.alloc _) _ _ (by simp [World.size_alloc])) _
  · repeat (first | with_reducible exact Grew.refl _ | apply Grew.more | apply Grew.alloc | apply Grew.drew | apply Grew.drewN)
set_option maxHeartbeats 4000000 in
theorem clean13_4 (id kd par r0 r1 r2 r3 r4 r5 r6 r7 : Int) (af ap : Option Addr) (nf cf np cp : Nat) (reset : Bool) (w : World) : Calls Tryz.prog 47 #[.agg #[.int .i64 4, .int .i64 id, .int .i64 kd, .slice af nf cf, .slice ap np cp, .int .i64 par, .int .i64 r0, .int .i64 r1, .int .i64 r2, .int .i64 r3, .int .i64 r4, .int .i64 r5, .int .i64 r6, .int .i64 r7, .bool reset]] w (Gives (.agg #[.int .i64 4, .int .i64 id, .int .i64 0, .slice none 0 0, .slice none 0 0, .int .i64 par, .int .i64 r0, .int .i64 r1, .int .i64 r2, .int .i64 r3, .int .i64 r4, .int .i64 r5, .int .i64 r6, .int .i64 r7, .bool false]) w) := by
  go_enter Tryz.func47, Tryz.ntmps47
  go_upto_region 9 with fail
  go_region
  all_goals
    go_wp2
    refine bodyPost_ret (res_clean13 rfl ?_) rfl ⟨rfl, ?_⟩
    · exact heap_alloc' (heap_new_at (w.alloc _) _ _ (by simp [World.size_alloc])) _
    · repeat (first | with_reducible exact Grew.refl _ | apply Grew.more | apply Grew.alloc | apply Grew.drew | apply Grew.drewN)
set_option maxHeartbeats 4000000 in
theorem clean13_5 (id kd par r0 r1 r2 r3 r4 r5 r6 r7 : Int) (af ap : Option Addr) (nf cf np cp : Nat) (reset : Bool) (w : World) : Calls Tryz.prog 47 #[.agg #[.int .i64 5, .int .i64 id, .int .i64 kd, .slice af nf cf, .slice ap np cp, .int .i64 par, .int .i64 r0, .int .i64 r1, .int .i64 r2, .int .i64 r3, .int .i64 r4, .int .i64 r5, .int .i64 r6, .int .i64 r7, .bool reset]] w (Gives (.agg #[.int .i64 5, .int .i64 id, .int .i64 0, .slice af nf cf, .slice none 0 0, .int .i64 0, .int .i64 0, .int .i64 0, .int .i64 0, .int .i64 0, .int .i64 0, .int .i64 0, .int .i64 0, .int .i64 0, .bool false]) w) := by
  go_enter Tryz.func47, Tryz.ntmps47
  go_wp2
  refine bodyPost_ret (res_clean13 rfl ?_) rfl ⟨rfl, ?_⟩
  · exact heap_alloc' (heap_new_at (w.alloc _) _ _ (by simp [World.size_alloc])) _
  · repeat (first | with_reducible exact Grew.refl _ | apply Grew.more | apply Grew.alloc | apply Grew.drew | apply Grew.drewN)
theorem clean13_any (c : StC) (w : World) (hk : 1 ≤ c.kind ∧ c.kind ≤ 5) : Calls Tryz.prog 47 #[.agg #[.int .i64 c.kind, .int .i64 c.c.id, .int .i64 c.c.kind, .slice c.c.af c.c.nf c.c.cf, .slice c.c.ap c.c.np c.c.cp, .int .i64 c.c.par, .int .i64 c.c.r0, .int .i64 c.c.r1, .int .i64 c.c.r2, .int .i64 c.c.r3, .int .i64 c.c.r4, .int .i64 c.c.r5, .int .i64 c.c.r6, .int .i64 c.c.r7, .bool c.reset]] w (Gives (.agg #[.int .i64 (cleanC c).kind, .int .i64 (cleanC c).c.id, .int .i64 (cleanC c).c.kind, .slice (cleanC c).c.af (cleanC c).c.nf (cleanC c).c.cf, .slice (cleanC c).c.ap (cleanC c).c.np (cleanC c).c.cp, .int .i64 (cleanC c).c.par, .int .i64 (cleanC c).c.r0, .int .i64 (cleanC c).c.r1, .int .i64 (cleanC c).c.r2, .int .i64 (cleanC c).c.r3, .int .i64 (cleanC c).c.r4, .int .i64 (cleanC c).c.r5, .int .i64 (cleanC c).c.r6, .int .i64 (cleanC c).c.r7, .bool (cleanC c).reset]) w) := by
  obtain ⟨kind, ⟨id, kd, af, nf, cf, ap, np, cp, par, r0, r1, r2, r3, r4, r5, r6, r7⟩, reset⟩ := c
  simp only at hk
  rcases (show kind = 1 ∨ kind = 2 ∨ kind = 3 ∨ kind = 4 ∨ kind = 5 by omega) with rfl | rfl | rfl | rfl | rfl
  · exact clean13_1 id kd par r0 r1 r2 r3 r4 r5 r6 r7 af ap nf cf np cp reset w
  · exact clean13_2 id kd par r0 r1 r2 r3 r4 r5 r6 r7 af ap nf cf np cp reset w
  · exact clean13_3 id kd par r0 r1 r2 r3 r4 r5 r6 r7 af ap nf cf np cp reset w
  · exact clean13_4 id kd par r0 r1 r2 r3 r4 r5 r6 r7 af ap nf cf np cp reset w
  · exact clean13_5 id kd par r0 r1 r2 r3 r4 r5 r6 r7 af ap nf cf np cp reset w
end Go.Proofs.YtmnllmbchpebbaaGreatDoor

/-! forebaylaw08.Great. -/
namespace Go.Proofs.YtmnllmbchpebbaaGreatDoor
set_option linter.unusedSimpArgs false
set_option linter.unusedVariables false
open Go.RowKit Ga
set_option maxRecDepth 100000

end Go.Proofs.YtmnllmbchpebbaaGreatDoor

/-! forebaylaw10.Great. -/
namespace Go.Proofs.YtmnllmbchpebbaaGreatDoor
set_option linter.unusedSimpArgs false
set_option linter.unusedVariables false
open Go.RowKit Ga
set_option maxRecDepth 100000

end Go.Proofs.YtmnllmbchpebbaaGreatDoor

/-! Nodes as arguments. -/
namespace Go.Proofs.YtmnllmbchpebbaaGreatDoor
set_option linter.unusedSimpArgs false
set_option maxRecDepth 100000
set_option linter.unusedVariables false
open Go.RowKit Ga Go.ChangeShapes Go.WideShapes

theorem cells_int1 : Tryz.prog.cellsOf 3 = 1 := by kernel_rfl
theorem laidOut : laidOutB Tryz.prog = true := by kernel_rfl
theorem opens_int1 : Opens Tryz.prog 3 (fun _ cs (n : Int) => cs = [Value.int .i64 n] ∧ True) := (Opens.i64 Tryz.underlying3).mono fun _ _ n h => ⟨n, h.1, trivial⟩
/-- a slice and how far it may grow -/
theorem SlAt.rowsC {α : Type} {k : Nat} {enc : α → List Value} {w : World} {v : Value} {l : List α} (h : SlAt k (fun _ cs (a : α) => cs = enc a ∧ True) w v l) : RowsAt k enc w v l ∧ ∃ a cap, v = .slice a l.length cap ∧ l.length ≤ cap := by
  refine ⟨h.rows.1, ?_⟩
  obtain ⟨a, cap, rfl, hl, -⟩ := h
  exact ⟨a, cap, rfl, hl⟩
end Go.Proofs.YtmnllmbchpebbaaGreatDoor

/-! Steps as arguments. -/
namespace Go.Proofs.YtmnllmbchpebbaaGreatDoor
set_option linter.unusedSimpArgs false
set_option maxRecDepth 100000
set_option linter.unusedVariables false
open Go.RowKit Ga Go.ChangeShapes Go.WideShapes

theorem cells_bool1 : Tryz.prog.cellsOf 4 = 1 := by kernel_rfl
theorem opens_bool1 : Opens Tryz.prog 4 (fun _ cs (b : Bool) => cs = [Value.bool b] ∧ True) := (Opens.bool Tryz.underlying4).mono fun _ _ n h => ⟨n, h, trivial⟩
end Go.Proofs.YtmnllmbchpebbaaGreatDoor
