import Derived.Test.YtpbohimddmploaaGreatCd0
import Derived.Test.YtpbohimddmploaaGreatCd5
import Derived.Test.YtpbohimddmploaaGreatCd6
import Derived.Test.YtpbohimddmploaaGreatCd4
import Derived.Deep.RegionLaw
import Derived.Deep.RegionHeld3
import Derived.Lib.SlicesCompact
import Derived.Deep.DeepCutAuto
import Derived.Deep.QuietTactic
import Derived.RegionTactic
set_option linter.unusedSimpArgs false
set_option linter.unusedVariables false
set_option maxRecDepth 100000
set_option maxHeartbeats 64000000
namespace Go.Proofs.YtpbohimddmploaaGreat
open Go.RowKit Ga

abbrev IntsAt (w : World) (v : Value) (l : List Int) : Prop := RowsAt 1 (fun x => [Value.int .i64 x]) w v l
structure NdC where
  id : Int
  kind : Int
  af : Option Addr
  nf : Nat
  cf : Nat
  ap : Option Addr
  np : Nat
  cp : Nat
  par : Int
  r0 : Int
  r1 : Int
  r2 : Int
  r3 : Int
  r4 : Int
  r5 : Int
  r6 : Int
  r7 : Int
instance : Inhabited NdC := ⟨⟨0, 0, none, 0, 0, none, 0, 0, 0, 0, 0, 0, 0, 0, 0, 0, 0⟩⟩
abbrev NdC.vf (c : NdC) : Value := .slice c.af c.nf c.cf
abbrev NdC.vp (c : NdC) : Value := .slice c.ap c.np c.cp
def encNd (n : NdC) : List Value := [.int .i64 n.id, .int .i64 n.kind, .slice n.af n.nf n.cf, .slice n.ap n.np n.cp, .int .i64 n.par, .int .i64 n.r0, .int .i64 n.r1, .int .i64 n.r2, .int .i64 n.r3, .int .i64 n.r4, .int .i64 n.r5, .int .i64 n.r6, .int .i64 n.r7]
theorem encNd_len (n : NdC) : (encNd n).length = 13 := rfl
structure NodeIs (w : World) (c : NdC) (n : Gr.Nd) : Prop where
  id : n.id = c.id
  kind : n.kind = c.kind
  f : IntsAt w c.vf n.frm
  p : ValsAt w c.vp n.prog
  par : n.par = c.par
  route : n.route = [c.r0, c.r1, c.r2, c.r3, c.r4, c.r5, c.r6, c.r7]
  fc : n.frm.length ≤ c.cf
theorem NodeIs.grew {w w' : World} {c : NdC} {n : Gr.Nd} (h : NodeIs w c n) (g : Grew w w') : NodeIs w' c n :=
  { h with f := h.f.grew g, p := h.p.grew g }
theorem IntsAt.one {w : World} {v : Value} {l : List Int} (h : IntsAt w v l) : v.oneCell' = true := by
  obtain ⟨a, cap, rfl, -⟩ := h
  rfl
theorem ValsAt.one {w : World} {v : Value} {l : List Val} (h : ValsAt w v l) : v.oneCell' = true := by
  obtain ⟨a, cap, rfl, -⟩ := h
  rfl
theorem encNd_one (c : NdC) : ∀ u ∈ encNd c, u.oneCell' = true := by
  intro u hu
  simp [encNd] at hu
  rcases hu with rfl | rfl | rfl | rfl | rfl | rfl | rfl | rfl | rfl | rfl | rfl | rfl | rfl <;> rfl
theorem NodeIs.lit {w : World} {c : NdC} {n : Gr.Nd} (h : NodeIs w c n) : ∃ id kind af cf ap cp par r0 r1 r2 r3 r4 r5 r6 r7, c = ⟨id, kind, af, n.frm.length, cf, ap, n.prog.length, cp, par, r0, r1, r2, r3, r4, r5, r6, r7⟩ := by
  obtain ⟨id, kind, af, nf, cf, ap, np, cp, par, r0, r1, r2, r3, r4, r5, r6, r7⟩ := c
  obtain ⟨af', cf', e1⟩ := h.f.len
  obtain ⟨ap', cp', e2⟩ := h.p.len
  simp only [NdC.vf, NdC.vp] at e1 e2
  cases e1
  cases e2
  exact ⟨id, kind, _, _, _, _, par, r0, r1, r2, r3, r4, r5, r6, r7, rfl⟩
def NodesAt (w : World) (v : Value) (l : List Gr.Nd) : Prop := ∃ lc : List NdC, RowsAt 13 encNd w v lc ∧ lc.length = l.length ∧ ∀ (i : Nat) (c : NdC) (n : Gr.Nd), lc[i]? = some c → l[i]? = some n → NodeIs w c n
theorem NodesAt.grew {w w' : World} {v : Value} {l : List Gr.Nd} (h : NodesAt w v l) (g : Grew w w') : NodesAt w' v l := by
  obtain ⟨lc, h1, h2, h3⟩ := h
  exact ⟨lc, h1.grew g, h2, fun i c n hc hn => (h3 i c n hc hn).grew g⟩
theorem NodeIs.r8 {w : World} {c : NdC} {n : Gr.Nd} (h : NodeIs w c n) : n.route.length = 8 := by rw [h.route]; rfl
theorem NodesAt.r8 {w : World} {v : Value} {l : List Gr.Nd} (h : NodesAt w v l) : ∀ n ∈ l, n.route.length = 8 := by
  obtain ⟨lc, h1, h2, h3⟩ := h
  intro n hn
  obtain ⟨i, hi, e⟩ := List.mem_iff_getElem.1 hn
  exact (h3 i _ n (List.getElem?_eq_getElem (by omega)) (by rw [List.getElem?_eq_getElem hi, e])).r8
theorem NodesAt.openC {w : World} {v : Value} {l : List Gr.Nd} (h : NodesAt w v l) : ∃ a cap, v = .slice a l.length cap ∧ l.length ≤ 9223372036854775807 ∧ ∀ i (hi : i < l.length), ∃ b off c, a = some ⟨b, off, none⟩ ∧ Pre b w ∧ NodeIs w c l[i] ∧
    w.cell? ⟨b, off + i * 13, none⟩ = some (.int .i64 c.id) ∧ w.cell? ⟨b, off + i * 13 + 1, none⟩ = some (.int .i64 c.kind) ∧ w.cell? ⟨b, off + i * 13 + 2, none⟩ = some (.slice c.af c.nf c.cf) ∧ w.cell? ⟨b, off + i * 13 + 3, none⟩ = some (.slice c.ap c.np c.cp) ∧ w.cell? ⟨b, off + i * 13 + 4, none⟩ = some (.int .i64 c.par) ∧
    w.cell? ⟨b, off + i * 13 + 5, none⟩ = some (.int .i64 c.r0) ∧ w.cell? ⟨b, off + i * 13 + 6, none⟩ = some (.int .i64 c.r1) ∧ w.cell? ⟨b, off + i * 13 + 7, none⟩ = some (.int .i64 c.r2) ∧ w.cell? ⟨b, off + i * 13 + 8, none⟩ = some (.int .i64 c.r3) ∧ w.cell? ⟨b, off + i * 13 + 9, none⟩ = some (.int .i64 c.r4) ∧ w.cell? ⟨b, off + i * 13 + 10, none⟩ = some (.int .i64 c.r5) ∧ w.cell? ⟨b, off + i * 13 + 11, none⟩ = some (.int .i64 c.r6) ∧ w.cell? ⟨b, off + i * 13 + 12, none⟩ = some (.int .i64 c.r7) := by
  obtain ⟨lc, ⟨a, cap, rfl, hm, hx⟩, h2, h3⟩ := h
  refine ⟨a, cap, by rw [h2], by unfold maxLen at hm; omega, fun i hi => ?_⟩
  have hi' : i < lc.length := by omega
  obtain ⟨b, off, rfl, hc⟩ := hx (by intro e; subst e; simp at hi')
  have hn := h3 i lc[i] l[i] (List.getElem?_eq_getElem hi') (List.getElem?_eq_getElem hi)
  have hj := fun j u => hc i lc[i] (List.getElem?_eq_getElem hi') j u
  have h0 := hj 0 _ rfl
  exact ⟨b, off, lc[i], rfl, Pre.mk (World.block_lt_of_cell? w _ h0), hn, h0, hj 1 _ rfl, hj 2 _ rfl, hj 3 _ rfl, hj 4 _ rfl, hj 5 _ rfl, hj 6 _ rfl, hj 7 _ rfl, hj 8 _ rfl, hj 9 _ rfl, hj 10 _ rfl, hj 11 _ rfl, hj 12 _ rfl⟩
theorem NodesAt.open' {w : World} {v : Value} {l : List Gr.Nd} (h : NodesAt w v l) : ∃ a cap, v = .slice a l.length cap ∧ l.length ≤ 9223372036854775807 ∧ ∀ i (hi : i < l.length), ∃ b off vf vp, a = some ⟨b, off, none⟩ ∧ Pre b w ∧ IntsAt w vf l[i].frm ∧ ValsAt w vp l[i].prog ∧
    w.cell? ⟨b, off + i * 13, none⟩ = some (.int .i64 l[i].id) ∧ w.cell? ⟨b, off + i * 13 + 1, none⟩ = some (.int .i64 l[i].kind) ∧ w.cell? ⟨b, off + i * 13 + 2, none⟩ = some vf ∧ w.cell? ⟨b, off + i * 13 + 3, none⟩ = some vp ∧ w.cell? ⟨b, off + i * 13 + 4, none⟩ = some (.int .i64 l[i].par) ∧
    ∀ g, g < 8 → w.cell? ⟨b, off + i * 13 + 5 + g, none⟩ = some (.int .i64 (l[i].route.getD g 0)) := by
  obtain ⟨a, cap, rfl, hm, hx⟩ := h.openC
  refine ⟨a, cap, rfl, hm, fun i hi => ?_⟩
  obtain ⟨b, off, c, rfl, hb, hn, c0, c1, c2, c3, c4, c5, c6, c7, c8, c9, c10, c11, c12⟩ := hx i hi
  refine ⟨b, off, c.vf, c.vp, rfl, hb, hn.f, hn.p, by rw [hn.id]; exact c0, by rw [hn.kind]; exact c1, c2, c3, by rw [hn.par]; exact c4, fun g hg => ?_⟩
  rw [hn.route]
  rcases (show g = 0 ∨ g = 1 ∨ g = 2 ∨ g = 3 ∨ g = 4 ∨ g = 5 ∨ g = 6 ∨ g = 7 by omega) with rfl | rfl | rfl | rfl | rfl | rfl | rfl | rfl
  · exact c5
  · exact c6
  · exact c7
  · exact c8
  · exact c9
  · exact c10
  · exact c11
  · exact c12
theorem NodesAt.open13 {w : World} {v : Value} {l : List Gr.Nd} (h : NodesAt w v l) : ∃ a cap, v = .slice a l.length cap ∧ l.length ≤ 9223372036854775807 ∧ ∀ i (hi : i < l.length), ∃ b off vf vp, a = some ⟨b, off, none⟩ ∧ Pre b w ∧ IntsAt w vf l[i].frm ∧ ValsAt w vp l[i].prog ∧
    w.cell? ⟨b, off + i * 13, none⟩ = some (.int .i64 l[i].id) ∧ w.cell? ⟨b, off + i * 13 + 1, none⟩ = some (.int .i64 l[i].kind) ∧ w.cell? ⟨b, off + i * 13 + 2, none⟩ = some vf ∧ w.cell? ⟨b, off + i * 13 + 3, none⟩ = some vp ∧ w.cell? ⟨b, off + i * 13 + 4, none⟩ = some (.int .i64 l[i].par) ∧
    w.cell? ⟨b, off + i * 13 + 5, none⟩ = some (.int .i64 (l[i].route.getD 0 0)) ∧ w.cell? ⟨b, off + i * 13 + 6, none⟩ = some (.int .i64 (l[i].route.getD 1 0)) ∧ w.cell? ⟨b, off + i * 13 + 7, none⟩ = some (.int .i64 (l[i].route.getD 2 0)) ∧ w.cell? ⟨b, off + i * 13 + 8, none⟩ = some (.int .i64 (l[i].route.getD 3 0)) ∧
    w.cell? ⟨b, off + i * 13 + 9, none⟩ = some (.int .i64 (l[i].route.getD 4 0)) ∧ w.cell? ⟨b, off + i * 13 + 10, none⟩ = some (.int .i64 (l[i].route.getD 5 0)) ∧ w.cell? ⟨b, off + i * 13 + 11, none⟩ = some (.int .i64 (l[i].route.getD 6 0)) ∧ w.cell? ⟨b, off + i * 13 + 12, none⟩ = some (.int .i64 (l[i].route.getD 7 0)) := by
  obtain ⟨a, cap, rfl, hm, hx⟩ := h.open'
  refine ⟨a, cap, rfl, hm, fun i hi => ?_⟩
  obtain ⟨b, off, vf, vp, e, hb, hf, hp, c0, c1, c2, c3, c4, cr⟩ := hx i hi
  exact ⟨b, off, vf, vp, e, hb, hf, hp, c0, c1, c2, c3, c4, cr 0 (by decide), cr 1 (by decide), cr 2 (by decide), cr 3 (by decide), cr 4 (by decide), cr 5 (by decide), cr 6 (by decide), cr 7 (by decide)⟩

def findI (l : List Gr.Nd) (id : Int) : Int := match Gr.find l id with
  | some i => i
  | none => -1
theorem ints_open {w : World} {v : Value} {l : List Int} (h : IntsAt w v l) : ∃ a cap, v = .slice a l.length cap ∧ l.length ≤ 9223372036854775807 ∧ ∀ i (hi : i < l.length), ∃ b off, a = some ⟨b, off, none⟩ ∧ Pre b w ∧ w.cell? ⟨b, off + i, none⟩ = some (.int .i64 l[i]) := by
  obtain ⟨a, cap, rfl, hm, hl⟩ := h
  refine ⟨a, cap, rfl, by unfold maxLen at hm; omega, fun i hi => ?_⟩
  obtain ⟨b, off, rfl, hx⟩ := hl (by intro e; subst e; simp at hi)
  have h0 := hx i l[i] (List.getElem?_eq_getElem hi) 0 _ rfl
  rw [Nat.mul_one, Nat.add_zero] at h0
  exact ⟨b, off, rfl, Pre.mk (World.block_lt_of_cell? w _ h0), h0⟩


structure StC where
  kind : Int
  c : NdC
  reset : Bool
instance : Inhabited StC := ⟨⟨0, default, false⟩⟩
def encSt (s : StC) : List Value := [.int .i64 s.kind, .int .i64 s.c.id, .int .i64 s.c.kind, .slice s.c.af s.c.nf s.c.cf, .slice s.c.ap s.c.np s.c.cp, .int .i64 s.c.par, .int .i64 s.c.r0, .int .i64 s.c.r1, .int .i64 s.c.r2, .int .i64 s.c.r3, .int .i64 s.c.r4, .int .i64 s.c.r5, .int .i64 s.c.r6, .int .i64 s.c.r7, .bool s.reset]
theorem encSt_len (s : StC) : (encSt s).length = 15 := rfl
theorem encSt_one (c : StC) : ∀ u ∈ encSt c, u.oneCell' = true := by
  intro u hu
  simp [encSt] at hu
  rcases hu with rfl | rfl | rfl | rfl | rfl | rfl | rfl | rfl | rfl | rfl | rfl | rfl | rfl | rfl | rfl <;> rfl
structure StepIs (w : World) (c : StC) (s : Gr.Stp) : Prop where
  kind : s.kind = c.kind
  nd : NodeIs w c.c s.nd
  reset : s.reset = c.reset
theorem StepIs.grew {w w' : World} {c : StC} {s : Gr.Stp} (h : StepIs w c s) (g : Grew w w') : StepIs w' c s := { h with nd := h.nd.grew g }
def StepsAt (w : World) (v : Value) (l : List Gr.Stp) : Prop := ∃ lc : List StC, RowsAt 15 encSt w v lc ∧ lc.length = l.length ∧ ∀ (i : Nat) (c : StC) (s : Gr.Stp), lc[i]? = some c → l[i]? = some s → StepIs w c s
theorem StepsAt.grew {w w' : World} {v : Value} {l : List Gr.Stp} (h : StepsAt w v l) (g : Grew w w') : StepsAt w' v l := by
  obtain ⟨lc, h1, h2, h3⟩ := h
  exact ⟨lc, h1.grew g, h2, fun i c n hc hn => (h3 i c n hc hn).grew g⟩
theorem StepsAt.nil (w : World) : StepsAt w (.slice none 0 0) [] := ⟨[], RowsAt.nil, rfl, fun i c n h => by simp at h⟩
theorem StepsAt.r8 {w : World} {v : Value} {l : List Gr.Stp} (h : StepsAt w v l) : ∀ s ∈ l, s.nd.route.length = 8 := by
  obtain ⟨lc, -, h2, h3⟩ := h
  intro n hn
  obtain ⟨i, hi, rfl⟩ := List.mem_iff_getElem.1 hn
  rw [(h3 i lc[i] l[i] (List.getElem?_eq_getElem (by omega)) (List.getElem?_eq_getElem hi)).nd.route]
  rfl
theorem StepsAt.openC {w : World} {v : Value} {l : List Gr.Stp} (h : StepsAt w v l) : ∃ a cap, v = .slice a l.length cap ∧ l.length ≤ 9223372036854775807 ∧ ∀ i (hi : i < l.length), ∃ b off c, a = some ⟨b, off, none⟩ ∧ Pre b w ∧ StepIs w c l[i] ∧
    w.cell? ⟨b, off + i * 15, none⟩ = some (.int .i64 c.kind) ∧
    w.cell? ⟨b, off + i * 15 + 1, none⟩ = some (.int .i64 c.c.id) ∧
    w.cell? ⟨b, off + i * 15 + 2, none⟩ = some (.int .i64 c.c.kind) ∧
    w.cell? ⟨b, off + i * 15 + 3, none⟩ = some (.slice c.c.af c.c.nf c.c.cf) ∧
    w.cell? ⟨b, off + i * 15 + 4, none⟩ = some (.slice c.c.ap c.c.np c.c.cp) ∧
    w.cell? ⟨b, off + i * 15 + 5, none⟩ = some (.int .i64 c.c.par) ∧
    w.cell? ⟨b, off + i * 15 + 6, none⟩ = some (.int .i64 c.c.r0) ∧
    w.cell? ⟨b, off + i * 15 + 7, none⟩ = some (.int .i64 c.c.r1) ∧
    w.cell? ⟨b, off + i * 15 + 8, none⟩ = some (.int .i64 c.c.r2) ∧
    w.cell? ⟨b, off + i * 15 + 9, none⟩ = some (.int .i64 c.c.r3) ∧
    w.cell? ⟨b, off + i * 15 + 10, none⟩ = some (.int .i64 c.c.r4) ∧
    w.cell? ⟨b, off + i * 15 + 11, none⟩ = some (.int .i64 c.c.r5) ∧
    w.cell? ⟨b, off + i * 15 + 12, none⟩ = some (.int .i64 c.c.r6) ∧
    w.cell? ⟨b, off + i * 15 + 13, none⟩ = some (.int .i64 c.c.r7) ∧
    w.cell? ⟨b, off + i * 15 + 14, none⟩ = some (.bool c.reset) := by
  obtain ⟨lc, ⟨a, cap, rfl, hm, hx⟩, h2, h3⟩ := h
  refine ⟨a, cap, by rw [h2], by unfold maxLen at hm; omega, fun i hi => ?_⟩
  have hi' : i < lc.length := by omega
  obtain ⟨b, off, rfl, hc⟩ := hx (by intro e; subst e; simp at hi')
  have hn := h3 i lc[i] l[i] (List.getElem?_eq_getElem hi') (List.getElem?_eq_getElem hi)
  have hj := fun j u => hc i lc[i] (List.getElem?_eq_getElem hi') j u
  have h0 := hj 0 _ rfl
  exact ⟨b, off, lc[i], rfl, Pre.mk (World.block_lt_of_cell? w _ h0), hn, h0, hj 1 _ rfl, hj 2 _ rfl, hj 3 _ rfl, hj 4 _ rfl, hj 5 _ rfl, hj 6 _ rfl, hj 7 _ rfl, hj 8 _ rfl, hj 9 _ rfl, hj 10 _ rfl, hj 11 _ rfl, hj 12 _ rfl, hj 13 _ rfl, hj 14 _ rfl⟩
theorem StepIs.lit {w : World} {c : StC} {s : Gr.Stp} (h : StepIs w c s) : ∃ kind reset id kd af cf ap cp par r0 r1 r2 r3 r4 r5 r6 r7, c = ⟨kind, ⟨id, kd, af, s.nd.frm.length, cf, ap, s.nd.prog.length, cp, par, r0, r1, r2, r3, r4, r5, r6, r7⟩, reset⟩ := by
  obtain ⟨kind, c, reset⟩ := c
  obtain ⟨id, kd, af, cf, ap, cp, par, r0, r1, r2, r3, r4, r5, r6, r7, e⟩ := h.nd.lit
  simp only at e
  subst e
  exact ⟨_, _, _, _, _, _, _, _, _, _, _, _, _, _, _, _, _, rfl⟩
theorem NodesAt.one {w : World} {c : NdC} {n : Gr.Nd} (h : NodeIs w c n) (k : Nat) (hk : k = w.heap.size) (cs : List Value) (hcs : cs = encNd c) : NodesAt (w.alloc (.cells cs.toArray 56)) (.slice (some ⟨k, 0, none⟩) 1 1) [n] := by
  refine ⟨[c], RowsAt.fresh (l := [c]) rfl (by simp [maxLen]) encNd_len hk (by rw [hcs]; simp), rfl, ?_⟩
  intro i c' n' h1 h2
  match i with
  | 0 =>
    cases h1
    cases h2
    exact h.grew ((Grew.refl _).alloc _)
  | i + 1 => cases h1

def MadeOf (P : Value → World → Prop) (w : World) (e : Ending) (w' : World) : Prop := ∃ v, e = .returned v ∧ P v w' ∧ Grew w w'
theorem cloneInts_any (v : Value) (l : List Int) (w : World) (hv : IntsAt w v l) (hl : l.length ≤ 1000) : Calls Tryz.prog 83 #[v] w (MadeOf (fun v' w' => OwnAt w.heap.size 3 1 encN w' v' l) w) := by
  obtain ⟨a, cap, rfl, hm, hx⟩ := ints_open hv
  cases a with
  | none =>
    have h0 : l = [] := by
      cases l with
      | nil => rfl
      | cons x l => obtain ⟨b, off, h, _⟩ := hx 0 (by simp); cases h
    subst h0
    exact (Tryz.slices_Clone_int_nil _ _ _).mono fun e w' ⟨he, hw⟩ => ⟨_, he, OwnAt.nil _, hw ▸ Grew.refl w⟩
  | some ad =>
    cases l with
    | nil => exact (Tryz.slices_Clone_int_zero ad cap w).mono fun e w' ⟨v', he, ho, _, hb⟩ => ⟨v', he, ho, Grew.ofBelow hb⟩
    | cons x l =>
      obtain ⟨b, off, h, _⟩ := hx 0 (by simp)
      cases h
      refine (Tryz.slices_Clone_int b off _ cap (x :: l) w (Nat.le_refl _) (by simp at hl ⊢; omega) fun j hj => ?_).mono fun e w' ⟨v', he, ho, _, hb⟩ => ⟨v', he, ?_, Grew.ofBelow hb⟩
      · obtain ⟨b', off', h, _, hc⟩ := hx j hj
        cases h
        rw [List.getD_eq_getElem?_getD, List.getElem?_eq_getElem hj]
        exact hc
      · unfold OwnAt
        rw [List.take_of_length_le (Nat.le_refl _)] at ho
        have e1 : (x :: l).flatMap encN = (x :: l).map (Value.int .i64) := by
          generalize x :: l = l
          induction l with
          | nil => rfl
          | cons x l ih => rw [List.flatMap_cons, ih]; rfl
        rw [e1]
        exact ho

theorem addr_add (b off j : Nat) : (⟨b, off, none⟩ : Addr).add j = ⟨b, off + j, none⟩ := by
  unfold Addr.add; split
  · rename_i h; have : j = 0 := by simpa using h
    rw [this]; rfl
  · rfl
theorem cloneVals_any (v : Value) (l : List Val) (w : World) (hv : ValsAt w v l) (hl : l.length ≤ 1000) : Calls Tryz.prog 155 #[v] w (MadeOf (fun v' w' => OwnAt w.heap.size 190 2 encI w' v' l) w) := by
  obtain ⟨a, cap, rfl, hm, hx⟩ := hv
  cases a with
  | none =>
    have h0 : l = [] := by
      cases l with
      | nil => rfl
      | cons x l => obtain ⟨b, off, h, _⟩ := hx (by simp); cases h
    subst h0
    exact (AnyE.slices_Clone_nil Tryz.cloneInstr _ _ _).mono fun e w' ⟨he, hw⟩ => ⟨_, he, OwnAt.nil _, hw ▸ Grew.refl w⟩
  | some ad =>
    have hnews : ∀ j u, (l.flatMap encI)[j]? = some u → (w.alloc (.cells #[] 190)).cell? (ad.add j) = some u := by
      intro j u hj
      obtain ⟨q, y, r, h1, h2, rfl⟩ := flat_inv encI_len l j u hj
      obtain ⟨b, off, h, hc⟩ := hx (by intro e; subst e; simp at h1)
      cases h
      rw [addr_add]
      have h3 := hc q y h1 r u h2
      rw [Nat.add_assoc] at h3
      exact Lib.cell?_alloc_some _ h3
    have HN := Lib.hid hnews
    obtain ⟨i, hi, hz0, hz1, hz2⟩ := info_parts infoIns
    have q22 : ∀ (w : World) (a : Option Addr) (n c n' c' : Nat), (binOp .eql 53 (.slice a n c) (.slice none n' c')).run Tryz.prog w = .ok (.bool a.isNone) w := fun w a n c n' c' => Lib.run_eql_slice_nil w _ _ a n c n' c' Tryz.underlying53
    clear hnews hx
    go_enter Tryz.func155, Tryz.ntmps155
    go_wp2_with (at_builtin; refine wpList_append_own _ rfl _ _ 53 rfl w.heap.size 190 i _ 2 16 Tryz.underlying53 hi hz0 hz1 hz2 rfl (by decide) _ _ _ rfl (World.ownsRow_made w #[] 0 (Nat.le_refl _) (Nat.zero_le _) rfl) ad l.length cap (l.flatMap encI) rfl (flat_length encI_len l) HN.out (by intro u hu; obtain ⟨y, _, hy⟩ := List.mem_flatMap.1 hu; exact encI_one y u hy) (by unfold maxLen; omega) (by omega) (by simp) ?_)
    intro v' w1 hown hgrow hnil
    go_wp2
    go_ret
    refine ⟨v', rfl, ?_, Grew.ofBelow (((Below.refl _ w).alloc (Nat.le_refl _) _).grown hgrow (by simp) (by intro k hk; simp [Value.ownBlock] at hk; omega))⟩
    unfold OwnAt
    simpa using hown

theorem heap_more_same {W W' : World} (hs : W.heap.size = W'.heap.size) (R : Array Obj) (n b : Nat) (hb : W.heap.size ≤ b) : (W'.more R n).heap[b]? = (W.more R n).heap[b]? := by
  rw [heap_more_in W R n b hb, heap_more_in W' R n b (by omega), hs]
def OwnsNd (base : Nat) (w : World) (c : NdC) (n : Gr.Nd) : Prop := OwnAt base 3 1 encN w c.vf n.frm ∧ OwnAt base 190 2 encI w c.vp n.prog
theorem OwnsNd.to {base : Nat} {w w' : World} {c : NdC} {n : Gr.Nd} (o : OwnsNd base w c n) (hb : ∀ b, base ≤ b → b < w.heap.size → w'.heap[b]? = w.heap[b]?) : OwnsNd base w' c n := by
  refine ⟨OwnAt.same o.1 fun b h => ?_, OwnAt.same o.2 fun b h => ?_⟩
  · obtain ⟨h1, _, h2⟩ := OwnAt.block o.1 h
    exact hb b h1 (heap_lt h2)
  · obtain ⟨h1, _, h2⟩ := OwnAt.block o.2 h
    exact hb b h1 (heap_lt h2)
theorem OwnsNd.is {base : Nat} {w w' : World} {c : NdC} {n : Gr.Nd} (o : OwnsNd base w' c n) (h : NodeIs w c n) : NodeIs w' c n :=
  { h with f := o.1.rows encN_len, p := o.2.rows encI_len }
theorem OwnsNd.low {base base' : Nat} {w : World} {c : NdC} {n : Gr.Nd} (o : OwnsNd base w c n) (hb : base' ≤ base) : OwnsNd base' w c n := ⟨OwnAt.low o.1 hb, OwnAt.low o.2 hb⟩
theorem OwnsNd.grew {base : Nat} {w w' : World} {c : NdC} {n : Gr.Nd} (o : OwnsNd base w c n) (g : Grew w w') : OwnsNd base w' c n := ⟨o.1.grew g, o.2.grew g⟩
def GivesNode (n : Gr.Nd) (w : World) (e : Ending) (w' : World) : Prop := ∃ c : NdC, e = .returned (.agg #[.int .i64 c.id, .int .i64 c.kind, .slice c.af c.nf c.cf, .slice c.ap c.np c.cp, .int .i64 c.par, .int .i64 c.r0, .int .i64 c.r1, .int .i64 c.r2, .int .i64 c.r3, .int .i64 c.r4, .int .i64 c.r5, .int .i64 c.r6, .int .i64 c.r7]) ∧ NodeIs w' c n ∧ OwnsNd w.heap.size w' c n ∧ Grew w w'
theorem OwnAt.cap {α : Type} {base : Nat} {e : TypeId} {k : Nat} {enc : α → List Value} {w : World} {a : Option Addr} {n cap : Nat} {l : List α} (h : OwnAt base e k enc w (.slice a n cap) l) : l.length ≤ cap := by
  obtain ⟨h1, h2⟩ := h
  rcases h2 with ⟨h, h0⟩ | ⟨g, cap', cur, hv, hb, hh, hc, r⟩
  · rw [h0]; exact Nat.zero_le _
  · cases hv; exact hc
theorem node_made {w w' : World} (c : NdC) {c0 : NdC} {n : Gr.Nd} (h : NodeIs w c0 n) (ei : c0.id = c.id) (ek : c0.kind = c.kind) (ep : c0.par = c.par) (e0 : c0.r0 = c.r0) (e1 : c0.r1 = c.r1) (e2 : c0.r2 = c.r2) (e3 : c0.r3 = c.r3) (e4 : c0.r4 = c.r4) (e5 : c0.r5 = c.r5) (e6 : c0.r6 = c.r6) (e7 : c0.r7 = c.r7)
    (o1 : OwnAt w.heap.size 3 1 encN w' c.vf n.frm) (o2 : OwnAt w.heap.size 190 2 encI w' c.vp n.prog) (g : Grew w w') : GivesNode n w (.returned (.agg #[.int .i64 c.id, .int .i64 c.kind, .slice c.af c.nf c.cf, .slice c.ap c.np c.cp, .int .i64 c.par, .int .i64 c.r0, .int .i64 c.r1, .int .i64 c.r2, .int .i64 c.r3, .int .i64 c.r4, .int .i64 c.r5, .int .i64 c.r6, .int .i64 c.r7])) w' :=
  ⟨c, rfl, ⟨h.id.trans ei, h.kind.trans ek, o1.rows encN_len, o2.rows encI_len, h.par.trans ep, by rw [h.route, e0, e1, e2, e3, e4, e5, e6, e7], OwnAt.cap o1⟩, ⟨o1, o2⟩, g⟩
theorem own_any (c : NdC) (n : Gr.Nd) (w : World) (hn : NodeIs w c n) (hf : n.frm.length ≤ 1000) (hp : n.prog.length ≤ 1000) : Calls Tryz.prog 117 #[.agg #[.int .i64 c.id, .int .i64 c.kind, .slice c.af c.nf c.cf, .slice c.ap c.np c.cp, .int .i64 c.par, .int .i64 c.r0, .int .i64 c.r1, .int .i64 c.r2, .int .i64 c.r3, .int .i64 c.r4, .int .i64 c.r5, .int .i64 c.r6, .int .i64 c.r7]] w (GivesNode n w) := by
  obtain ⟨id, kind, af, cf, ap, cp, par, r0, r1, r2, r3, r4, r5, r6, r7, rfl⟩ := hn.lit
  have HN := Lib.hid hn
  clear hn
  have h1 := fun W (g : Grew w W) => cloneInts_any _ n.frm W (HN.out.f.grew g) hf
  have h2 := fun W (g : Grew w W) => cloneVals_any _ n.prog W (HN.out.p.grew g) hp
  have H1 := Lib.hid h1
  have H2 := Lib.hid h2
  clear h1 h2
  show Calls Tryz.prog 117 #[.agg #[.int .i64 id, .int .i64 kind, .slice af n.frm.length cf, .slice ap n.prog.length cp, .int .i64 par, .int .i64 r0, .int .i64 r1, .int .i64 r2, .int .i64 r3, .int .i64 r4, .int .i64 r5, .int .i64 r6, .int .i64 r7]] w _
  go_enter Tryz.func117, Tryz.ntmps117
  go_wp2_with fail
  refine wp_region_noPanic ?_
  go_region_law (first
    | (go_simp; go_at_call 83; refine (H1.out _ (by repeat (first | with_reducible exact Grew.refl _ | apply Grew.more | apply Grew.alloc | apply Grew.drew | apply Grew.drewN))).mono ?_; rintro e w1 ⟨v1, rfl, ho1, R3, n3, rfl⟩; obtain ⟨a1, c1, rfl⟩ := (ho1.rows encN_len).len; (have HO1 := Lib.hid ho1); clear ho1)
    | (go_simp; go_at_call 155; refine (H2.out _ (by repeat (first | with_reducible exact Grew.refl _ | apply Grew.more | apply Grew.alloc | apply Grew.drew | apply Grew.drewN))).mono ?_; rintro e w1 ⟨v2, rfl, ho2, R4, n4, rfl⟩; obtain ⟨a2, c2, rfl⟩ := (ho2.rows encI_len).len; (have HO2 := Lib.hid ho2); clear ho2))
  all_goals
    refine NoPanic.normal ?_
    go_wp2
    refine bodyPost_ret (v := .agg #[.int .i64 id, .int .i64 kind, .slice a1 n.frm.length c1, .slice a2 n.prog.length c2, .int .i64 par, .int .i64 r0, .int .i64 r1, .int .i64 r2, .int .i64 r3, .int .i64 r4, .int .i64 r5, .int .i64 r6, .int .i64 r7]) (by simp [results, Tryz.results117, go_sem]) rfl ?_
    refine node_made ⟨id, kind, a1, n.frm.length, c1, a2, n.prog.length, c2, par, r0, r1, r2, r3, r4, r5, r6, r7⟩ HN.out rfl rfl rfl rfl rfl rfl rfl rfl rfl rfl rfl
      (OwnAt.low (OwnAt.grew (OwnAt.same HO1.out fun b hb => heap_more_same (by simp [World.size_alloc]) _ _ _ (by have := HO1.out.lt b hb; simp [World.size_alloc] at this ⊢; omega)) (Grew.more (Grew.refl _) R4 n4)) (by simp [World.size_alloc]; omega))
      (OwnAt.low (OwnAt.same HO2.out fun b hb => heap_more_same (by simp [World.size_alloc, World.more_size]) _ _ _ (by have := HO2.out.lt b hb; simp [World.size_alloc, World.more_size] at this ⊢; omega)) (by simp [World.size_alloc, World.more_size]; omega)) (by repeat (first | with_reducible exact Grew.refl _ | apply Grew.more | apply Grew.alloc | apply Grew.drew | apply Grew.drewN))

def idxP {α : Type} (p : α → Bool) (l : List α) : Int := match l.findIdx? p with
  | some i => i
  | none => -1
theorem idxP_at {α : Type} {p : α → Bool} {l : List α} {k : Nat} (hk : k < l.length) (h : p l[k] = true) (hn : ∀ j (hj : j < l.length), j < k → p l[j] = false) : idxP p l = k := by
  unfold idxP
  rw [List.findIdx?_eq_some_iff_getElem.2 ⟨hk, h, fun j hj => by simpa using hn j (by omega) hj⟩]
theorem idxP_no {α : Type} {p : α → Bool} {l : List α} (hn : ∀ j (hj : j < l.length), p l[j] = false) : idxP p l = -1 := by
  unfold idxP
  rw [List.findIdx?_eq_none_iff.2 fun n hm => by
    obtain ⟨j, hj, rfl⟩ := List.mem_iff_getElem.1 hm
    exact hn j hj]
theorem idxP_any {α : Type} {p : α → Bool} {l : List α} : l.any p = decide (0 ≤ idxP p l) := by
  unfold idxP
  cases h : l.findIdx? p with
  | none =>
    rw [List.findIdx?_eq_none_iff] at h
    have : l.any p = false := List.any_eq_false.2 fun x hx => by simp [h x hx]
    rw [this]; rfl
  | some i =>
    obtain ⟨hi, h1, -⟩ := List.findIdx?_eq_some_iff_getElem.1 h
    have : l.any p = true := List.any_eq_true.2 ⟨_, List.getElem_mem hi, h1⟩
    rw [this]
    symm
    simp
def PredI (g : Nat) (lb : Array Value) (p : Int → Bool) (w : World) : Prop := ∀ W x, Grew w W → Calls Tryz.prog g (#[.int .i64 x] ++ lb) W (Gives (.bool (p x)) W)

theorem indexInts_any (v : Value) (l : List Int) (g : Nat) (lb : Array Value) (p : Int → Bool) (w : World) (hv : IntsAt w v l) (eg : ∀ args w, (callFunc g args).run Tryz.prog w = .ok (.enter g args) w) (hp : PredI g lb p w) :
    Calls Tryz.prog 135 #[v, .func (.func g) #[] lb] w (Gives (.int .i64 (idxP p l)) w) := by
  have HV := Lib.hid hv
  have HP := Lib.hid hp
  obtain ⟨a, cap, rfl, hm, -⟩ := ints_open hv
  clear hv hp
  go_enter Tryz.func135, Tryz.ntmps135
  go_wp2
  go_loopg [5, 8] l.length (fun gg _ s8 wr => ∃ k : Nat, k ≤ l.length ∧ l.length - k ≤ gg ∧ s8 = .int .i64 k ∧ Hid (Grew w wr) ∧ Hid (∀ j (hj : j < l.length), j < k → p l[j] = false))
  case atStart => exact ⟨0, Nat.zero_le _, by omega, rfl, Lib.hid (by repeat (first | with_reducible exact Grew.refl _ | apply Grew.more | apply Grew.alloc | apply Grew.drew | apply Grew.drewN)), Lib.hid fun j _ h => by omega⟩
  case round =>
    obtain ⟨k, hk, hgg, rfl, HG, HNO⟩ := hrel
    by_cases hlt : k < l.length
    · obtain ⟨a', cap', e, -, hx⟩ := ints_open (HV.out.grew HG.out)
      cases e
      obtain ⟨b, off, rfl, hb, c0⟩ := hx k hlt
      have hcall := HP.out wr l[k] HG.out
      clear hx
      generalize hy : l[k] = y at c0 hcall
      have HY := Lib.hid hy
      clear hy
      cases hq : p y with
      | true =>
        have hr := idxP_at hlt (by rw [HY.out]; exact hq) HNO.out
        have HR := Lib.hid hr
        rw [hq] at hcall
        clear hr hq
        go_wp2_with (go_at_fn g; refine hcall.mono ?_; rintro e w1 ⟨rfl, R3, n3, rfl⟩)
        go_ret
        exact ⟨by rw [HR.out]; rfl, HG.out.trans (by repeat (first | with_reducible exact Grew.refl _ | apply Grew.more | apply Grew.alloc | apply Grew.drew | apply Grew.drewN))⟩
      | false =>
        have HQ := Lib.hid hq
        rw [hq] at hcall
        clear hq
        go_wp2_with (go_at_fn g; refine hcall.mono ?_; rintro e w1 ⟨rfl, R3, n3, rfl⟩)
        go_roundg (l.length - (k + 1))
        case measure => omega
        case rel => exact ⟨k + 1, by omega, by omega, by go_num, Lib.hid (HG.out.trans (by repeat (first | with_reducible exact Grew.refl _ | apply Grew.more | apply Grew.alloc | apply Grew.drew | apply Grew.drewN))), Lib.hid fun j hj h => by
          rcases Nat.lt_or_ge j k with h1 | h1
          · exact HNO.out j hj h1
          · obtain rfl : j = k := by omega
            rw [HY.out]
            exact HQ.out⟩
    · obtain rfl : k = l.length := by omega
      have hr := idxP_no fun j hj => HNO.out j hj hj
      have HR := Lib.hid hr
      clear hr
      go_wp2
      go_ret
      exact ⟨by rw [HR.out]; rfl, HG.out⟩
theorem containsFn_any (v : Value) (l : List Int) (g : Nat) (lb : Array Value) (p : Int → Bool) (w : World) (hv : IntsAt w v l) (eg : ∀ args w, (callFunc g args).run Tryz.prog w = .ok (.enter g args) w) (hp : PredI g lb p w) :
    Calls Tryz.prog 82 #[v, .func (.func g) #[] lb] w (Gives (.bool (l.any p)) w) := by
  rw [idxP_any]
  have hI := indexInts_any v l g lb p w hv eg hp
  obtain ⟨a, cap, rfl, hm, -⟩ := ints_open hv
  clear hv hp
  generalize idxP p l = r at *
  go_enter Tryz.func82, Tryz.ntmps82
  go_wp2_with (go_at_call 135; refine hI.mono ?_; rintro e w1 ⟨rfl, R3, n3, rfl⟩)
  go_ret
  refine ⟨rfl, ?_⟩
  repeat (first | with_reducible exact Grew.refl _ | apply Grew.more | apply Grew.alloc | apply Grew.drew | apply Grew.drewN)
theorem containsI_any (v : Value) (l : List Int) (x : Int) (w : World) (hv : IntsAt w v l) : Calls Tryz.prog 33 #[v, .int .i64 x] w fun e w' => e = .returned (.bool (decide (x ∈ l))) ∧ w' = w := by
  obtain ⟨a, cap, rfl, hm, hx⟩ := ints_open hv
  cases l with
  | nil =>
    refine (Tryz.slices_Contains_int_empty a cap x w).mono fun e w' ⟨he, hw⟩ => ⟨?_, hw⟩
    rw [he]; simp
  | cons y l =>
    obtain ⟨b, off, h, _⟩ := hx 0 (by simp)
    cases h
    refine (Tryz.slices_Contains_int b off _ cap (y :: l) x w (Nat.le_refl _) (by omega) fun j hj => ?_).mono fun e w' ⟨he, hw⟩ => ⟨?_, hw⟩
    · obtain ⟨b', off', h, _, hc⟩ := hx j hj
      cases h
      rw [List.getD_eq_getElem?_getD, List.getElem?_eq_getElem hj]
      exact hc
    · rw [he, List.take_of_length_le (Nat.le_refl _)]
      simp

def PredN (g : Nat) (lb : Array Value) (p : Gr.Nd → Bool) (w : World) : Prop := ∀ W c n, Grew w W → NodeIs W c n → Calls Tryz.prog g (#[.agg #[.int .i64 c.id, .int .i64 c.kind, .slice c.af c.nf c.cf, .slice c.ap c.np c.cp, .int .i64 c.par, .int .i64 c.r0, .int .i64 c.r1, .int .i64 c.r2, .int .i64 c.r3, .int .i64 c.r4, .int .i64 c.r5, .int .i64 c.r6, .int .i64 c.r7]] ++ lb) W (Gives (.bool (p n)) W)
theorem indexNodes_any (v : Value) (l : List Gr.Nd) (g : Nat) (lb : Array Value) (p : Gr.Nd → Bool) (w : World) (hv : NodesAt w v l) (eg : ∀ args w, (callFunc g args).run Tryz.prog w = .ok (.enter g args) w) (hp : PredN g lb p w) :
    Calls Tryz.prog 112 #[v, .func (.func g) #[] lb] w (Gives (.int .i64 (idxP p l)) w) := by
  have HV := Lib.hid hv
  have HP := Lib.hid hp
  obtain ⟨a, cap, rfl, hm, -⟩ := hv.openC
  clear hv hp
  go_enter Tryz.func112, Tryz.ntmps112
  go_wp2
  go_loopg [5, 8] l.length (fun gg _ s8 wr => ∃ k : Nat, k ≤ l.length ∧ l.length - k ≤ gg ∧ s8 = .int .i64 k ∧ Hid (Grew w wr) ∧ Hid (∀ j (hj : j < l.length), j < k → p l[j] = false))
  case atStart => exact ⟨0, Nat.zero_le _, by omega, rfl, Lib.hid (by repeat (first | with_reducible exact Grew.refl _ | apply Grew.more | apply Grew.alloc | apply Grew.drew | apply Grew.drewN)), Lib.hid fun j _ h => by omega⟩
  case round =>
    obtain ⟨k, hk, hgg, rfl, HG, HNO⟩ := hrel
    by_cases hlt : k < l.length
    · obtain ⟨a', cap', e, -, hx⟩ := (HV.out.grew HG.out).openC
      cases e
      obtain ⟨b, off, c, rfl, hb, hn, c0, c1, c2, c3, c4, c5, c6, c7, c8, c9, c10, c11, c12⟩ := hx k hlt
      have hcall := HP.out wr c l[k] HG.out hn
      clear hx hn
      generalize hy : l[k] = y at hcall
      have HY := Lib.hid hy
      clear hy
      obtain ⟨id, kind, af, nf, cf, ap, np, cp, par, r0, r1, r2, r3, r4, r5, r6, r7⟩ := c
      simp only at c0 c1 c2 c3 c4 c5 c6 c7 c8 c9 c10 c11 c12 hcall
      cases hq : p y with
      | true =>
        have hr := idxP_at hlt (by rw [HY.out]; exact hq) HNO.out
        have HR := Lib.hid hr
        rw [hq] at hcall
        clear hr hq
        go_wp2_with (go_at_fn g; refine hcall.mono ?_; rintro e w1 ⟨rfl, R3, n3, rfl⟩)
        go_ret
        exact ⟨by rw [HR.out]; rfl, HG.out.trans (by repeat (first | with_reducible exact Grew.refl _ | apply Grew.more | apply Grew.alloc | apply Grew.drew | apply Grew.drewN))⟩
      | false =>
        have HQ := Lib.hid hq
        rw [hq] at hcall
        clear hq
        go_wp2_with (go_at_fn g; refine hcall.mono ?_; rintro e w1 ⟨rfl, R3, n3, rfl⟩)
        go_roundg (l.length - (k + 1))
        case measure => omega
        case rel => exact ⟨k + 1, by omega, by omega, by go_num, Lib.hid (HG.out.trans (by repeat (first | with_reducible exact Grew.refl _ | apply Grew.more | apply Grew.alloc | apply Grew.drew | apply Grew.drewN))), Lib.hid fun j hj h => by
          rcases Nat.lt_or_ge j k with h1 | h1
          · exact HNO.out j hj h1
          · obtain rfl : j = k := by omega
            rw [HY.out]
            exact HQ.out⟩
    · obtain rfl : k = l.length := by omega
      have hr := idxP_no fun j hj => HNO.out j hj hj
      have HR := Lib.hid hr
      clear hr
      go_wp2
      go_ret
      exact ⟨by rw [HR.out]; rfl, HG.out⟩

theorem keeps_iff (s : List Int) (j : Nat) (hj : j < s.length) (h0 : 0 < j) : Lib.keeps s.toArray j = true ↔ s[j] ≠ s[j - 1]'(by omega) := by
  unfold Lib.keeps
  rw [decide_eq_true_eq]
  have e1 : s.toArray[j]! = s[j] := by rw [getElem!_pos s.toArray j (by simpa using hj)]; simp
  have e2 : s.toArray[j - 1]! = s[j - 1]'(by omega) := by rw [getElem!_pos s.toArray (j - 1) (by simp; omega)]; simp
  rw [e1, e2]
  exact ⟨fun h => h.resolve_left (by omega), .inr⟩
theorem compact_len (s : List Int) (hs : s.Pairwise (· ≤ ·)) : (Lib.compact s).length = s.length ↔ s.Nodup := by
  unfold Lib.compact Lib.compactUpTo
  rw [List.length_map]
  have hf : ((List.range s.length).filter (Lib.keeps s.toArray)).length = s.length ↔ ∀ j ∈ List.range s.length, Lib.keeps s.toArray j = true := by
    have := List.length_filter_eq_length_iff (p := Lib.keeps s.toArray) (l := List.range s.length)
    rw [List.length_range] at this
    exact this
  rw [hf]
  rw [List.pairwise_iff_getElem] at hs
  constructor
  · intro h
    rw [List.Nodup, List.pairwise_iff_getElem]
    intro i j hi hj hij he
    have h1 := (keeps_iff s j hj (by omega)).1 (h j (List.mem_range.2 hj))
    rcases Nat.lt_or_ge i (j - 1) with h2 | h2
    · have h3 := hs i (j - 1) hi (by omega) h2
      have h4 := hs (j - 1) j (by omega) hj (by omega)
      exact h1 (by omega)
    · obtain rfl : i = j - 1 := by omega
      exact h1 he.symm
  · intro h j hj
    have hj := List.mem_range.1 hj
    rcases Nat.eq_zero_or_pos j with rfl | h0
    · exact Lib.keeps_lt_one _ 0 (by omega)
    · refine (keeps_iff s j hj h0).2 fun e => ?_
      exact (List.pairwise_iff_getElem.1 h) (j - 1) j (by omega) hj (by omega) e.symm
def sortI (l : List Int) : List Int := l.mergeSort fun x y => decide (x ≤ y)
theorem sortI_len (l : List Int) : (sortI l).length = l.length := List.length_mergeSort l
theorem sortI_perm (l : List Int) : (sortI l).Perm l := List.mergeSort_perm l _
theorem sortI_sorted (l : List Int) : (sortI l).Pairwise (· ≤ ·) := by
  have := List.pairwise_mergeSort (le := fun x y : Int => decide (x ≤ y)) (fun a b c h1 h2 => by simp at *; omega) (fun a b => by simp; omega) l
  exact this.imp fun h => by simpa using h
theorem unlike_iff (l : List Int) : decide ((Lib.compact (sortI l)).length = l.length) = decide l.Nodup := by
  have h := compact_len (sortI l) (sortI_sorted l)
  rw [sortI_len, (sortI_perm l).nodup_iff] at h
  exact decide_eq_decide.2 h

theorem grewRow {α : Type} [Inhabited α] {enc : α → Value} {w0 W : World} (g : Grew w0 W) {b off : Nat} {d : Array α} (hb : w0.heap.size ≤ b) : Grew w0 (Sort.putRow enc W b off d) :=
  Grew.ofBelow (g.below.trans ⟨rfl, rfl, rfl, by rw [Sort.size_putRow]; exact Nat.le_refl _, fun k hk => by
    unfold Sort.putRow Sort.mapBlock
    simp only [Array.getElem?_modify]
    rw [if_neg (by omega)]⟩)
theorem grewAhead {w0 W : World} (g : Grew w0 W) (n : Nat) : Grew w0 (Sort.ahead W n) := g.drewN n
theorem grewOs {w0 W : World} (g : Grew w0 W) (os : Array Obj) : Grew w0 (Sort.grow W os) := g.more os W.drawn
theorem own_holds {base : Nat} {W : World} {b cap n : Nat} {l : List Int} (h : OwnAt base 3 1 encN W (.slice (some ⟨b, 0, none⟩) n cap) l) : Sort.Holds (Value.int .i64) W b 0 l.toArray ∧ l.length ≤ cap ∧ base ≤ b ∧ b < W.heap.size := by
  obtain ⟨h1, h2⟩ := h
  rcases h2 with ⟨h, _⟩ | ⟨g, cap', cur, hv, hb, hh, hc, hm, hs, ht⟩
  · cases h
  · cases hv
    have hb' := (Array.getElem?_eq_some_iff.1 hh).1
    refine ⟨fun j hj => ?_, by omega, hb, hb'⟩
    have hj' : j < l.length := by simpa using hj
    have e1 : l.toArray[j]! = l[j] := by rw [getElem!_pos l.toArray j hj]; simp
    rw [Nat.zero_add, cell_of_heap hh, frozen_of_heap hh, e1]
    refine ⟨?_, rfl⟩
    have h3 : (l.flatMap encN)[j]? = some (.int .i64 l[j]) := by
      have := flat_get encN_len l j l[j] (List.getElem?_eq_getElem hj') 0 (.int .i64 l[j]) rfl
      simpa using this
    rw [← ht] at h3
    rw [List.getElem?_take] at h3
    split at h3
    · simpa using h3
    · cases h3

theorem unlike_any (v : Value) (l : List Int) (w : World) (hv : IntsAt w v l) (hl : l.length ≤ 1000) : Calls Tryz.prog 32 #[v] w (Gives (.bool (decide l.Nodup)) w) := by
  have hC := cloneInts_any v l w hv hl
  have hlen : decide ((Lib.compact (sortI l)).length = l.length) = decide l.Nodup := unlike_iff l
  have HL := Lib.hid hlen
  have hcl : (Lib.compact (sortI l)).length ≤ 1000 := Nat.le_trans (Lib.compact_length_le _) (by rw [sortI_len]; exact hl)
  obtain ⟨a, cap, rfl, -⟩ := hv
  clear hlen
  by_cases h0 : l = []
  · subst h0
    have hd : (decide ([] : List Int).Nodup) = true := by decide
    rw [hd]
    have HC := Lib.hid hC
    clear hC hd hcl HL
    go_enter Tryz.func32, Tryz.ntmps32
    go_wp2_with (first
      | (go_at_call 83; refine HC.out.mono ?_; rintro e w1 ⟨v1, rfl, ho1, R3, n3, rfl⟩; obtain ⟨a1, c1, rfl⟩ := (ho1.rows encN_len).len; clear ho1; simp only [List.length_nil])
      | (go_at_call 84; refine (Tryz.slices_Sort_int_none _ _ _).mono ?_; rintro e w1 ⟨rfl, hw1⟩; obtain rfl := hw1)
      | (go_at_call 85; refine (Tryz.slices_Compact_int_empty _ _ _).mono ?_; rintro e w1 ⟨rfl, hw1⟩; obtain rfl := hw1))
    go_ret
    refine ⟨rfl, ?_⟩
    repeat (first | with_reducible exact Grew.refl _ | apply Grew.more | apply Grew.alloc | apply Grew.drew | apply Grew.drewN)
  · have hpos : 0 < l.length := List.length_pos_iff.2 h0
    have HC := Lib.hid hC
    have HP := Lib.hid h0
    clear hC h0
    go_enter Tryz.func32, Tryz.ntmps32
    go_wp2_with (first
      | (go_at_call 83; refine HC.out.mono ?_; rintro e w1 ⟨v1, rfl, ho1, hg1⟩; obtain ⟨b1, c1, rfl⟩ := own_some' ho1 hpos; obtain ⟨hh1, hc1, hb1, hb2⟩ := own_holds ho1; (have HH1 := Lib.hid hh1); (have HG1 := Lib.hid hg1); clear ho1 hh1 hg1)
      | (go_at_call 84; go_loud (refine (Tryz.slices_Sort_int b1 0 c1 l _ HH1.out hb2 (by omega)).mono ?_; rintro e w2 ⟨rfl, n2, os2, hw2⟩; (have hh2 : Sort.Holds (Value.int .i64) w2 b1 0 (sortI l).toArray := by rw [hw2]; exact Sort.holds_grow _ _ _ _ _ _ (by rw [Sort.size_putRow]; exact hb2) (Sort.holds_putRow _ _ _ _ _ _ (Sort.holds_ahead _ _ _ _ _ _ HH1.out) (by simp [sortI]))); (have hg2 : Grew w w2 := by rw [hw2]; exact grewOs (grewRow (grewAhead HG1.out _) hb1) _); (have HH2 := Lib.hid hh2); (have HG2 := Lib.hid hg2); (have hsl := sortI_len l); clear hh2 hg2 hw2))
      | (go_at_call 85; (have hc3 := Tryz.slices_Compact_int b1 0 c1 (sortI l) w2 HH2.out (by omega) (by omega)); rw [hsl] at hc3; refine hc3.mono ?_; rintro e w3 ⟨rfl, n3, hw3⟩; (have hg3 : Grew w w3 := by rw [hw3]; exact grewRow (grewAhead HG2.out _) hb1); (have HG3 := Lib.hid hg3); clear hg3 hw3 hc3 hsl))
    go_ret
    refine ⟨?_, HG3.out⟩
    show Ending.returned (.bool (((Lib.compact (sortI l)).length : Int) == (l.length : Int))) = _
    rw [← HL.out]
    refine congrArg (fun b => Ending.returned (Value.bool b)) ?_
    rw [Bool.eq_iff_iff, beq_iff_eq, decide_eq_true_eq]
    omega

theorem findI_none {l : List Gr.Nd} {id : Int} (h : Gr.find l id = none) : findI l id = -1 := by unfold findI; rw [h]
theorem findI_some {l : List Gr.Nd} {id : Int} {i : Nat} (h : Gr.find l id = some i) : findI l id = i ∧ i < l.length := by
  obtain ⟨m, hm, -⟩ := Gr.find_some h
  exact ⟨by unfold findI; rw [h], (List.getElem?_eq_some_iff.1 hm).1⟩


theorem enters132 : ∀ args w, (callFunc 132 args).run Tryz.prog w = .ok (.enter 132 args) w := enters_of Tryz.func132 (by kernel_rfl) rfl
theorem find1_pred (id : Int) (B : Nat) (w : World) (hB : Pre B w) (hc : w.cell? ⟨B, 0, none⟩ = some (.int .i64 id)) : PredN 132 #[.pointer (some ⟨B, 0, none⟩)] (fun n => n.id == id) w := by
  intro W c n g hn
  obtain ⟨R, N, rfl⟩ := g
  have hid := hn.id
  have HI := Lib.hid hid
  clear hn hid
  obtain ⟨cid, kind, af, nf, cf, ap, np, cp, par, r0, r1, r2, r3, r4, r5, r6, r7⟩ := c
  have hb : (n.id == id) = (cid == id) := by rw [HI.out]
  show Calls Tryz.prog 132 #[.agg #[.int .i64 cid, .int .i64 kind, .slice af nf cf, .slice ap np cp, .int .i64 par, .int .i64 r0, .int .i64 r1, .int .i64 r2, .int .i64 r3, .int .i64 r4, .int .i64 r5, .int .i64 r6, .int .i64 r7], .pointer (some ⟨B, 0, none⟩)] _ (Gives (.bool (n.id == id)) _)
  rw [hb]
  clear HI hb
  go_enter Tryz.func132, Tryz.ntmps132
  go_wp2
  go_ret
  refine ⟨rfl, ?_⟩
  repeat (first | with_reducible exact Grew.refl _ | apply Grew.more | apply Grew.alloc | apply Grew.drew | apply Grew.drewN)
theorem find_idxP (l : List Gr.Nd) (id : Int) : idxP (fun n : Gr.Nd => n.id == id) l = findI l id := rfl

def GivesFind (r : Option Gr.Nd) (w : World) (e : Ending) (w' : World) : Prop := match r with
  | some n => ∃ c : NdC, e = .returned (.tuple #[.agg #[.int .i64 c.id, .int .i64 c.kind, .slice c.af c.nf c.cf, .slice c.ap c.np c.cp, .int .i64 c.par, .int .i64 c.r0, .int .i64 c.r1, .int .i64 c.r2, .int .i64 c.r3, .int .i64 c.r4, .int .i64 c.r5, .int .i64 c.r6, .int .i64 c.r7], .bool true]) ∧ NodeIs w' c n ∧ OwnsNd w.heap.size w' c n ∧ Grew w w'
  | none => e = .returned (.tuple #[.agg #[.int .i64 0, .int .i64 0, .slice none 0 0, .slice none 0 0, .int .i64 0, .int .i64 0, .int .i64 0, .int .i64 0, .int .i64 0, .int .i64 0, .int .i64 0, .int .i64 0, .int .i64 0], .bool false]) ∧ Grew w w'
theorem find_made {w w' w1 : World} (c : NdC) {n : Gr.Nd} (h : NodeIs w1 c n) (o : OwnsNd w.heap.size w' c n) (g : Grew w w') : GivesFind (some n) w (.returned (.tuple #[.agg #[.int .i64 c.id, .int .i64 c.kind, .slice c.af c.nf c.cf, .slice c.ap c.np c.cp, .int .i64 c.par, .int .i64 c.r0, .int .i64 c.r1, .int .i64 c.r2, .int .i64 c.r3, .int .i64 c.r4, .int .i64 c.r5, .int .i64 c.r6, .int .i64 c.r7], .bool true])) w' :=
  ⟨c, rfl, o.is h, o, g⟩
def Small (l : List Gr.Nd) : Prop := ∀ n ∈ l, n.frm.length ≤ 1000 ∧ n.prog.length ≤ 1000
theorem find_any (v : Value) (l : List Gr.Nd) (id : Int) (w : World) (hv : NodesAt w v l) (hs : Small l) : Calls Tryz.prog 79 #[v, .int .i64 id] w (GivesFind (Gr.nodeOf l id) w) := by
  have HV := Lib.hid hv
  have HS := Lib.hid hs
  have hI := fun W (g : Grew w W) (B : Nat) (hB : Pre B W) (hc : W.cell? ⟨B, 0, none⟩ = some (.int .i64 id)) => indexNodes_any v l 132 #[.pointer (some ⟨B, 0, none⟩)] (fun n => n.id == id) W (HV.out.grew g) enters132 (find1_pred id B W hB hc)
  have HI := Lib.hid hI
  obtain ⟨a, cap, rfl, hm, -⟩ := hv.openC
  clear hv hs hI
  cases hf : Gr.find l id with
  | none =>
    have hi := findI_none hf
    have hr : Gr.nodeOf l id = none := by unfold Gr.nodeOf; rw [hf]; rfl
    rw [hr]
    have HF := Lib.hid hi
    clear hi hf hr
    go_enter Tryz.func79, Tryz.ntmps79
    go_wp2_with (go_at_call 112; (refine (HI.out _ (by repeat (first | with_reducible exact Grew.refl _ | apply Grew.more | apply Grew.alloc | apply Grew.drew | apply Grew.drewN)) w.heap.size (by simp [go_sem]) (by simp [go_sem])).mono ?_; rintro e w1 ⟨rfl, R3, n3, rfl⟩; rw [find_idxP, HF.out]))
    exact bodyPost_ret (v := .tuple #[.agg #[.int .i64 0, .int .i64 0, .slice none 0 0, .slice none 0 0, .int .i64 0, .int .i64 0, .int .i64 0, .int .i64 0, .int .i64 0, .int .i64 0, .int .i64 0, .int .i64 0, .int .i64 0], .bool false]) (by simp [results, Tryz.results79, go_sem]) rfl ⟨rfl, by repeat (first | with_reducible exact Grew.refl _ | apply Grew.more | apply Grew.alloc | apply Grew.drew | apply Grew.drewN)⟩
  | some i =>
    obtain ⟨hi, hil⟩ := findI_some hf
    have hr : Gr.nodeOf l id = some l[i] := by unfold Gr.nodeOf; rw [hf, Option.bind_some, List.getElem?_eq_getElem hil]
    rw [hr]
    have HF := Lib.hid hi
    have hi0 : decide ((i : Int) < 0) = false := decide_eq_false (by omega)
    obtain ⟨a', cap', e, -, hx⟩ := HV.out.openC
    cases e
    obtain ⟨b, off, c, rfl, hb, hn, c0, c1, c2, c3, c4, c5, c6, c7, c8, c9, c10, c11, c12⟩ := hx i hil
    obtain ⟨hs1, hs2⟩ := HS.out _ (List.getElem_mem hil)
    have HN := Lib.hid hn
    clear hi hf hr hx hn
    generalize l[i] = n at *
    have HO := Lib.hid fun W (g : Grew w W) => own_any c n W (HN.out.grew g) hs1 hs2
    obtain ⟨cid, kind, af, cf, ap, cp, par, r0, r1, r2, r3, r4, r5, r6, r7, rfl⟩ := HN.out.lit
    simp only at c0 c1 c2 c3 c4 c5 c6 c7 c8 c9 c10 c11 c12
    go_enter Tryz.func79, Tryz.ntmps79
    go_wp2_with (first
      | (go_at_call 112; refine (HI.out _ (by repeat (first | with_reducible exact Grew.refl _ | apply Grew.more | apply Grew.alloc | apply Grew.drew | apply Grew.drewN)) w.heap.size (by simp [go_sem]) (by simp [go_sem])).mono ?_; rintro e w1 ⟨rfl, R3, n3, rfl⟩; rw [find_idxP, HF.out])
      | (go_at_call 117; refine (HO.out _ (by repeat (first | with_reducible exact Grew.refl _ | apply Grew.more | apply Grew.alloc | apply Grew.drew | apply Grew.drewN))).mono ?_; rintro e w1 ⟨c9, rfl, hn9, ho9, R4, n4, rfl⟩; obtain ⟨cid9, kind9, af9, cf9, ap9, cp9, par9, s0, s1, s2, s3, s4, s5, s6, s7, rfl⟩ := hn9.lit; (have HN9 := Lib.hid hn9); (have HO9 := Lib.hid ho9); clear hn9 ho9))
    refine bodyPost_ret (v := .tuple #[.agg #[.int .i64 cid9, .int .i64 kind9, .slice af9 n.frm.length cf9, .slice ap9 n.prog.length cp9, .int .i64 par9, .int .i64 s0, .int .i64 s1, .int .i64 s2, .int .i64 s3, .int .i64 s4, .int .i64 s5, .int .i64 s6, .int .i64 s7], .bool true]) (by simp [results, Tryz.results79, go_sem]) rfl ?_
    exact find_made ⟨cid9, kind9, af9, n.frm.length, cf9, ap9, n.prog.length, cp9, par9, s0, s1, s2, s3, s4, s5, s6, s7⟩ HN9.out (OwnsNd.low (OwnsNd.to HO9.out fun b h1 h2 => heap_more_same (by simp [World.size_alloc, World.more_size]) R4 n4 b h1) (by simp [World.size_alloc, World.more_size]; omega)) (by repeat (first | with_reducible exact Grew.refl _ | apply Grew.more | apply Grew.alloc | apply Grew.drew | apply Grew.drewN))

def zeroNd (id : Int) : NdC := ⟨id, 0, none, 0, 0, none, 0, 0, 0, 0, 0, 0, 0, 0, 0, 0, 0⟩
def cleanC (c : StC) : StC :=
  if c.kind = 1 then ⟨1, { zeroNd c.c.id with ap := c.c.ap, np := c.c.np, cp := c.c.cp }, c.reset⟩
  else if c.kind = 2 then ⟨2, c.c, false⟩
  else if c.kind = 3 then ⟨3, zeroNd c.c.id, false⟩
  else if c.kind = 4 then ⟨4, ⟨c.c.id, 0, none, 0, 0, none, 0, 0, c.c.par, c.c.r0, c.c.r1, c.c.r2, c.c.r3, c.c.r4, c.c.r5, c.c.r6, c.c.r7⟩, false⟩
  else if c.kind = 5 then ⟨5, { zeroNd c.c.id with af := c.c.af, nf := c.c.nf, cf := c.c.cf }, false⟩
  else ⟨0, zeroNd 0, false⟩
theorem StepIs.clean {w : World} {c : StC} {s : Gr.Stp} (h : StepIs w c s) : StepIs w (cleanC c) (Gr.cleanS s) := by
  obtain ⟨hk, hn, hr⟩ := h
  unfold cleanC Gr.cleanS
  rw [hk]
  by_cases h1 : c.kind = 1
  · rw [if_pos h1, if_pos h1]
    exact ⟨rfl, ⟨hn.id, rfl, RowsAt.nil, hn.p, rfl, rfl, Nat.zero_le _⟩, hr⟩
  rw [if_neg h1, if_neg h1]
  by_cases h2 : c.kind = 2
  · rw [if_pos h2, if_pos h2]
    exact ⟨rfl, hn, rfl⟩
  rw [if_neg h2, if_neg h2]
  by_cases h3 : c.kind = 3
  · rw [if_pos h3, if_pos h3]
    exact ⟨rfl, ⟨hn.id, rfl, RowsAt.nil, RowsAt.nil, rfl, rfl, Nat.zero_le _⟩, rfl⟩
  rw [if_neg h3, if_neg h3]
  by_cases h4 : c.kind = 4
  · rw [if_pos h4, if_pos h4]
    exact ⟨rfl, ⟨hn.id, rfl, RowsAt.nil, RowsAt.nil, hn.par, hn.route, Nat.zero_le _⟩, rfl⟩
  rw [if_neg h4, if_neg h4]
  by_cases h5 : c.kind = 5
  · rw [if_pos h5, if_pos h5]
    exact ⟨rfl, ⟨hn.id, rfl, hn.f, RowsAt.nil, rfl, rfl, hn.fc⟩, rfl⟩
  rw [if_neg h5, if_neg h5]
  exact ⟨rfl, ⟨rfl, rfl, RowsAt.nil, RowsAt.nil, rfl, rfl, Nat.zero_le _⟩, rfl⟩

def greatN (n : Gr.Nd) : Bool := decide (60 < n.prog.length) || decide (20 < n.frm.length)
def greatG (l : List Gr.Nd) : Bool := decide (20 < l.length) || l.any greatN

theorem great08_any (v : Value) (l : List Gr.Nd) (w : World) (hv : NodesAt w v l) : Calls Tryz.prog 30 #[v] w (Gives (.bool (greatG l)) w) := by
  obtain ⟨a, cap, rfl, hm, -⟩ := hv.open13
  have HV := Lib.hid hv
  clear hv
  by_cases h20 : 20 < l.length
  · have hg : greatG l = true := by unfold greatG; rw [decide_eq_true h20]; rfl
    have HG := Lib.hid hg
    clear hg
    have h20' : (20 : Int) < (l.length : Int) := by omega
    go_enter Tryz.func30, Tryz.ntmps30
    go_wp2
    go_ret
    refine ⟨by rw [HG.out]; rfl, ?_⟩
    repeat (first | with_reducible exact Grew.refl _ | apply Grew.more | apply Grew.alloc | apply Grew.drew | apply Grew.drewN)
  · have hg0 : greatG l = l.any greatN := by unfold greatG; rw [decide_eq_false h20]; rfl
    have HG0 := Lib.hid hg0
    clear hg0
    go_enter Tryz.func30, Tryz.ntmps30
    go_wp2
    go_loopw [10] (fun i wr => ∃ k : Nat, k ≤ l.length ∧ i = .int .i64 k ∧ Grew w wr ∧ ∀ j (hj : j < l.length), j < k → greatN l[j] = false) (fun i _ => l.length - (intOf i).toNat)
    case atStart => exact ⟨0, Nat.zero_le _, rfl, by repeat (first | with_reducible exact Grew.refl _ | apply Grew.more | apply Grew.alloc | apply Grew.drew | apply Grew.drewN), fun j _ h => by omega⟩
    case round =>
      obtain ⟨k, hk, rfl, hgw, hno⟩ := hrel
      have HNO := Lib.hid hno
      have HGW := Lib.hid hgw
      by_cases hlt : k < l.length
      · obtain ⟨a', cap', e', -, hx⟩ := (HV.out.grew hgw).open13
        cases e'
        obtain ⟨b, off, vf, vp, rfl, hb, hvf, hvp, c0, c1, c2, c3, c4, c5, c6, c7, c8, c9, c10, c11, c12⟩ := hx k hlt
        obtain ⟨af, capf, rfl, hmf, -⟩ := ints_open hvf
        obtain ⟨ap, capp, rfl, hmp, -⟩ := hvp.open2
        clear hx hvf hvp hgw hno
        cases hq : greatN l[k]
        · have HQ := Lib.hid hq
          unfold greatN at hq
          simp only [Bool.or_eq_false_iff, decide_eq_false_iff_not] at hq
          obtain ⟨q1, q2⟩ := hq
          generalize hgx : l[k] = x at *
          have HGX := Lib.hid hgx
          clear hgx
          go_wp2
          go_roundw
          case rel => exact ⟨k + 1, by omega, by go_num, HGW.out.trans (by repeat (first | with_reducible exact Grew.refl _ | apply Grew.more | apply Grew.alloc | apply Grew.drew | apply Grew.drewN)), fun j hj h => by
            rcases Nat.lt_or_ge j k with h1 | h1
            · exact HNO.out j hj h1
            · obtain rfl : j = k := by omega
              rw [HGX.out]
              exact HQ.out⟩
          case measure => first | (simp [intOf]; done) | (simp [intOf]; omega)
        · have hg : greatG l = true := by
            rw [HG0.out, List.any_eq_true]
            exact ⟨l[k], List.getElem_mem hlt, hq⟩
          have HG := Lib.hid hg
          unfold greatN at hq
          simp only [Bool.or_eq_true, decide_eq_true_eq] at hq
          generalize l[k] = x at *
          clear hg
          by_cases q1 : 60 < x.prog.length
          · clear hq
            go_wp2
            go_ret
            refine ⟨by rw [HG.out]; rfl, HGW.out.trans ?_⟩
            repeat (first | with_reducible exact Grew.refl _ | apply Grew.more | apply Grew.alloc | apply Grew.drew | apply Grew.drewN)
          · have q2 : 20 < x.frm.length := by omega
            clear hq
            go_wp2
            go_ret
            refine ⟨by rw [HG.out]; rfl, HGW.out.trans ?_⟩
            repeat (first | with_reducible exact Grew.refl _ | apply Grew.more | apply Grew.alloc | apply Grew.drew | apply Grew.drewN)
      · obtain rfl : k = l.length := by omega
        have hg : greatG l = false := by
          rw [HG0.out, List.any_eq_false]
          intro x hx
          obtain ⟨t, ht, rfl⟩ := List.mem_iff_getElem.1 hx
          rw [HNO.out t ht ht]
          simp
        have HG := Lib.hid hg
        clear hg hgw hno
        go_wp2
        go_ret
        refine ⟨by rw [HG.out]; rfl, HGW.out.trans ?_⟩
        repeat (first | with_reducible exact Grew.refl _ | apply Grew.more | apply Grew.alloc | apply Grew.drew | apply Grew.drewN)
end Go.Proofs.YtpbohimddmploaaGreat
namespace Go.Proofs.YtpbohimddmploaaGreat
open Go.RowKit Ga Go.ChangeShapes Go.WideShapes

theorem cells_int1 : Tryz.prog.cellsOf 3 = 1 := by kernel_rfl
theorem cells_ints1 : Tryz.prog.cellsOf 47 = 1 := by kernel_rfl
theorem cells_ins : Tryz.prog.cellsOf 190 = 2 := by kernel_rfl
theorem cells_inss1 : Tryz.prog.cellsOf 53 = 1 := by kernel_rfl
theorem cells_arr8 : Tryz.prog.cellsOf 54 = 8 := by kernel_rfl
theorem cells_node : Tryz.prog.cellsOf 56 = 13 := by kernel_rfl
theorem opens_int1 : Opens Tryz.prog 3 (fun _ cs (n : Int) => cs = [Value.int .i64 n] ∧ True) := (Opens.i64 Tryz.underlying3).mono fun _ _ n h => ⟨n, h.1, trivial⟩
theorem opens_insN : Opens Tryz.prog 190 (fun _ cs (a : Ga.Val) => cs = [Value.int .i64 a.1, Value.int .i64 a.2] ∧ True) := by
  intro H enc w fuel cs x hx
  obtain ⟨hl, hf⟩ := Opens.fields Tryz.underlying190 hx
  rw [cells_ins] at hl
  match cs, hl with
  | [c0, c1], _ =>
    obtain ⟨n0, y0, h0⟩ := hf 0 _ rfl
    obtain ⟨n1, y1, h1⟩ := hf 1 _ rfl
    have h0' : DataW.trod enc Tryz.prog w 0 (fun _ => true) true n0 3 (([c0, c1].drop 0).take (Tryz.prog.cellsOf 3)) = some y0 := h0
    have h1' : DataW.trod enc Tryz.prog w 0 (fun _ => true) true n1 3 (([c0, c1].drop 1).take (Tryz.prog.cellsOf 3)) = some y1 := h1
    rw [cells_int1] at h0' h1'
    obtain ⟨i0, e0, -⟩ := opens_int1 H enc w n0 _ _ h0'
    obtain ⟨i1, e1, -⟩ := opens_int1 H enc w n1 _ _ h1'
    simp at e0 e1
    subst e0 e1
    exact ⟨(i0, i1), rfl, trivial⟩
theorem SlAt.rowsC {α : Type} {k : Nat} {enc : α → List Value} {w : World} {v : Value} {l : List α} (h : SlAt k (fun _ cs (a : α) => cs = enc a ∧ True) w v l) : RowsAt k enc w v l ∧ ∃ a cap, v = .slice a l.length cap ∧ l.length ≤ cap := by
  refine ⟨h.rows.1, ?_⟩
  obtain ⟨a, cap, rfl, hl, -⟩ := h
  exact ⟨a, cap, rfl, hl⟩
theorem opens_node : Opens Tryz.prog 56 (fun w cs (x : NdC × Gr.Nd) => cs = encNd x.1 ∧ NodeIs w x.1 x.2) := by
  intro H enc w fuel cs x hx
  obtain ⟨hl, hf⟩ := Opens.fields Tryz.underlying56 hx
  rw [cells_node] at hl
  match cs, hl with
  | [c0, c1, c2, c3, c4, c5, c6, c7, c8, c9, c10, c11, c12], _ =>
    obtain ⟨n0, y0, h0⟩ := hf 0 _ rfl
    obtain ⟨n1, y1, h1⟩ := hf 1 _ rfl
    obtain ⟨n2, y2, h2⟩ := hf 2 _ rfl
    obtain ⟨n3, y3, h3⟩ := hf 3 _ rfl
    obtain ⟨n4, y4, h4⟩ := hf 4 _ rfl
    obtain ⟨n5, y5, h5⟩ := hf 5 _ rfl
    have h0' : DataW.trod enc Tryz.prog w 0 (fun _ => true) true n0 3 (([c0, c1, c2, c3, c4, c5, c6, c7, c8, c9, c10, c11, c12].drop 0).take (Tryz.prog.cellsOf 3)) = some y0 := h0
    have h1' : DataW.trod enc Tryz.prog w 0 (fun _ => true) true n1 3 (([c0, c1, c2, c3, c4, c5, c6, c7, c8, c9, c10, c11, c12].drop 1).take (Tryz.prog.cellsOf 3)) = some y1 := h1
    have h2' : DataW.trod enc Tryz.prog w 0 (fun _ => true) true n2 47 (([c0, c1, c2, c3, c4, c5, c6, c7, c8, c9, c10, c11, c12].drop 2).take (Tryz.prog.cellsOf 47)) = some y2 := h2
    have h3' : DataW.trod enc Tryz.prog w 0 (fun _ => true) true n3 53 (([c0, c1, c2, c3, c4, c5, c6, c7, c8, c9, c10, c11, c12].drop 3).take (Tryz.prog.cellsOf 53)) = some y3 := h3
    have h4' : DataW.trod enc Tryz.prog w 0 (fun _ => true) true n4 3 (([c0, c1, c2, c3, c4, c5, c6, c7, c8, c9, c10, c11, c12].drop 4).take (Tryz.prog.cellsOf 3)) = some y4 := h4
    have h5' : DataW.trod enc Tryz.prog w 0 (fun _ => true) true n5 54 (([c0, c1, c2, c3, c4, c5, c6, c7, c8, c9, c10, c11, c12].drop 5).take (Tryz.prog.cellsOf 54)) = some y5 := h5
    rw [cells_int1] at h0' h1' h4'
    rw [cells_ints1] at h2'
    rw [cells_inss1] at h3'
    rw [cells_arr8] at h5'
    obtain ⟨i0, e0, -⟩ := opens_int1 H enc w n0 _ _ h0'
    obtain ⟨i1, e1, -⟩ := opens_int1 H enc w n1 _ _ h1'
    obtain ⟨i4, e4, -⟩ := opens_int1 H enc w n4 _ _ h4'
    obtain ⟨l2, v2, e2, s2⟩ := Opens.slice Tryz.underlying47 cells_int1 (by decide) opens_int1 H enc w n2 _ _ h2'
    obtain ⟨l3, v3, e3, s3⟩ := Opens.slice Tryz.underlying53 cells_ins (by decide) opens_insN H enc w n3 _ _ h3'
    obtain ⟨hl5, hf5⟩ := Opens.elems Tryz.underlying54 h5'
    obtain ⟨r2, a2, k2, rfl, hk2⟩ := SlAt.rowsC (enc := fun (x : Int) => [Value.int .i64 x]) s2
    obtain ⟨r3, a3, k3, rfl, hk3⟩ := SlAt.rowsC (enc := fun (a : Ga.Val) => [Value.int .i64 a.1, Value.int .i64 a.2]) s3
    have hr : ∀ i, i < 8 → ∃ r : Int, (([c5, c6, c7, c8, c9, c10, c11, c12].drop i).take 1) = [Value.int .i64 r] := fun i hi => by
      obtain ⟨m, y, h⟩ := hf5 i hi
      rw [cells_int1, Nat.mul_one] at h
      obtain ⟨r, e, -⟩ := opens_int1 H enc w m _ _ h
      exact ⟨r, e⟩
    obtain ⟨q0, g0⟩ := hr 0 (by decide)
    obtain ⟨q1, g1⟩ := hr 1 (by decide)
    obtain ⟨q2, g2⟩ := hr 2 (by decide)
    obtain ⟨q3, g3⟩ := hr 3 (by decide)
    obtain ⟨q4, g4⟩ := hr 4 (by decide)
    obtain ⟨q5, g5⟩ := hr 5 (by decide)
    obtain ⟨q6, g6⟩ := hr 6 (by decide)
    obtain ⟨q7, g7⟩ := hr 7 (by decide)
    simp at e0 e1 e2 e3 e4 g0 g1 g2 g3 g4 g5 g6 g7
    subst e0 e1 e2 e3 e4 g0 g1 g2 g3 g4 g5 g6 g7
    exact ⟨(⟨i0, i1, a2, l2.length, k2, a3, l3.length, k3, i4, q0, q1, q2, q3, q4, q5, q6, q7⟩, ⟨i0, i1, l2, l3, i4, [q0, q1, q2, q3, q4, q5, q6, q7]⟩), rfl, rfl, rfl, r2, r3, rfl, rfl, hk2⟩
theorem nodes_of {w : World} {v : Value} {l : List (NdC × Gr.Nd)} (h : SlAt 13 (fun w cs (x : NdC × Gr.Nd) => cs = encNd x.1 ∧ NodeIs w x.1 x.2) w v l) : NodesAt w v (l.map (·.2)) := by
  obtain ⟨a, cap, rfl, hl, hm, hnil, hx⟩ := h
  refine ⟨l.map (·.1), ⟨a, cap, by simp, Nat.le_trans (by simpa using hl) hm, fun hne => ?_⟩, by simp, ?_⟩
  · obtain ⟨b, off, rfl, hc⟩ := hx (by intro e; subst e; exact hne rfl)
    refine ⟨b, off, rfl, fun i c hi j u hu => ?_⟩
    rw [List.getElem?_map] at hi
    obtain ⟨y, hy, rfl⟩ := Option.map_eq_some_iff.1 hi
    obtain ⟨cs, -, ⟨rfl, -⟩, h2⟩ := hc i y hy
    exact h2 j u hu
  · intro i c n hc hn
    rw [List.getElem?_map] at hc hn
    obtain ⟨y, hy, rfl⟩ := Option.map_eq_some_iff.1 hc
    obtain ⟨z, hz, rfl⟩ := Option.map_eq_some_iff.1 hn
    obtain rfl := Option.some.inj (hy.symm.trans hz)
    obtain ⟨b, off, rfl, hx2⟩ := hx (by intro e; subst e; simp at hy)
    obtain ⟨cs, -, ⟨-, h1⟩, -⟩ := hx2 i y hy
    exact h1
theorem arg_nodes {H : Type} {enc : TypeId × Value → H} {w : World} {v : Value} {d : DataW H} {ps : List MemPlace} {r : Reach} {b : Nat} (ho : Value.okWide Tryz.prog w r b 22 v) (h : DataW.Trod enc Tryz.prog w 0 (fun _ => true) true 22 v d ps) : ∃ l, NodesAt w v l := by
  obtain ⟨l, u, h1, h2⟩ := (Opens.slice Tryz.underlying22 cells_node (by decide) opens_node).arg h
  obtain rfl := cells_slice Tryz.underlying22 ho h1
  exact ⟨_, nodes_of h2⟩

theorem cells_step : Tryz.prog.cellsOf 73 = 15 := by kernel_rfl
theorem cells_bool1 : Tryz.prog.cellsOf 4 = 1 := by kernel_rfl
theorem opens_bool1 : Opens Tryz.prog 4 (fun _ cs (b : Bool) => cs = [Value.bool b] ∧ True) := (Opens.bool Tryz.underlying4).mono fun _ _ n h => ⟨n, h, trivial⟩
theorem opens_step : Opens Tryz.prog 73 (fun w cs (x : StC × Gr.Stp) => cs = encSt x.1 ∧ StepIs w x.1 x.2) := by
  intro H enc w fuel cs x hx
  obtain ⟨hl, hf⟩ := Opens.fields Tryz.underlying73 hx
  rw [cells_step] at hl
  match cs, hl with
  | [c0, c1, c2, c3, c4, c5, c6, c7, c8, c9, c10, c11, c12, c13, c14], _ =>
    obtain ⟨n0, y0, h0⟩ := hf 0 _ rfl
    obtain ⟨n1, y1, h1⟩ := hf 1 _ rfl
    obtain ⟨n2, y2, h2⟩ := hf 2 _ rfl
    have h0' : DataW.trod enc Tryz.prog w 0 (fun _ => true) true n0 3 (([c0, c1, c2, c3, c4, c5, c6, c7, c8, c9, c10, c11, c12, c13, c14].drop 0).take (Tryz.prog.cellsOf 3)) = some y0 := h0
    have h1' : DataW.trod enc Tryz.prog w 0 (fun _ => true) true n1 56 (([c0, c1, c2, c3, c4, c5, c6, c7, c8, c9, c10, c11, c12, c13, c14].drop 1).take (Tryz.prog.cellsOf 56)) = some y1 := h1
    have h2' : DataW.trod enc Tryz.prog w 0 (fun _ => true) true n2 4 (([c0, c1, c2, c3, c4, c5, c6, c7, c8, c9, c10, c11, c12, c13, c14].drop 14).take (Tryz.prog.cellsOf 4)) = some y2 := h2
    rw [cells_int1] at h0'
    rw [cells_node] at h1'
    rw [cells_bool1] at h2'
    obtain ⟨i0, e0, -⟩ := opens_int1 H enc w n0 _ _ h0'
    obtain ⟨⟨c, n⟩, e1, hn⟩ := opens_node H enc w n1 _ _ h1'
    obtain ⟨b2, e2, -⟩ := opens_bool1 H enc w n2 _ _ h2'
    simp [encNd] at e0 e1 e2
    obtain ⟨g0, g1, g2, g3, g4, g5, g6, g7, g8, g9, g10, g11, g12⟩ := e1
    subst e0 e2 g0 g1 g2 g3 g4 g5 g6 g7 g8 g9 g10 g11 g12
    exact ⟨(⟨i0, c, b2⟩, ⟨i0, n, b2⟩), rfl, ⟨rfl, hn, rfl⟩⟩
theorem steps_of {w : World} {v : Value} {l : List (StC × Gr.Stp)} (h : SlAt 15 (fun w cs (x : StC × Gr.Stp) => cs = encSt x.1 ∧ StepIs w x.1 x.2) w v l) : StepsAt w v (l.map (·.2)) := by
  obtain ⟨a, cap, rfl, hl, hm, hnil, hx⟩ := h
  refine ⟨l.map (·.1), ⟨a, cap, by simp, Nat.le_trans (by simpa using hl) hm, fun hne => ?_⟩, by simp, ?_⟩
  · obtain ⟨b, off, rfl, hc⟩ := hx (by intro e; subst e; exact hne rfl)
    refine ⟨b, off, rfl, fun i c hi j u hu => ?_⟩
    rw [List.getElem?_map] at hi
    obtain ⟨y, hy, rfl⟩ := Option.map_eq_some_iff.1 hi
    obtain ⟨cs, -, ⟨rfl, -⟩, h2⟩ := hc i y hy
    exact h2 j u hu
  · intro i c n hc hn
    rw [List.getElem?_map] at hc hn
    obtain ⟨y, hy, rfl⟩ := Option.map_eq_some_iff.1 hc
    obtain ⟨z, hz, rfl⟩ := Option.map_eq_some_iff.1 hn
    obtain rfl := Option.some.inj (hy.symm.trans hz)
    obtain ⟨b, off, rfl, hx2⟩ := hx (by intro e; subst e; simp at hy)
    obtain ⟨cs, -, ⟨-, h1⟩, -⟩ := hx2 i y hy
    exact h1
end Go.Proofs.YtpbohimddmploaaGreat
