import Derived.Test.YthlmmfljeblflaaGreatDoorMc0
import Derived.Test.YthlmmfljeblflaaGreatDoorMc5
import Derived.Test.YthlmmfljeblflaaGreatDoorMc6
import Derived.Test.YthlmmfljeblflaaGreatDoorMc4
import Derived.Deep.RegionLaw
import Derived.Deep.RegionHeld3
/-! Nodes in memory: thirteen cells each, two slices among them. -/
namespace Go.Proofs.YthlmmfljeblflaaGreatDoor
set_option linter.unusedSimpArgs false
set_option linter.unusedVariables false
open Go.RowKit Ga
set_option maxRecDepth 100000

abbrev IntsAt (w : World) (v : Value) (l : List Int) : Prop := RowsAt 1 (fun x => [Value.int .i64 x]) w v l
/-- a node as it lies: its slices are values -/
structure NdC where
  id : Int
  kind : Int
  af : Option Addr
  nf : Nat
  cf : Nat
  ap : Option Addr
  np : Nat
  cp : Nat
  par : Int
  r0 : Int
  r1 : Int
  r2 : Int
  r3 : Int
  r4 : Int
  r5 : Int
  r6 : Int
  r7 : Int
instance : Inhabited NdC := ⟨⟨0, 0, none, 0, 0, none, 0, 0, 0, 0, 0, 0, 0, 0, 0, 0, 0⟩⟩
abbrev NdC.vf (c : NdC) : Value := .slice c.af c.nf c.cf
abbrev NdC.vp (c : NdC) : Value := .slice c.ap c.np c.cp
def encNd (n : NdC) : List Value := [.int .i64 n.id, .int .i64 n.kind, .slice n.af n.nf n.cf, .slice n.ap n.np n.cp, .int .i64 n.par, .int .i64 n.r0, .int .i64 n.r1, .int .i64 n.r2, .int .i64 n.r3, .int .i64 n.r4, .int .i64 n.r5, .int .i64 n.r6, .int .i64 n.r7]
theorem encNd_len (n : NdC) : (encNd n).length = 13 := rfl
structure NodeIs (w : World) (c : NdC) (n : Gr.Nd) : Prop where
  id : n.id = c.id
  kind : n.kind = c.kind
  f : IntsAt w c.vf n.frm
  p : ValsAt w c.vp n.prog
  par : n.par = c.par
  route : n.route = [c.r0, c.r1, c.r2, c.r3, c.r4, c.r5, c.r6, c.r7]
  fc : n.frm.length ≤ c.cf
theorem NodeIs.grew {w w' : World} {c : NdC} {n : Gr.Nd} (h : NodeIs w c n) (g : Grew w w') : NodeIs w' c n :=
  { h with f := h.f.grew g, p := h.p.grew g }
theorem IntsAt.one {w : World} {v : Value} {l : List Int} (h : IntsAt w v l) : v.oneCell' = true := by
  obtain ⟨a, cap, rfl, -⟩ := h
  rfl
theorem ValsAt.one {w : World} {v : Value} {l : List Val} (h : ValsAt w v l) : v.oneCell' = true := by
  obtain ⟨a, cap, rfl, -⟩ := h
  rfl
theorem encNd_one (c : NdC) : ∀ u ∈ encNd c, u.oneCell' = true := by
  intro u hu
  simp [encNd] at hu
  rcases hu with rfl | rfl | rfl | rfl | rfl | rfl | rfl | rfl | rfl | rfl | rfl | rfl | rfl <;> rfl
/-- .. written out -/
theorem NodeIs.lit {w : World} {c : NdC} {n : Gr.Nd} (h : NodeIs w c n) : ∃ id kind af cf ap cp par r0 r1 r2 r3 r4 r5 r6 r7, c = ⟨id, kind, af, n.frm.length, cf, ap, n.prog.length, cp, par, r0, r1, r2, r3, r4, r5, r6, r7⟩ := by
  obtain ⟨id, kind, af, nf, cf, ap, np, cp, par, r0, r1, r2, r3, r4, r5, r6, r7⟩ := c
  obtain ⟨af', cf', e1⟩ := h.f.len
  obtain ⟨ap', cp', e2⟩ := h.p.len
  simp only [NdC.vf, NdC.vp] at e1 e2
  cases e1
  cases e2
  exact ⟨id, kind, _, _, _, _, par, r0, r1, r2, r3, r4, r5, r6, r7, rfl⟩
def NodesAt (w : World) (v : Value) (l : List Gr.Nd) : Prop := ∃ lc : List NdC, RowsAt 13 encNd w v lc ∧ lc.length = l.length ∧ ∀ (i : Nat) (c : NdC) (n : Gr.Nd), lc[i]? = some c → l[i]? = some n → NodeIs w c n
theorem NodesAt.grew {w w' : World} {v : Value} {l : List Gr.Nd} (h : NodesAt w v l) (g : Grew w w') : NodesAt w' v l := by
  obtain ⟨lc, h1, h2, h3⟩ := h
  exact ⟨lc, h1.grew g, h2, fun i c n hc hn => (h3 i c n hc hn).grew g⟩
/-- the slice and its cells, the node as it lies -/
theorem NodesAt.openC {w : World} {v : Value} {l : List Gr.Nd} (h : NodesAt w v l) : ∃ a cap, v = .slice a l.length cap ∧ l.length ≤ 9223372036854775807 ∧ ∀ i (hi : i < l.length), ∃ b off c, a = some ⟨b, off, none⟩ ∧ Pre b w ∧ NodeIs w c l[i] ∧
    w.cell? ⟨b, off + i * 13, none⟩ = some (.int .i64 c.id) ∧ w.cell? ⟨b, off + i * 13 + 1, none⟩ = some (.int .i64 c.kind) ∧ w.cell? ⟨b, off + i * 13 + 2, none⟩ = some (.slice c.af c.nf c.cf) ∧ w.cell? ⟨b, off + i * 13 + 3, none⟩ = some (.slice c.ap c.np c.cp) ∧ w.cell? ⟨b, off + i * 13 + 4, none⟩ = some (.int .i64 c.par) ∧
    w.cell? ⟨b, off + i * 13 + 5, none⟩ = some (.int .i64 c.r0) ∧ w.cell? ⟨b, off + i * 13 + 6, none⟩ = some (.int .i64 c.r1) ∧ w.cell? ⟨b, off + i * 13 + 7, none⟩ = some (.int .i64 c.r2) ∧ w.cell? ⟨b, off + i * 13 + 8, none⟩ = some (.int .i64 c.r3) ∧ w.cell? ⟨b, off + i * 13 + 9, none⟩ = some (.int .i64 c.r4) ∧ w.cell? ⟨b, off + i * 13 + 10, none⟩ = some (.int .i64 c.r5) ∧ w.cell? ⟨b, off + i * 13 + 11, none⟩ = some (.int .i64 c.r6) ∧ w.cell? ⟨b, off + i * 13 + 12, none⟩ = some (.int .i64 c.r7) := by
  obtain ⟨lc, ⟨a, cap, rfl, hm, hx⟩, h2, h3⟩ := h
  refine ⟨a, cap, by rw [h2], by unfold maxLen at hm; omega, fun i hi => ?_⟩
  have hi' : i < lc.length := by omega
  obtain ⟨b, off, rfl, hc⟩ := hx (by intro e; subst e; simp at hi')
  have hn := h3 i lc[i] l[i] (List.getElem?_eq_getElem hi') (List.getElem?_eq_getElem hi)
  have hj := fun j u => hc i lc[i] (List.getElem?_eq_getElem hi') j u
  have h0 := hj 0 _ rfl
  exact ⟨b, off, lc[i], rfl, Pre.mk (World.block_lt_of_cell? w _ h0), hn, h0, hj 1 _ rfl, hj 2 _ rfl, hj 3 _ rfl, hj 4 _ rfl, hj 5 _ rfl, hj 6 _ rfl, hj 7 _ rfl, hj 8 _ rfl, hj 9 _ rfl, hj 10 _ rfl, hj 11 _ rfl, hj 12 _ rfl⟩
/-- .. what the first cells hold, in the node's own words -/
theorem NodesAt.open' {w : World} {v : Value} {l : List Gr.Nd} (h : NodesAt w v l) : ∃ a cap, v = .slice a l.length cap ∧ l.length ≤ 9223372036854775807 ∧ ∀ i (hi : i < l.length), ∃ b off vf vp, a = some ⟨b, off, none⟩ ∧ Pre b w ∧ IntsAt w vf l[i].frm ∧ ValsAt w vp l[i].prog ∧
    w.cell? ⟨b, off + i * 13, none⟩ = some (.int .i64 l[i].id) ∧ w.cell? ⟨b, off + i * 13 + 1, none⟩ = some (.int .i64 l[i].kind) ∧ w.cell? ⟨b, off + i * 13 + 2, none⟩ = some vf ∧ w.cell? ⟨b, off + i * 13 + 3, none⟩ = some vp ∧ w.cell? ⟨b, off + i * 13 + 4, none⟩ = some (.int .i64 l[i].par) ∧
    ∀ g, g < 8 → w.cell? ⟨b, off + i * 13 + 5 + g, none⟩ = some (.int .i64 (l[i].route.getD g 0)) := by
  obtain ⟨a, cap, rfl, hm, hx⟩ := h.openC
  refine ⟨a, cap, rfl, hm, fun i hi => ?_⟩
  obtain ⟨b, off, c, rfl, hb, hn, c0, c1, c2, c3, c4, c5, c6, c7, c8, c9, c10, c11, c12⟩ := hx i hi
  refine ⟨b, off, c.vf, c.vp, rfl, hb, hn.f, hn.p, by rw [hn.id]; exact c0, by rw [hn.kind]; exact c1, c2, c3, by rw [hn.par]; exact c4, fun g hg => ?_⟩
  rw [hn.route]
  rcases (show g = 0 ∨ g = 1 ∨ g = 2 ∨ g = 3 ∨ g = 4 ∨ g = 5 ∨ g = 6 ∨ g = 7 by omega) with rfl | rfl | rfl | rfl | rfl | rfl | rfl | rfl
  · exact c5
  · exact c6
  · exact c7
  · exact c8
  · exact c9
  · exact c10
  · exact c11
  · exact c12
/-- .. all thirteen cells written out -/
theorem NodesAt.open13 {w : World} {v : Value} {l : List Gr.Nd} (h : NodesAt w v l) : ∃ a cap, v = .slice a l.length cap ∧ l.length ≤ 9223372036854775807 ∧ ∀ i (hi : i < l.length), ∃ b off vf vp, a = some ⟨b, off, none⟩ ∧ Pre b w ∧ IntsAt w vf l[i].frm ∧ ValsAt w vp l[i].prog ∧
    w.cell? ⟨b, off + i * 13, none⟩ = some (.int .i64 l[i].id) ∧ w.cell? ⟨b, off + i * 13 + 1, none⟩ = some (.int .i64 l[i].kind) ∧ w.cell? ⟨b, off + i * 13 + 2, none⟩ = some vf ∧ w.cell? ⟨b, off + i * 13 + 3, none⟩ = some vp ∧ w.cell? ⟨b, off + i * 13 + 4, none⟩ = some (.int .i64 l[i].par) ∧
    w.cell? ⟨b, off + i * 13 + 5, none⟩ = some (.int .i64 (l[i].route.getD 0 0)) ∧ w.cell? ⟨b, off + i * 13 + 6, none⟩ = some (.int .i64 (l[i].route.getD 1 0)) ∧ w.cell? ⟨b, off + i * 13 + 7, none⟩ = some (.int .i64 (l[i].route.getD 2 0)) ∧ w.cell? ⟨b, off + i * 13 + 8, none⟩ = some (.int .i64 (l[i].route.getD 3 0)) ∧
    w.cell? ⟨b, off + i * 13 + 9, none⟩ = some (.int .i64 (l[i].route.getD 4 0)) ∧ w.cell? ⟨b, off + i * 13 + 10, none⟩ = some (.int .i64 (l[i].route.getD 5 0)) ∧ w.cell? ⟨b, off + i * 13 + 11, none⟩ = some (.int .i64 (l[i].route.getD 6 0)) ∧ w.cell? ⟨b, off + i * 13 + 12, none⟩ = some (.int .i64 (l[i].route.getD 7 0)) := by
  obtain ⟨a, cap, rfl, hm, hx⟩ := h.open'
  refine ⟨a, cap, rfl, hm, fun i hi => ?_⟩
  obtain ⟨b, off, vf, vp, e, hb, hf, hp, c0, c1, c2, c3, c4, cr⟩ := hx i hi
  exact ⟨b, off, vf, vp, e, hb, hf, hp, c0, c1, c2, c3, c4, cr 0 (by decide), cr 1 (by decide), cr 2 (by decide), cr 3 (by decide), cr 4 (by decide), cr 5 (by decide), cr 6 (by decide), cr 7 (by decide)⟩
end Go.Proofs.YthlmmfljeblflaaGreatDoor

/-! forebayref08: Find, Has. -/
namespace Go.Proofs.YthlmmfljeblflaaGreatDoor
set_option linter.unusedSimpArgs false
set_option linter.unusedVariables false
open Go.RowKit Ga
set_option maxRecDepth 100000

def findI (l : List Gr.Nd) (id : Int) : Int := match Gr.find l id with
  | some i => i
  | none => -1
theorem findI_at {l : List Gr.Nd} {id : Int} {k : Nat} (hk : k < l.length) (h : l[k].id = id) (hn : ∀ j (hj : j < l.length), j < k → l[j].id ≠ id) : findI l id = k := by
  unfold findI Gr.find
  rw [List.findIdx?_eq_some_iff_getElem.2 ⟨hk, by simpa using h, fun j hj => by simpa using hn j (by omega) hj⟩]
theorem findI_no {l : List Gr.Nd} {id : Int} (hn : ∀ j (hj : j < l.length), l[j].id ≠ id) : findI l id = -1 := by
  unfold findI Gr.find
  rw [List.findIdx?_eq_none_iff.2 fun n hm => by
    obtain ⟨j, hj, rfl⟩ := List.mem_iff_getElem.1 hm
    simpa using hn j hj]

theorem ints_open {w : World} {v : Value} {l : List Int} (h : IntsAt w v l) : ∃ a cap, v = .slice a l.length cap ∧ l.length ≤ 9223372036854775807 ∧ ∀ i (hi : i < l.length), ∃ b off, a = some ⟨b, off, none⟩ ∧ Pre b w ∧ w.cell? ⟨b, off + i, none⟩ = some (.int .i64 l[i]) := by
  obtain ⟨a, cap, rfl, hm, hl⟩ := h
  refine ⟨a, cap, rfl, by unfold maxLen at hm; omega, fun i hi => ?_⟩
  obtain ⟨b, off, rfl, hx⟩ := hl (by intro e; subst e; simp at hi)
  have h0 := hx i l[i] (List.getElem?_eq_getElem hi) 0 _ rfl
  rw [Nat.mul_one, Nat.add_zero] at h0
  exact ⟨b, off, rfl, Pre.mk (World.block_lt_of_cell? w _ h0), h0⟩

set_option maxHeartbeats 2000000 in
theorem refFind08_any (v : Value) (l : List Gr.Nd) (id : Int) (w : World) (hv : NodesAt w v l) : Calls Tryz.prog 10 #[v, .int .i64 id] w fun e w' => e = .returned (.int .i64 (findI l id)) ∧ w' = w := by
  obtain ⟨a, cap, rfl, hm, hx⟩ := hv.open'
  have HX := Lib.hid hx
  clear hx hv
  go_enter Tryz.func10, Tryz.ntmps10
  go_wp2
  go_loopw [5] (fun i wr => ∃ k : Nat, k ≤ l.length ∧ i = .int .i64 k ∧ wr = w ∧ ∀ j (hj : j < l.length), j < k → l[j].id ≠ id) (fun i _ => l.length - (intOf i).toNat)
  case atStart => exact ⟨0, Nat.zero_le _, rfl, rfl, fun j _ h => by omega⟩
  case round =>
    obtain ⟨k, hk, rfl, rfl, hno⟩ := hrel
    have HNO := Lib.hid hno
    clear hno
    by_cases hlt : k < l.length
    · obtain ⟨b, off, vf, vp, rfl, hb, -, -, c0, -⟩ := HX.out k hlt
      by_cases he : l[k].id = id
      · have hf := findI_at hlt he fun j hj h => HNO.out j hj h
        have HF := Lib.hid hf
        clear hf
        rw [he] at c0
        clear he
        go_wp2
        refine bodyPost_ret (v := .int .i64 k) (by simp [results, Tryz.results10, go_sem]) rfl (by rw [HF.out]; first | exact ⟨rfl, rfl⟩ | exact ⟨rfl, trivial⟩ | trivial)
      · have hbe : (l[k].id == id) = false := by simpa using he
        have HNE := Lib.hid he
        clear he
        generalize hgx : l[k].id = x at *
        have HGX := Lib.hid hgx
        clear hgx
        go_wp2
        go_roundw
        case rel => exact ⟨k + 1, by omega, by go_num, trivial, fun j hj h => by
          rcases Nat.lt_or_ge j k with h1 | h1
          · exact HNO.out j hj h1
          · obtain rfl : j = k := by omega
            rw [HGX.out]
            exact HNE.out⟩
        case measure => first | (simp [intOf]; done) | (simp [intOf]; omega)
    · obtain rfl : k = l.length := by omega
      have hf := findI_no fun j hj => HNO.out j hj hj
      have HF := Lib.hid hf
      clear hf
      go_wp2
      refine bodyPost_ret (v := .int .i64 (-1)) (by simp [results, Tryz.results10, go_sem]) rfl (by rw [HF.out]; first | exact ⟨rfl, rfl⟩ | exact ⟨rfl, trivial⟩ | trivial)

end Go.Proofs.YthlmmfljeblflaaGreatDoor

/-! slices.Clone at numbers and at instructions; graph.own. -/
namespace Go.Proofs.YthlmmfljeblflaaGreatDoor
set_option linter.unusedSimpArgs false
set_option linter.unusedVariables false
open Go.RowKit Ga
set_option maxRecDepth 100000

def MadeOf (P : Value → World → Prop) (w : World) (e : Ending) (w' : World) : Prop := ∃ v, e = .returned v ∧ P v w' ∧ Grew w w'
theorem cloneInts_any (v : Value) (l : List Int) (w : World) (hv : IntsAt w v l) (hl : l.length ≤ 1000) : Calls Tryz.prog 87 #[v] w (MadeOf (fun v' w' => OwnAt w.heap.size 3 1 encN w' v' l) w) := by
  obtain ⟨a, cap, rfl, hm, hx⟩ := ints_open hv
  cases a with
  | none =>
    have h0 : l = [] := by
      cases l with
      | nil => rfl
      | cons x l => obtain ⟨b, off, h, _⟩ := hx 0 (by simp); cases h
    subst h0
    exact (Tryz.slices_Clone_int_nil _ _ _).mono fun e w' ⟨he, hw⟩ => ⟨_, he, OwnAt.nil _, hw ▸ Grew.refl w⟩
  | some ad =>
    cases l with
    | nil => exact (Tryz.slices_Clone_int_zero ad cap w).mono fun e w' ⟨v', he, ho, _, hb⟩ => ⟨v', he, ho, Grew.ofBelow hb⟩
    | cons x l =>
      obtain ⟨b, off, h, _⟩ := hx 0 (by simp)
      cases h
      refine (Tryz.slices_Clone_int b off _ cap (x :: l) w (Nat.le_refl _) (by simp at hl ⊢; omega) fun j hj => ?_).mono fun e w' ⟨v', he, ho, _, hb⟩ => ⟨v', he, ?_, Grew.ofBelow hb⟩
      · obtain ⟨b', off', h, _, hc⟩ := hx j hj
        cases h
        rw [List.getD_eq_getElem?_getD, List.getElem?_eq_getElem hj]
        exact hc
      · unfold OwnAt
        rw [List.take_of_length_le (Nat.le_refl _)] at ho
        have e1 : (x :: l).flatMap encN = (x :: l).map (Value.int .i64) := by
          generalize x :: l = l
          induction l with
          | nil => rfl
          | cons x l ih => rw [List.flatMap_cons, ih]; rfl
        rw [e1]
        exact ho

theorem addr_add (b off j : Nat) : (⟨b, off, none⟩ : Addr).add j = ⟨b, off + j, none⟩ := by
  unfold Addr.add; split
  · rename_i h; have : j = 0 := by simpa using h
    rw [this]; rfl
  · rfl
theorem cloneVals_any (v : Value) (l : List Val) (w : World) (hv : ValsAt w v l) (hl : l.length ≤ 1000) : Calls Tryz.prog 86 #[v] w (MadeOf (fun v' w' => OwnAt w.heap.size 83 2 encI w' v' l) w) := by
  obtain ⟨a, cap, rfl, hm, hx⟩ := hv
  cases a with
  | none =>
    have h0 : l = [] := by
      cases l with
      | nil => rfl
      | cons x l => obtain ⟨b, off, h, _⟩ := hx (by simp); cases h
    subst h0
    exact (AnyE.slices_Clone_nil Tryz.cloneInstr _ _ _).mono fun e w' ⟨he, hw⟩ => ⟨_, he, OwnAt.nil _, hw ▸ Grew.refl w⟩
  | some ad =>
    have hnews : ∀ j u, (l.flatMap encI)[j]? = some u → (w.alloc (.cells #[] 83)).cell? (ad.add j) = some u := by
      intro j u hj
      obtain ⟨q, y, r, h1, h2, rfl⟩ := flat_inv encI_len l j u hj
      obtain ⟨b, off, h, hc⟩ := hx (by intro e; subst e; simp at h1)
      cases h
      rw [addr_add]
      have h3 := hc q y h1 r u h2
      rw [Nat.add_assoc] at h3
      exact Lib.cell?_alloc_some _ h3
    have HN := Lib.hid hnews
    obtain ⟨i, hi, hz0, hz1, hz2⟩ := info_parts infoIns
    have q22 : ∀ (w : World) (a : Option Addr) (n c n' c' : Nat), (binOp .eql 38 (.slice a n c) (.slice none n' c')).run Tryz.prog w = .ok (.bool a.isNone) w := fun w a n c n' c' => Lib.run_eql_slice_nil w _ _ a n c n' c' Tryz.underlying38
    clear hnews hx
    go_enter Tryz.func86, Tryz.ntmps86
    go_wp2_with (at_builtin; refine wpList_append_own _ rfl _ _ 38 rfl w.heap.size 83 i _ 2 16 Tryz.underlying38 hi hz0 hz1 hz2 rfl (by decide) _ _ _ rfl (World.ownsRow_made w #[] 0 (Nat.le_refl _) (Nat.zero_le _) rfl) ad l.length cap (l.flatMap encI) rfl (flat_length encI_len l) HN.out (by intro u hu; obtain ⟨y, _, hy⟩ := List.mem_flatMap.1 hu; exact encI_one y u hy) (by unfold maxLen; omega) (by omega) (by simp) ?_)
    intro v' w1 hown hgrow hnil
    go_wp2
    go_ret
    refine ⟨v', rfl, ?_, Grew.ofBelow (((Below.refl _ w).alloc (Nat.le_refl _) _).grown hgrow (by simp) (by intro k hk; simp [Value.ownBlock] at hk; omega))⟩
    unfold OwnAt
    simpa using hown

theorem heap_more_same {W W' : World} (hs : W.heap.size = W'.heap.size) (R : Array Obj) (n b : Nat) (hb : W.heap.size ≤ b) : (W'.more R n).heap[b]? = (W.more R n).heap[b]? := by
  rw [heap_more_in W R n b hb, heap_more_in W' R n b (by omega), hs]
/-- its slices lie behind 'base' -/
def OwnsNd (base : Nat) (w : World) (c : NdC) (n : Gr.Nd) : Prop := OwnAt base 3 1 encN w c.vf n.frm ∧ OwnAt base 83 2 encI w c.vp n.prog
theorem OwnsNd.to {base : Nat} {w w' : World} {c : NdC} {n : Gr.Nd} (o : OwnsNd base w c n) (hb : ∀ b, base ≤ b → b < w.heap.size → w'.heap[b]? = w.heap[b]?) : OwnsNd base w' c n := by
  refine ⟨OwnAt.same o.1 fun b h => ?_, OwnAt.same o.2 fun b h => ?_⟩
  · obtain ⟨h1, _, h2⟩ := OwnAt.block o.1 h
    exact hb b h1 (heap_lt h2)
  · obtain ⟨h1, _, h2⟩ := OwnAt.block o.2 h
    exact hb b h1 (heap_lt h2)
theorem OwnsNd.is {base : Nat} {w w' : World} {c : NdC} {n : Gr.Nd} (o : OwnsNd base w' c n) (h : NodeIs w c n) : NodeIs w' c n :=
  { h with f := o.1.rows encN_len, p := o.2.rows encI_len }
theorem OwnsNd.low {base base' : Nat} {w : World} {c : NdC} {n : Gr.Nd} (o : OwnsNd base w c n) (hb : base' ≤ base) : OwnsNd base' w c n := ⟨OwnAt.low o.1 hb, OwnAt.low o.2 hb⟩
theorem OwnsNd.grew {base : Nat} {w w' : World} {c : NdC} {n : Gr.Nd} (o : OwnsNd base w c n) (g : Grew w w') : OwnsNd base w' c n := ⟨o.1.grew g, o.2.grew g⟩
/-- a node comes back that is the same, in memory of its own -/
def GivesNode (n : Gr.Nd) (w : World) (e : Ending) (w' : World) : Prop := ∃ c : NdC, e = .returned (.agg #[.int .i64 c.id, .int .i64 c.kind, .slice c.af c.nf c.cf, .slice c.ap c.np c.cp, .int .i64 c.par, .int .i64 c.r0, .int .i64 c.r1, .int .i64 c.r2, .int .i64 c.r3, .int .i64 c.r4, .int .i64 c.r5, .int .i64 c.r6, .int .i64 c.r7]) ∧ NodeIs w' c n ∧ OwnsNd w.heap.size w' c n ∧ Grew w w'
theorem OwnAt.cap {α : Type} {base : Nat} {e : TypeId} {k : Nat} {enc : α → List Value} {w : World} {a : Option Addr} {n cap : Nat} {l : List α} (h : OwnAt base e k enc w (.slice a n cap) l) : l.length ≤ cap := by
  obtain ⟨h1, h2⟩ := h
  rcases h2 with ⟨h, h0⟩ | ⟨g, cap', cur, hv, hb, hh, hc, r⟩
  · rw [h0]; exact Nat.zero_le _
  · cases hv; exact hc
theorem node_made {w w' : World} (c : NdC) {c0 : NdC} {n : Gr.Nd} (h : NodeIs w c0 n) (ei : c0.id = c.id) (ek : c0.kind = c.kind) (ep : c0.par = c.par) (e0 : c0.r0 = c.r0) (e1 : c0.r1 = c.r1) (e2 : c0.r2 = c.r2) (e3 : c0.r3 = c.r3) (e4 : c0.r4 = c.r4) (e5 : c0.r5 = c.r5) (e6 : c0.r6 = c.r6) (e7 : c0.r7 = c.r7)
    (o1 : OwnAt w.heap.size 3 1 encN w' c.vf n.frm) (o2 : OwnAt w.heap.size 83 2 encI w' c.vp n.prog) (g : Grew w w') : GivesNode n w (.returned (.agg #[.int .i64 c.id, .int .i64 c.kind, .slice c.af c.nf c.cf, .slice c.ap c.np c.cp, .int .i64 c.par, .int .i64 c.r0, .int .i64 c.r1, .int .i64 c.r2, .int .i64 c.r3, .int .i64 c.r4, .int .i64 c.r5, .int .i64 c.r6, .int .i64 c.r7])) w' :=
  ⟨c, rfl, ⟨h.id.trans ei, h.kind.trans ek, o1.rows encN_len, o2.rows encI_len, h.par.trans ep, by rw [h.route, e0, e1, e2, e3, e4, e5, e6, e7], OwnAt.cap o1⟩, ⟨o1, o2⟩, g⟩
set_option maxHeartbeats 4000000 in
theorem own_any (c : NdC) (n : Gr.Nd) (w : World) (hn : NodeIs w c n) (hf : n.frm.length ≤ 1000) (hp : n.prog.length ≤ 1000) : Calls Tryz.prog 65 #[.agg #[.int .i64 c.id, .int .i64 c.kind, .slice c.af c.nf c.cf, .slice c.ap c.np c.cp, .int .i64 c.par, .int .i64 c.r0, .int .i64 c.r1, .int .i64 c.r2, .int .i64 c.r3, .int .i64 c.r4, .int .i64 c.r5, .int .i64 c.r6, .int .i64 c.r7]] w (GivesNode n w) := by
  obtain ⟨id, kind, af, cf, ap, cp, par, r0, r1, r2, r3, r4, r5, r6, r7, rfl⟩ := hn.lit
  have HN := Lib.hid hn
  clear hn
  have h1 := fun W (g : Grew w W) => cloneInts_any _ n.frm W (HN.out.f.grew g) hf
  have h2 := fun W (g : Grew w W) => cloneVals_any _ n.prog W (HN.out.p.grew g) hp
  have H1 := Lib.hid h1
  have H2 := Lib.hid h2
  clear h1 h2
  show Calls Tryz.prog 65 #[.agg #[.int .i64 id, .int .i64 kind, .slice af n.frm.length cf, .slice ap n.prog.length cp, .int .i64 par, .int .i64 r0, .int .i64 r1, .int .i64 r2, .int .i64 r3, .int .i64 r4, .int .i64 r5, .int .i64 r6, .int .i64 r7]] w _
  go_enter Tryz.func65, Tryz.ntmps65
  go_wp2_with fail
  refine wp_region_noPanic ?_
  go_region_law (first
    | (go_simp; go_at_call 87; refine (H1.out _ (by repeat (first | with_reducible exact Grew.refl _ | apply Grew.more | apply Grew.alloc | apply Grew.drew | apply Grew.drewN))).mono ?_; rintro e w1 ⟨v1, rfl, ho1, R3, n3, rfl⟩; obtain ⟨a1, c1, rfl⟩ := (ho1.rows encN_len).len; (have HO1 := Lib.hid ho1); clear ho1)
    | (go_simp; go_at_call 86; refine (H2.out _ (by repeat (first | with_reducible exact Grew.refl _ | apply Grew.more | apply Grew.alloc | apply Grew.drew | apply Grew.drewN))).mono ?_; rintro e w1 ⟨v2, rfl, ho2, R4, n4, rfl⟩; obtain ⟨a2, c2, rfl⟩ := (ho2.rows encI_len).len; (have HO2 := Lib.hid ho2); clear ho2))
  all_goals
    refine NoPanic.normal ?_
    go_wp2
    refine bodyPost_ret (v := .agg #[.int .i64 id, .int .i64 kind, .slice a1 n.frm.length c1, .slice a2 n.prog.length c2, .int .i64 par, .int .i64 r0, .int .i64 r1, .int .i64 r2, .int .i64 r3, .int .i64 r4, .int .i64 r5, .int .i64 r6, .int .i64 r7]) (by simp [results, Tryz.results65, go_sem]) rfl ?_
    refine node_made ⟨id, kind, a1, n.frm.length, c1, a2, n.prog.length, c2, par, r0, r1, r2, r3, r4, r5, r6, r7⟩ HN.out rfl rfl rfl rfl rfl rfl rfl rfl rfl rfl rfl
      (OwnAt.low (OwnAt.grew (OwnAt.same HO1.out fun b hb => heap_more_same (by simp [World.size_alloc]) _ _ _ (by have := HO1.out.lt b hb; simp [World.size_alloc] at this ⊢; omega)) (Grew.more (Grew.refl _) R4 n4)) (by simp [World.size_alloc]; omega))
      (OwnAt.low (OwnAt.same HO2.out fun b hb => heap_more_same (by simp [World.size_alloc, World.more_size]) _ _ _ (by have := HO2.out.lt b hb; simp [World.size_alloc, World.more_size] at this ⊢; omega)) (by simp [World.size_alloc, World.more_size]; omega)) (by repeat (first | with_reducible exact Grew.refl _ | apply Grew.more | apply Grew.alloc | apply Grew.drew | apply Grew.drewN))
end Go.Proofs.YthlmmfljeblflaaGreatDoor

/-! slices.IndexFunc and ContainsFunc at numbers and at nodes; slices.Index and Contains at numbers. -/
namespace Go.Proofs.YthlmmfljeblflaaGreatDoor
set_option linter.unusedSimpArgs false
set_option linter.unusedVariables false
open Go.RowKit Ga
set_option maxRecDepth 100000

def idxP {α : Type} (p : α → Bool) (l : List α) : Int := match l.findIdx? p with
  | some i => i
  | none => -1
theorem idxP_at {α : Type} {p : α → Bool} {l : List α} {k : Nat} (hk : k < l.length) (h : p l[k] = true) (hn : ∀ j (hj : j < l.length), j < k → p l[j] = false) : idxP p l = k := by
  unfold idxP
  rw [List.findIdx?_eq_some_iff_getElem.2 ⟨hk, h, fun j hj => by simpa using hn j (by omega) hj⟩]
theorem idxP_no {α : Type} {p : α → Bool} {l : List α} (hn : ∀ j (hj : j < l.length), p l[j] = false) : idxP p l = -1 := by
  unfold idxP
  rw [List.findIdx?_eq_none_iff.2 fun n hm => by
    obtain ⟨j, hj, rfl⟩ := List.mem_iff_getElem.1 hm
    exact hn j hj]
theorem idxP_any {α : Type} {p : α → Bool} {l : List α} : l.any p = decide (0 ≤ idxP p l) := by
  unfold idxP
  cases h : l.findIdx? p with
  | none =>
    rw [List.findIdx?_eq_none_iff] at h
    have : l.any p = false := List.any_eq_false.2 fun x hx => by simp [h x hx]
    rw [this]; rfl
  | some i =>
    obtain ⟨hi, h1, -⟩ := List.findIdx?_eq_some_iff_getElem.1 h
    have : l.any p = true := List.any_eq_true.2 ⟨_, List.getElem_mem hi, h1⟩
    rw [this]
    symm
    simp
/-- a predicate on numbers that a function value computes -/
def PredI (g : Nat) (lb : Array Value) (p : Int → Bool) (w : World) : Prop := ∀ W x, Grew w W → Calls Tryz.prog g (#[.int .i64 x] ++ lb) W (Gives (.bool (p x)) W)

set_option maxHeartbeats 2000000 in
theorem indexInts_any (v : Value) (l : List Int) (g : Nat) (lb : Array Value) (p : Int → Bool) (w : World) (hv : IntsAt w v l) (eg : ∀ args w, (callFunc g args).run Tryz.prog w = .ok (.enter g args) w) (hp : PredI g lb p w) :
    Calls Tryz.prog 136 #[v, .func (.func g) #[] lb] w (Gives (.int .i64 (idxP p l)) w) := by
  have HV := Lib.hid hv
  have HP := Lib.hid hp
  obtain ⟨a, cap, rfl, hm, -⟩ := ints_open hv
  clear hv hp
  go_enter Tryz.func136, Tryz.ntmps136
  go_wp2
  go_loopg [5, 8] l.length (fun gg _ s8 wr => ∃ k : Nat, k ≤ l.length ∧ l.length - k ≤ gg ∧ s8 = .int .i64 k ∧ Hid (Grew w wr) ∧ Hid (∀ j (hj : j < l.length), j < k → p l[j] = false))
  case atStart => exact ⟨0, Nat.zero_le _, by omega, rfl, Lib.hid (by repeat (first | with_reducible exact Grew.refl _ | apply Grew.more | apply Grew.alloc | apply Grew.drew | apply Grew.drewN)), Lib.hid fun j _ h => by omega⟩
  case round =>
    obtain ⟨k, hk, hgg, rfl, HG, HNO⟩ := hrel
    by_cases hlt : k < l.length
    · obtain ⟨a', cap', e, -, hx⟩ := ints_open (HV.out.grew HG.out)
      cases e
      obtain ⟨b, off, rfl, hb, c0⟩ := hx k hlt
      have hcall := HP.out wr l[k] HG.out
      clear hx
      generalize hy : l[k] = y at c0 hcall
      have HY := Lib.hid hy
      clear hy
      cases hq : p y with
      | true =>
        have hr := idxP_at hlt (by rw [HY.out]; exact hq) HNO.out
        have HR := Lib.hid hr
        rw [hq] at hcall
        clear hr hq
        go_wp2_with (go_at_fn g; refine hcall.mono ?_; rintro e w1 ⟨rfl, R3, n3, rfl⟩)
        go_ret
        exact ⟨by rw [HR.out]; rfl, HG.out.trans (by repeat (first | with_reducible exact Grew.refl _ | apply Grew.more | apply Grew.alloc | apply Grew.drew | apply Grew.drewN))⟩
      | false =>
        have HQ := Lib.hid hq
        rw [hq] at hcall
        clear hq
        go_wp2_with (go_at_fn g; refine hcall.mono ?_; rintro e w1 ⟨rfl, R3, n3, rfl⟩)
        go_roundg (l.length - (k + 1))
        case measure => omega
        case rel => exact ⟨k + 1, by omega, by omega, by go_num, Lib.hid (HG.out.trans (by repeat (first | with_reducible exact Grew.refl _ | apply Grew.more | apply Grew.alloc | apply Grew.drew | apply Grew.drewN))), Lib.hid fun j hj h => by
          rcases Nat.lt_or_ge j k with h1 | h1
          · exact HNO.out j hj h1
          · obtain rfl : j = k := by omega
            rw [HY.out]
            exact HQ.out⟩
    · obtain rfl : k = l.length := by omega
      have hr := idxP_no fun j hj => HNO.out j hj hj
      have HR := Lib.hid hr
      clear hr
      go_wp2
      go_ret
      exact ⟨by rw [HR.out]; rfl, HG.out⟩
theorem containsFn_any (v : Value) (l : List Int) (g : Nat) (lb : Array Value) (p : Int → Bool) (w : World) (hv : IntsAt w v l) (eg : ∀ args w, (callFunc g args).run Tryz.prog w = .ok (.enter g args) w) (hp : PredI g lb p w) :
    Calls Tryz.prog 99 #[v, .func (.func g) #[] lb] w (Gives (.bool (l.any p)) w) := by
  rw [idxP_any]
  have hI := indexInts_any v l g lb p w hv eg hp
  obtain ⟨a, cap, rfl, hm, -⟩ := ints_open hv
  clear hv hp
  generalize idxP p l = r at *
  go_enter Tryz.func99, Tryz.ntmps99
  go_wp2_with (go_at_call 136; refine hI.mono ?_; rintro e w1 ⟨rfl, R3, n3, rfl⟩)
  go_ret
  refine ⟨rfl, ?_⟩
  repeat (first | with_reducible exact Grew.refl _ | apply Grew.more | apply Grew.alloc | apply Grew.drew | apply Grew.drewN)
theorem containsI_any (v : Value) (l : List Int) (x : Int) (w : World) (hv : IntsAt w v l) : Calls Tryz.prog 61 #[v, .int .i64 x] w fun e w' => e = .returned (.bool (decide (x ∈ l))) ∧ w' = w := by
  obtain ⟨a, cap, rfl, hm, hx⟩ := ints_open hv
  cases l with
  | nil =>
    refine (Tryz.slices_Contains_int_empty a cap x w).mono fun e w' ⟨he, hw⟩ => ⟨?_, hw⟩
    rw [he]; simp
  | cons y l =>
    obtain ⟨b, off, h, _⟩ := hx 0 (by simp)
    cases h
    refine (Tryz.slices_Contains_int b off _ cap (y :: l) x w (Nat.le_refl _) (by omega) fun j hj => ?_).mono fun e w' ⟨he, hw⟩ => ⟨?_, hw⟩
    · obtain ⟨b', off', h, _, hc⟩ := hx j hj
      cases h
      rw [List.getD_eq_getElem?_getD, List.getElem?_eq_getElem hj]
      exact hc
    · rw [he, List.take_of_length_le (Nat.le_refl _)]
      simp

/-- a predicate on nodes that a function value computes -/
def PredN (g : Nat) (lb : Array Value) (p : Gr.Nd → Bool) (w : World) : Prop := ∀ W c n, Grew w W → NodeIs W c n → Calls Tryz.prog g (#[.agg #[.int .i64 c.id, .int .i64 c.kind, .slice c.af c.nf c.cf, .slice c.ap c.np c.cp, .int .i64 c.par, .int .i64 c.r0, .int .i64 c.r1, .int .i64 c.r2, .int .i64 c.r3, .int .i64 c.r4, .int .i64 c.r5, .int .i64 c.r6, .int .i64 c.r7]] ++ lb) W (Gives (.bool (p n)) W)
set_option maxHeartbeats 4000000 in
theorem indexNodes_any (v : Value) (l : List Gr.Nd) (g : Nat) (lb : Array Value) (p : Gr.Nd → Bool) (w : World) (hv : NodesAt w v l) (eg : ∀ args w, (callFunc g args).run Tryz.prog w = .ok (.enter g args) w) (hp : PredN g lb p w) :
    Calls Tryz.prog 63 #[v, .func (.func g) #[] lb] w (Gives (.int .i64 (idxP p l)) w) := by
  have HV := Lib.hid hv
  have HP := Lib.hid hp
  obtain ⟨a, cap, rfl, hm, -⟩ := hv.openC
  clear hv hp
  go_enter Tryz.func63, Tryz.ntmps63
  go_wp2
  go_loopg [5, 8] l.length (fun gg _ s8 wr => ∃ k : Nat, k ≤ l.length ∧ l.length - k ≤ gg ∧ s8 = .int .i64 k ∧ Hid (Grew w wr) ∧ Hid (∀ j (hj : j < l.length), j < k → p l[j] = false))
  case atStart => exact ⟨0, Nat.zero_le _, by omega, rfl, Lib.hid (by repeat (first | with_reducible exact Grew.refl _ | apply Grew.more | apply Grew.alloc | apply Grew.drew | apply Grew.drewN)), Lib.hid fun j _ h => by omega⟩
  case round =>
    obtain ⟨k, hk, hgg, rfl, HG, HNO⟩ := hrel
    by_cases hlt : k < l.length
    · obtain ⟨a', cap', e, -, hx⟩ := (HV.out.grew HG.out).openC
      cases e
      obtain ⟨b, off, c, rfl, hb, hn, c0, c1, c2, c3, c4, c5, c6, c7, c8, c9, c10, c11, c12⟩ := hx k hlt
      have hcall := HP.out wr c l[k] HG.out hn
      clear hx hn
      generalize hy : l[k] = y at hcall
      have HY := Lib.hid hy
      clear hy
      obtain ⟨id, kind, af, nf, cf, ap, np, cp, par, r0, r1, r2, r3, r4, r5, r6, r7⟩ := c
      simp only at c0 c1 c2 c3 c4 c5 c6 c7 c8 c9 c10 c11 c12 hcall
      cases hq : p y with
      | true =>
        have hr := idxP_at hlt (by rw [HY.out]; exact hq) HNO.out
        have HR := Lib.hid hr
        rw [hq] at hcall
        clear hr hq
        go_wp2_with (go_at_fn g; refine hcall.mono ?_; rintro e w1 ⟨rfl, R3, n3, rfl⟩)
        go_ret
        exact ⟨by rw [HR.out]; rfl, HG.out.trans (by repeat (first | with_reducible exact Grew.refl _ | apply Grew.more | apply Grew.alloc | apply Grew.drew | apply Grew.drewN))⟩
      | false =>
        have HQ := Lib.hid hq
        rw [hq] at hcall
        clear hq
        go_wp2_with (go_at_fn g; refine hcall.mono ?_; rintro e w1 ⟨rfl, R3, n3, rfl⟩)
        go_roundg (l.length - (k + 1))
        case measure => omega
        case rel => exact ⟨k + 1, by omega, by omega, by go_num, Lib.hid (HG.out.trans (by repeat (first | with_reducible exact Grew.refl _ | apply Grew.more | apply Grew.alloc | apply Grew.drew | apply Grew.drewN))), Lib.hid fun j hj h => by
          rcases Nat.lt_or_ge j k with h1 | h1
          · exact HNO.out j hj h1
          · obtain rfl : j = k := by omega
            rw [HY.out]
            exact HQ.out⟩
    · obtain rfl : k = l.length := by omega
      have hr := idxP_no fun j hj => HNO.out j hj hj
      have HR := Lib.hid hr
      clear hr
      go_wp2
      go_ret
      exact ⟨by rw [HR.out]; rfl, HG.out⟩
end Go.Proofs.YthlmmfljeblflaaGreatDoor

/-! forebayref08.above. -/
namespace Go.Proofs.YthlmmfljeblflaaGreatDoor
set_option linter.unusedSimpArgs false
set_option linter.unusedVariables false
open Go.RowKit Ga
set_option maxRecDepth 100000

theorem findI_none {l : List Gr.Nd} {id : Int} (h : Gr.find l id = none) : findI l id = -1 := by unfold findI; rw [h]
theorem findI_some {l : List Gr.Nd} {id : Int} {i : Nat} (h : Gr.find l id = some i) : findI l id = i ∧ i < l.length := by
  obtain ⟨m, hm, -⟩ := Gr.find_some h
  exact ⟨by unfold findI; rw [h], (List.getElem?_eq_some_iff.1 hm).1⟩

end Go.Proofs.YthlmmfljeblflaaGreatDoor
