import Derived.Test.YtekkkmkhnphlhaaGreatDoorGh0
import Derived.Test.YtekkkmkhnphlhaaGreatDoorGh4
import Derived.Test.YtekkkmkhnphlhaaGreatDoorGh5
import Derived.Deep.DeepCutAuto
import Derived.Deep.QuietTactic
import Derived.RegionTactic
/-! Nodes in memory: thirteen cells each, two slices among them. -/
namespace Go.Proofs.YtekkkmkhnphlhaaGreatDoor
set_option linter.unusedSimpArgs false
set_option linter.unusedVariables false
open Go.RowKit Ga
set_option maxRecDepth 100000

abbrev IntsAt (w : World) (v : Value) (l : List Int) : Prop := RowsAt 1 (fun x => [Value.int .i64 x]) w v l
/-- a node as it lies: its slices are values -/
structure NdC where
  id : Int
  kind : Int
  af : Option Addr
  nf : Nat
  cf : Nat
  ap : Option Addr
  np : Nat
  cp : Nat
  par : Int
  r0 : Int
  r1 : Int
  r2 : Int
  r3 : Int
  r4 : Int
  r5 : Int
  r6 : Int
  r7 : Int
instance : Inhabited NdC := ⟨⟨0, 0, none, 0, 0, none, 0, 0, 0, 0, 0, 0, 0, 0, 0, 0, 0⟩⟩
abbrev NdC.vf (c : NdC) : Value := .slice c.af c.nf c.cf
abbrev NdC.vp (c : NdC) : Value := .slice c.ap c.np c.cp
def encNd (n : NdC) : List Value := [.int .i64 n.id, .int .i64 n.kind, .slice n.af n.nf n.cf, .slice n.ap n.np n.cp, .int .i64 n.par, .int .i64 n.r0, .int .i64 n.r1, .int .i64 n.r2, .int .i64 n.r3, .int .i64 n.r4, .int .i64 n.r5, .int .i64 n.r6, .int .i64 n.r7]
theorem encNd_len (n : NdC) : (encNd n).length = 13 := rfl
structure NodeIs (w : World) (c : NdC) (n : Gr.Nd) : Prop where
  id : n.id = c.id
  kind : n.kind = c.kind
  f : IntsAt w c.vf n.frm
  p : ValsAt w c.vp n.prog
  par : n.par = c.par
  route : n.route = [c.r0, c.r1, c.r2, c.r3, c.r4, c.r5, c.r6, c.r7]
  fc : n.frm.length ≤ c.cf
theorem NodeIs.grew {w w' : World} {c : NdC} {n : Gr.Nd} (h : NodeIs w c n) (g : Grew w w') : NodeIs w' c n :=
  { h with f := h.f.grew g, p := h.p.grew g }
theorem IntsAt.one {w : World} {v : Value} {l : List Int} (h : IntsAt w v l) : v.oneCell' = true := by
  obtain ⟨a, cap, rfl, -⟩ := h
  rfl
theorem ValsAt.one {w : World} {v : Value} {l : List Val} (h : ValsAt w v l) : v.oneCell' = true := by
  obtain ⟨a, cap, rfl, -⟩ := h
  rfl
theorem encNd_one (c : NdC) : ∀ u ∈ encNd c, u.oneCell' = true := by
  intro u hu
  simp [encNd] at hu
  rcases hu with rfl | rfl | rfl | rfl | rfl | rfl | rfl | rfl | rfl | rfl | rfl | rfl | rfl <;> rfl
/-- .. written out -/
theorem NodeIs.lit {w : World} {c : NdC} {n : Gr.Nd} (h : NodeIs w c n) : ∃ id kind af cf ap cp par r0 r1 r2 r3 r4 r5 r6 r7, c = ⟨id, kind, af, n.frm.length, cf, ap, n.prog.length, cp, par, r0, r1, r2, r3, r4, r5, r6, r7⟩ := by
  obtain ⟨id, kind, af, nf, cf, ap, np, cp, par, r0, r1, r2, r3, r4, r5, r6, r7⟩ := c
  obtain ⟨af', cf', e1⟩ := h.f.len
  obtain ⟨ap', cp', e2⟩ := h.p.len
  simp only [NdC.vf, NdC.vp] at e1 e2
  cases e1
  cases e2
  exact ⟨id, kind, _, _, _, _, par, r0, r1, r2, r3, r4, r5, r6, r7, rfl⟩
def NodesAt (w : World) (v : Value) (l : List Gr.Nd) : Prop := ∃ lc : List NdC, RowsAt 13 encNd w v lc ∧ lc.length = l.length ∧ ∀ (i : Nat) (c : NdC) (n : Gr.Nd), lc[i]? = some c → l[i]? = some n → NodeIs w c n
theorem NodesAt.grew {w w' : World} {v : Value} {l : List Gr.Nd} (h : NodesAt w v l) (g : Grew w w') : NodesAt w' v l := by
  obtain ⟨lc, h1, h2, h3⟩ := h
  exact ⟨lc, h1.grew g, h2, fun i c n hc hn => (h3 i c n hc hn).grew g⟩
theorem NodeIs.r8 {w : World} {c : NdC} {n : Gr.Nd} (h : NodeIs w c n) : n.route.length = 8 := by rw [h.route]; rfl
theorem NodesAt.r8 {w : World} {v : Value} {l : List Gr.Nd} (h : NodesAt w v l) : ∀ n ∈ l, n.route.length = 8 := by
  obtain ⟨lc, h1, h2, h3⟩ := h
  intro n hn
  obtain ⟨i, hi, e⟩ := List.mem_iff_getElem.1 hn
  exact (h3 i _ n (List.getElem?_eq_getElem (by omega)) (by rw [List.getElem?_eq_getElem hi, e])).r8
/-- the slice and its cells, the node as it lies -/
theorem NodesAt.openC {w : World} {v : Value} {l : List Gr.Nd} (h : NodesAt w v l) : ∃ a cap, v = .slice a l.length cap ∧ l.length ≤ 9223372036854775807 ∧ ∀ i (hi : i < l.length), ∃ b off c, a = some ⟨b, off, none⟩ ∧ Pre b w ∧ NodeIs w c l[i] ∧
    w.cell? ⟨b, off + i * 13, none⟩ = some (.int .i64 c.id) ∧ w.cell? ⟨b, off + i * 13 + 1, none⟩ = some (.int .i64 c.kind) ∧ w.cell? ⟨b, off + i * 13 + 2, none⟩ = some (.slice c.af c.nf c.cf) ∧ w.cell? ⟨b, off + i * 13 + 3, none⟩ = some (.slice c.ap c.np c.cp) ∧ w.cell? ⟨b, off + i * 13 + 4, none⟩ = some (.int .i64 c.par) ∧
    w.cell? ⟨b, off + i * 13 + 5, none⟩ = some (.int .i64 c.r0) ∧ w.cell? ⟨b, off + i * 13 + 6, none⟩ = some (.int .i64 c.r1) ∧ w.cell? ⟨b, off + i * 13 + 7, none⟩ = some (.int .i64 c.r2) ∧ w.cell? ⟨b, off + i * 13 + 8, none⟩ = some (.int .i64 c.r3) ∧ w.cell? ⟨b, off + i * 13 + 9, none⟩ = some (.int .i64 c.r4) ∧ w.cell? ⟨b, off + i * 13 + 10, none⟩ = some (.int .i64 c.r5) ∧ w.cell? ⟨b, off + i * 13 + 11, none⟩ = some (.int .i64 c.r6) ∧ w.cell? ⟨b, off + i * 13 + 12, none⟩ = some (.int .i64 c.r7) := by
  obtain ⟨lc, ⟨a, cap, rfl, hm, hx⟩, h2, h3⟩ := h
  refine ⟨a, cap, by rw [h2], by unfold maxLen at hm; omega, fun i hi => ?_⟩
  have hi' : i < lc.length := by omega
  obtain ⟨b, off, rfl, hc⟩ := hx (by intro e; subst e; simp at hi')
  have hn := h3 i lc[i] l[i] (List.getElem?_eq_getElem hi') (List.getElem?_eq_getElem hi)
  have hj := fun j u => hc i lc[i] (List.getElem?_eq_getElem hi') j u
  have h0 := hj 0 _ rfl
  exact ⟨b, off, lc[i], rfl, Pre.mk (World.block_lt_of_cell? w _ h0), hn, h0, hj 1 _ rfl, hj 2 _ rfl, hj 3 _ rfl, hj 4 _ rfl, hj 5 _ rfl, hj 6 _ rfl, hj 7 _ rfl, hj 8 _ rfl, hj 9 _ rfl, hj 10 _ rfl, hj 11 _ rfl, hj 12 _ rfl⟩
/-- .. what the first cells hold, in the node's own words -/
theorem NodesAt.open' {w : World} {v : Value} {l : List Gr.Nd} (h : NodesAt w v l) : ∃ a cap, v = .slice a l.length cap ∧ l.length ≤ 9223372036854775807 ∧ ∀ i (hi : i < l.length), ∃ b off vf vp, a = some ⟨b, off, none⟩ ∧ Pre b w ∧ IntsAt w vf l[i].frm ∧ ValsAt w vp l[i].prog ∧
    w.cell? ⟨b, off + i * 13, none⟩ = some (.int .i64 l[i].id) ∧ w.cell? ⟨b, off + i * 13 + 1, none⟩ = some (.int .i64 l[i].kind) ∧ w.cell? ⟨b, off + i * 13 + 2, none⟩ = some vf ∧ w.cell? ⟨b, off + i * 13 + 3, none⟩ = some vp ∧ w.cell? ⟨b, off + i * 13 + 4, none⟩ = some (.int .i64 l[i].par) ∧
    ∀ g, g < 8 → w.cell? ⟨b, off + i * 13 + 5 + g, none⟩ = some (.int .i64 (l[i].route.getD g 0)) := by
  obtain ⟨a, cap, rfl, hm, hx⟩ := h.openC
  refine ⟨a, cap, rfl, hm, fun i hi => ?_⟩
  obtain ⟨b, off, c, rfl, hb, hn, c0, c1, c2, c3, c4, c5, c6, c7, c8, c9, c10, c11, c12⟩ := hx i hi
  refine ⟨b, off, c.vf, c.vp, rfl, hb, hn.f, hn.p, by rw [hn.id]; exact c0, by rw [hn.kind]; exact c1, c2, c3, by rw [hn.par]; exact c4, fun g hg => ?_⟩
  rw [hn.route]
  rcases (show g = 0 ∨ g = 1 ∨ g = 2 ∨ g = 3 ∨ g = 4 ∨ g = 5 ∨ g = 6 ∨ g = 7 by omega) with rfl | rfl | rfl | rfl | rfl | rfl | rfl | rfl
  · exact c5
  · exact c6
  · exact c7
  · exact c8
  · exact c9
  · exact c10
  · exact c11
  · exact c12
/-- .. all thirteen cells written out -/
theorem NodesAt.open13 {w : World} {v : Value} {l : List Gr.Nd} (h : NodesAt w v l) : ∃ a cap, v = .slice a l.length cap ∧ l.length ≤ 9223372036854775807 ∧ ∀ i (hi : i < l.length), ∃ b off vf vp, a = some ⟨b, off, none⟩ ∧ Pre b w ∧ IntsAt w vf l[i].frm ∧ ValsAt w vp l[i].prog ∧
    w.cell? ⟨b, off + i * 13, none⟩ = some (.int .i64 l[i].id) ∧ w.cell? ⟨b, off + i * 13 + 1, none⟩ = some (.int .i64 l[i].kind) ∧ w.cell? ⟨b, off + i * 13 + 2, none⟩ = some vf ∧ w.cell? ⟨b, off + i * 13 + 3, none⟩ = some vp ∧ w.cell? ⟨b, off + i * 13 + 4, none⟩ = some (.int .i64 l[i].par) ∧
    w.cell? ⟨b, off + i * 13 + 5, none⟩ = some (.int .i64 (l[i].route.getD 0 0)) ∧ w.cell? ⟨b, off + i * 13 + 6, none⟩ = some (.int .i64 (l[i].route.getD 1 0)) ∧ w.cell? ⟨b, off + i * 13 + 7, none⟩ = some (.int .i64 (l[i].route.getD 2 0)) ∧ w.cell? ⟨b, off + i * 13 + 8, none⟩ = some (.int .i64 (l[i].route.getD 3 0)) ∧
    w.cell? ⟨b, off + i * 13 + 9, none⟩ = some (.int .i64 (l[i].route.getD 4 0)) ∧ w.cell? ⟨b, off + i * 13 + 10, none⟩ = some (.int .i64 (l[i].route.getD 5 0)) ∧ w.cell? ⟨b, off + i * 13 + 11, none⟩ = some (.int .i64 (l[i].route.getD 6 0)) ∧ w.cell? ⟨b, off + i * 13 + 12, none⟩ = some (.int .i64 (l[i].route.getD 7 0)) := by
  obtain ⟨a, cap, rfl, hm, hx⟩ := h.open'
  refine ⟨a, cap, rfl, hm, fun i hi => ?_⟩
  obtain ⟨b, off, vf, vp, e, hb, hf, hp, c0, c1, c2, c3, c4, cr⟩ := hx i hi
  exact ⟨b, off, vf, vp, e, hb, hf, hp, c0, c1, c2, c3, c4, cr 0 (by decide), cr 1 (by decide), cr 2 (by decide), cr 3 (by decide), cr 4 (by decide), cr 5 (by decide), cr 6 (by decide), cr 7 (by decide)⟩
end Go.Proofs.YtekkkmkhnphlhaaGreatDoor

/-! forebayref08: Find, Has. -/
namespace Go.Proofs.YtekkkmkhnphlhaaGreatDoor
set_option linter.unusedSimpArgs false
set_option linter.unusedVariables false
open Go.RowKit Ga
set_option maxRecDepth 100000

def findI (l : List Gr.Nd) (id : Int) : Int := match Gr.find l id with
  | some i => i
  | none => -1
theorem findI_at {l : List Gr.Nd} {id : Int} {k : Nat} (hk : k < l.length) (h : l[k].id = id) (hn : ∀ j (hj : j < l.length), j < k → l[j].id ≠ id) : findI l id = k := by
  unfold findI Gr.find
  rw [List.findIdx?_eq_some_iff_getElem.2 ⟨hk, by simpa using h, fun j hj => by simpa using hn j (by omega) hj⟩]
theorem findI_no {l : List Gr.Nd} {id : Int} (hn : ∀ j (hj : j < l.length), l[j].id ≠ id) : findI l id = -1 := by
  unfold findI Gr.find
  rw [List.findIdx?_eq_none_iff.2 fun n hm => by
    obtain ⟨j, hj, rfl⟩ := List.mem_iff_getElem.1 hm
    simpa using hn j hj]

theorem ints_open {w : World} {v : Value} {l : List Int} (h : IntsAt w v l) : ∃ a cap, v = .slice a l.length cap ∧ l.length ≤ 9223372036854775807 ∧ ∀ i (hi : i < l.length), ∃ b off, a = some ⟨b, off, none⟩ ∧ Pre b w ∧ w.cell? ⟨b, off + i, none⟩ = some (.int .i64 l[i]) := by
  obtain ⟨a, cap, rfl, hm, hl⟩ := h
  refine ⟨a, cap, rfl, by unfold maxLen at hm; omega, fun i hi => ?_⟩
  obtain ⟨b, off, rfl, hx⟩ := hl (by intro e; subst e; simp at hi)
  have h0 := hx i l[i] (List.getElem?_eq_getElem hi) 0 _ rfl
  rw [Nat.mul_one, Nat.add_zero] at h0
  exact ⟨b, off, rfl, Pre.mk (World.block_lt_of_cell? w _ h0), h0⟩

set_option maxHeartbeats 2000000 in
theorem refFind08_any (v : Value) (l : List Gr.Nd) (id : Int) (w : World) (hv : NodesAt w v l) : Calls Tryz.prog 45 #[v, .int .i64 id] w fun e w' => e = .returned (.int .i64 (findI l id)) ∧ w' = w := by
  obtain ⟨a, cap, rfl, hm, hx⟩ := hv.open'
  have HX := Lib.hid hx
  clear hx hv
  go_enter Tryz.func45, Tryz.ntmps45
  go_wp2
  go_loopw [5] (fun i wr => ∃ k : Nat, k ≤ l.length ∧ i = .int .i64 k ∧ wr = w ∧ ∀ j (hj : j < l.length), j < k → l[j].id ≠ id) (fun i _ => l.length - (intOf i).toNat)
  case atStart => exact ⟨0, Nat.zero_le _, rfl, rfl, fun j _ h => by omega⟩
  case round =>
    obtain ⟨k, hk, rfl, rfl, hno⟩ := hrel
    have HNO := Lib.hid hno
    clear hno
    by_cases hlt : k < l.length
    · obtain ⟨b, off, vf, vp, rfl, hb, -, -, c0, -⟩ := HX.out k hlt
      by_cases he : l[k].id = id
      · have hf := findI_at hlt he fun j hj h => HNO.out j hj h
        have HF := Lib.hid hf
        clear hf
        rw [he] at c0
        clear he
        go_wp2
        refine bodyPost_ret (v := .int .i64 k) (by simp [results, Tryz.results45, go_sem]) rfl (by rw [HF.out]; first | exact ⟨rfl, rfl⟩ | exact ⟨rfl, trivial⟩ | trivial)
      · have hbe : (l[k].id == id) = false := by simpa using he
        have HNE := Lib.hid he
        clear he
        generalize hgx : l[k].id = x at *
        have HGX := Lib.hid hgx
        clear hgx
        go_wp2
        go_roundw
        case rel => exact ⟨k + 1, by omega, by go_num, trivial, fun j hj h => by
          rcases Nat.lt_or_ge j k with h1 | h1
          · exact HNO.out j hj h1
          · obtain rfl : j = k := by omega
            rw [HGX.out]
            exact HNE.out⟩
        case measure => first | (simp [intOf]; done) | (simp [intOf]; omega)
    · obtain rfl : k = l.length := by omega
      have hf := findI_no fun j hj => HNO.out j hj hj
      have HF := Lib.hid hf
      clear hf
      go_wp2
      refine bodyPost_ret (v := .int .i64 (-1)) (by simp [results, Tryz.results45, go_sem]) rfl (by rw [HF.out]; first | exact ⟨rfl, rfl⟩ | exact ⟨rfl, trivial⟩ | trivial)

set_option maxHeartbeats 2000000 in
theorem refHas08_any (v : Value) (l : List Int) (n : Int) (w : World) (hv : IntsAt w v l) : Calls Tryz.prog 47 #[v, .int .i64 n] w fun e w' => e = .returned (.bool (decide (n ∈ l))) ∧ w' = w := by
  obtain ⟨a, cap, rfl, hm, hx⟩ := ints_open hv
  have HX := Lib.hid hx
  clear hx hv
  go_enter Tryz.func47, Tryz.ntmps47
  go_wp2
  go_loopw [5] (fun i wr => ∃ k : Nat, k ≤ l.length ∧ i = .int .i64 k ∧ wr = w ∧ ∀ j (hj : j < l.length), j < k → l[j] ≠ n) (fun i _ => l.length - (intOf i).toNat)
  case atStart => exact ⟨0, Nat.zero_le _, rfl, rfl, fun j _ h => by omega⟩
  case round =>
    obtain ⟨k, hk, rfl, rfl, hno⟩ := hrel
    have HNO := Lib.hid hno
    clear hno
    by_cases hlt : k < l.length
    · obtain ⟨b, off, rfl, hb, c0⟩ := HX.out k hlt
      by_cases he : l[k] = n
      · have hf : n ∈ l := he ▸ List.getElem_mem hlt
        have HF := Lib.hid hf
        clear hf
        rw [he] at c0
        clear he
        go_wp2
        refine bodyPost_ret (v := .bool true) (by simp [results, Tryz.results47, go_sem]) rfl (by rw [decide_eq_true HF.out]; first | exact ⟨rfl, rfl⟩ | exact ⟨rfl, trivial⟩ | trivial)
      · have hbe : (l[k] == n) = false := by simpa using he
        have HNE := Lib.hid he
        clear he
        generalize hgx : l[k] = x at *
        have HGX := Lib.hid hgx
        clear hgx
        go_wp2
        go_roundw
        case rel => exact ⟨k + 1, by omega, by go_num, trivial, fun j hj h => by
          rcases Nat.lt_or_ge j k with h1 | h1
          · exact HNO.out j hj h1
          · obtain rfl : j = k := by omega
            rw [HGX.out]
            exact HNE.out⟩
        case measure => first | (simp [intOf]; done) | (simp [intOf]; omega)
    · obtain rfl : k = l.length := by omega
      have hf : n ∉ l := fun q => by
        obtain ⟨j, hj, e⟩ := List.mem_iff_getElem.1 q
        exact HNO.out j hj hj e
      have HF := Lib.hid hf
      clear hf
      go_wp2
      refine bodyPost_ret (v := .bool false) (by simp [results, Tryz.results47, go_sem]) rfl (by rw [decide_eq_false HF.out]; first | exact ⟨rfl, rfl⟩ | exact ⟨rfl, trivial⟩ | trivial)

end Go.Proofs.YtekkkmkhnphlhaaGreatDoor

/-! forebayref08.above. -/
namespace Go.Proofs.YtekkkmkhnphlhaaGreatDoor
set_option linter.unusedSimpArgs false
set_option linter.unusedVariables false
open Go.RowKit Ga
set_option maxRecDepth 100000

theorem findI_none {l : List Gr.Nd} {id : Int} (h : Gr.find l id = none) : findI l id = -1 := by unfold findI; rw [h]
theorem findI_some {l : List Gr.Nd} {id : Int} {i : Nat} (h : Gr.find l id = some i) : findI l id = i ∧ i < l.length := by
  obtain ⟨m, hm, -⟩ := Gr.find_some h
  exact ⟨by unfold findI; rw [h], (List.getElem?_eq_some_iff.1 hm).1⟩

set_option maxHeartbeats 4000000 in
theorem refAbove08_any (v : Value) (l : List Gr.Nd) (w : World) (hv : NodesAt w v l) : ∀ (k : Nat), k ≤ 1000 → ∀ (fr tgt : Int), Calls Tryz.prog 48 #[v, .int .i64 fr, .int .i64 tgt, .int .i64 k] w fun e w' => e = .returned (.bool (Gr.above l fr tgt k)) ∧ w' = w
  | 0, _, fr, tgt => by
    have HV := Lib.hid hv
    clear hv
    cases hf : Gr.find l fr with
    | none =>
      have hi := findI_none hf
      have HI := Lib.hid hi
      clear hi hf
      go_enter Tryz.func48, Tryz.ntmps48
      go_wp2_with (go_at_call 45; refine (refFind08_any _ l fr _ HV.out).mono ?_; rintro e w1 ⟨rfl, hw1⟩; obtain rfl := hw1.symm; rw [HI.out])
      refine bodyPost_ret (v := .bool false) (by simp [results, Tryz.results48, go_sem]) rfl (by first | exact ⟨rfl, rfl⟩ | exact ⟨rfl, trivial⟩ | trivial)
    | some i =>
      obtain ⟨hi, hil⟩ := findI_some hf
      have hi0 : ¬ ((i : Int) < 0) := by omega
      have HI := Lib.hid hi
      clear hi hf
      go_enter Tryz.func48, Tryz.ntmps48
      go_wp2_with (go_at_call 45; refine (refFind08_any _ l fr _ HV.out).mono ?_; rintro e w1 ⟨rfl, hw1⟩; obtain rfl := hw1.symm; rw [HI.out])
      refine bodyPost_ret (v := .bool false) (by simp [results, Tryz.results48, go_sem]) rfl (by first | exact ⟨rfl, rfl⟩ | exact ⟨rfl, trivial⟩ | trivial)
  | k + 1, hk, fr, tgt => by
    have HIH := Lib.hid (fun (f : Int) => refAbove08_any v l w hv k (by omega) f tgt)
    have HV := Lib.hid hv
    have hw : IntKind.i64.wrap (k : Int) = (k : Int) := IntWalk.i64_in _ (by omega)
    have hk1 : ¬ ((k : Int) + 1 = 0) := by omega
    have hk2 : ((k : Int) + 1 == 0) = false := by simpa using hk1
    cases hf : Gr.find l fr with
    | none =>
      have hab : Gr.above l fr tgt (k + 1) = false := by rw [Gr.above, hf]; rfl
      have hi := findI_none hf
      have HI := Lib.hid hi
      have HAB := Lib.hid hab
      clear hi hf hab hv
      go_enter Tryz.func48, Tryz.ntmps48
      go_wp2_with (go_at_call 45; refine (refFind08_any _ l fr _ HV.out).mono ?_; rintro e w1 ⟨rfl, hw1⟩; obtain rfl := hw1.symm; rw [HI.out])
      refine bodyPost_ret (v := .bool false) (by simp [results, Tryz.results48, go_sem]) rfl (by rw [HAB.out]; first | exact ⟨rfl, rfl⟩ | exact ⟨rfl, trivial⟩ | trivial)
    | some i =>
      obtain ⟨hi, hil⟩ := findI_some hf
      have hab : Gr.above l fr tgt (k + 1) = l[i].frm.any fun f => f == tgt || Gr.above l f tgt k := by
        rw [Gr.above, hf, Option.bind_some, List.getElem?_eq_getElem hil]
      obtain ⟨a, cap, rfl, hm, hx⟩ := hv.open'
      obtain ⟨b, off, vf, vp, rfl, hb, hvf, -, -, -, cf, -⟩ := hx i hil
      obtain ⟨af, capf, rfl, hmf, hxf⟩ := ints_open hvf
      generalize l[i].frm = fl at *
      have hi0 : ¬ ((i : Int) < 0) := by omega
      have HI := Lib.hid hi
      have HAB := Lib.hid hab
      have HXF := Lib.hid hxf
      clear hi hf hab hv hx hvf hxf
      go_enter Tryz.func48, Tryz.ntmps48
      go_wp2_with (go_at_call 45; refine (refFind08_any _ l fr _ HV.out).mono ?_; rintro e w1 ⟨rfl, hw1⟩; obtain rfl := hw1.symm; rw [HI.out])
      go_loopw [10] (fun x wr => ∃ j : Nat, j ≤ fl.length ∧ x = .int .i64 j ∧ wr = w ∧ ∀ t (ht : t < fl.length), t < j → (fl[t] == tgt || Gr.above l fl[t] tgt k) = false) (fun x _ => fl.length - (intOf x).toNat)
      case atStart => exact ⟨0, Nat.zero_le _, rfl, rfl, fun j _ h => by omega⟩
      case round =>
        obtain ⟨j, hj, rfl, hwr, hno⟩ := hrel
        obtain rfl := hwr.symm
        have HNO := Lib.hid hno
        clear hno
        by_cases hlt : j < fl.length
        · obtain ⟨bf, offf, rfl, hbf, c0⟩ := HXF.out j hlt
          cases hq : (fl[j] == tgt || Gr.above l fl[j] tgt k)
          · have HQ := Lib.hid hq
            simp only [Bool.or_eq_false_iff] at hq
            obtain ⟨hq1, hq2⟩ := hq
            have HQ2 := Lib.hid hq2
            clear hq2
            generalize hgx : fl[j] = x at *
            have HGX := Lib.hid hgx
            clear hgx
            go_wp2_with (go_at_call 48; refine (HIH.out x).mono ?_; rintro e w1 ⟨rfl, hw1⟩; obtain rfl := hw1.symm; rw [HQ2.out])
            go_roundw
            case rel => exact ⟨j + 1, by omega, by go_num, trivial, fun t ht h => by
              rcases Nat.lt_or_ge t j with h1 | h1
              · exact HNO.out t ht h1
              · obtain rfl : t = j := by omega
                rw [HGX.out]
                exact HQ.out⟩
            case measure => first | (simp [intOf]; done) | (simp [intOf]; omega)
          · have hany : Gr.above l fr tgt (k + 1) = true := by
              rw [HAB.out, List.any_eq_true]
              exact ⟨fl[j], List.getElem_mem hlt, hq⟩
            have HANY := Lib.hid hany
            clear hany
            by_cases he : fl[j] = tgt
            · rw [he] at c0
              clear hq he
              go_wp2
              refine bodyPost_ret (v := .bool true) (by simp [results, Tryz.results48, go_sem]) rfl (by rw [HANY.out]; first | exact ⟨rfl, rfl⟩ | exact ⟨rfl, trivial⟩ | trivial)
            · have hq1 : (fl[j] == tgt) = false := by simpa using he
              rw [hq1, Bool.false_or] at hq
              have HQ2 := Lib.hid hq
              clear hq he
              generalize fl[j] = x at *
              go_wp2_with (go_at_call 48; refine (HIH.out x).mono ?_; rintro e w1 ⟨rfl, hw1⟩; obtain rfl := hw1.symm; rw [HQ2.out])
              refine bodyPost_ret (v := .bool true) (by simp [results, Tryz.results48, go_sem]) rfl (by rw [HANY.out]; first | exact ⟨rfl, rfl⟩ | exact ⟨rfl, trivial⟩ | trivial)
        · obtain rfl : j = fl.length := by omega
          have hany : Gr.above l fr tgt (k + 1) = false := by
            rw [HAB.out, List.any_eq_false]
            intro x hx
            obtain ⟨t, ht, rfl⟩ := List.mem_iff_getElem.1 hx
            rw [HNO.out t ht ht]
            simp
          have HANY := Lib.hid hany
          clear hany
          go_wp2
          refine bodyPost_ret (v := .bool false) (by simp [results, Tryz.results48, go_sem]) rfl (by rw [HANY.out]; first | exact ⟨rfl, rfl⟩ | exact ⟨rfl, trivial⟩ | trivial)

end Go.Proofs.YtekkkmkhnphlhaaGreatDoor

/-! Steps in memory: fifteen cells each. -/
namespace Go.Proofs.YtekkkmkhnphlhaaGreatDoor
set_option linter.unusedSimpArgs false
set_option linter.unusedVariables false
open Go.RowKit Ga
set_option maxRecDepth 100000

/-- a step as it lies -/
structure StC where
  kind : Int
  c : NdC
  reset : Bool
instance : Inhabited StC := ⟨⟨0, default, false⟩⟩
def encSt (s : StC) : List Value := [.int .i64 s.kind, .int .i64 s.c.id, .int .i64 s.c.kind, .slice s.c.af s.c.nf s.c.cf, .slice s.c.ap s.c.np s.c.cp, .int .i64 s.c.par, .int .i64 s.c.r0, .int .i64 s.c.r1, .int .i64 s.c.r2, .int .i64 s.c.r3, .int .i64 s.c.r4, .int .i64 s.c.r5, .int .i64 s.c.r6, .int .i64 s.c.r7, .bool s.reset]
theorem encSt_len (s : StC) : (encSt s).length = 15 := rfl
theorem encSt_one (c : StC) : ∀ u ∈ encSt c, u.oneCell' = true := by
  intro u hu
  simp [encSt] at hu
  rcases hu with rfl | rfl | rfl | rfl | rfl | rfl | rfl | rfl | rfl | rfl | rfl | rfl | rfl | rfl | rfl <;> rfl
structure StepIs (w : World) (c : StC) (s : Gr.Stp) : Prop where
  kind : s.kind = c.kind
  nd : NodeIs w c.c s.nd
  reset : s.reset = c.reset
theorem StepIs.grew {w w' : World} {c : StC} {s : Gr.Stp} (h : StepIs w c s) (g : Grew w w') : StepIs w' c s := { h with nd := h.nd.grew g }
def StepsAt (w : World) (v : Value) (l : List Gr.Stp) : Prop := ∃ lc : List StC, RowsAt 15 encSt w v lc ∧ lc.length = l.length ∧ ∀ (i : Nat) (c : StC) (s : Gr.Stp), lc[i]? = some c → l[i]? = some s → StepIs w c s
theorem StepsAt.grew {w w' : World} {v : Value} {l : List Gr.Stp} (h : StepsAt w v l) (g : Grew w w') : StepsAt w' v l := by
  obtain ⟨lc, h1, h2, h3⟩ := h
  exact ⟨lc, h1.grew g, h2, fun i c n hc hn => (h3 i c n hc hn).grew g⟩
theorem StepsAt.nil (w : World) : StepsAt w (.slice none 0 0) [] := ⟨[], RowsAt.nil, rfl, fun i c n h => by simp at h⟩
theorem StepsAt.r8 {w : World} {v : Value} {l : List Gr.Stp} (h : StepsAt w v l) : ∀ s ∈ l, s.nd.route.length = 8 := by
  obtain ⟨lc, -, h2, h3⟩ := h
  intro n hn
  obtain ⟨i, hi, rfl⟩ := List.mem_iff_getElem.1 hn
  rw [(h3 i lc[i] l[i] (List.getElem?_eq_getElem (by omega)) (List.getElem?_eq_getElem hi)).nd.route]
  rfl
theorem StepsAt.openC {w : World} {v : Value} {l : List Gr.Stp} (h : StepsAt w v l) : ∃ a cap, v = .slice a l.length cap ∧ l.length ≤ 9223372036854775807 ∧ ∀ i (hi : i < l.length), ∃ b off c, a = some ⟨b, off, none⟩ ∧ Pre b w ∧ StepIs w c l[i] ∧
    w.cell? ⟨b, off + i * 15, none⟩ = some (.int .i64 c.kind) ∧
    w.cell? ⟨b, off + i * 15 + 1, none⟩ = some (.int .i64 c.c.id) ∧
    w.cell? ⟨b, off + i * 15 + 2, none⟩ = some (.int .i64 c.c.kind) ∧
    w.cell? ⟨b, off + i * 15 + 3, none⟩ = some (.slice c.c.af c.c.nf c.c.cf) ∧
    w.cell? ⟨b, off + i * 15 + 4, none⟩ = some (.slice c.c.ap c.c.np c.c.cp) ∧
    w.cell? ⟨b, off + i * 15 + 5, none⟩ = some (.int .i64 c.c.par) ∧
    w.cell? ⟨b, off + i * 15 + 6, none⟩ = some (.int .i64 c.c.r0) ∧
    w.cell? ⟨b, off + i * 15 + 7, none⟩ = some (.int .i64 c.c.r1) ∧
    w.cell? ⟨b, off + i * 15 + 8, none⟩ = some (.int .i64 c.c.r2) ∧
    w.cell? ⟨b, off + i * 15 + 9, none⟩ = some (.int .i64 c.c.r3) ∧
    w.cell? ⟨b, off + i * 15 + 10, none⟩ = some (.int .i64 c.c.r4) ∧
    w.cell? ⟨b, off + i * 15 + 11, none⟩ = some (.int .i64 c.c.r5) ∧
    w.cell? ⟨b, off + i * 15 + 12, none⟩ = some (.int .i64 c.c.r6) ∧
    w.cell? ⟨b, off + i * 15 + 13, none⟩ = some (.int .i64 c.c.r7) ∧
    w.cell? ⟨b, off + i * 15 + 14, none⟩ = some (.bool c.reset) := by
  obtain ⟨lc, ⟨a, cap, rfl, hm, hx⟩, h2, h3⟩ := h
  refine ⟨a, cap, by rw [h2], by unfold maxLen at hm; omega, fun i hi => ?_⟩
  have hi' : i < lc.length := by omega
  obtain ⟨b, off, rfl, hc⟩ := hx (by intro e; subst e; simp at hi')
  have hn := h3 i lc[i] l[i] (List.getElem?_eq_getElem hi') (List.getElem?_eq_getElem hi)
  have hj := fun j u => hc i lc[i] (List.getElem?_eq_getElem hi') j u
  have h0 := hj 0 _ rfl
  exact ⟨b, off, lc[i], rfl, Pre.mk (World.block_lt_of_cell? w _ h0), hn, h0, hj 1 _ rfl, hj 2 _ rfl, hj 3 _ rfl, hj 4 _ rfl, hj 5 _ rfl, hj 6 _ rfl, hj 7 _ rfl, hj 8 _ rfl, hj 9 _ rfl, hj 10 _ rfl, hj 11 _ rfl, hj 12 _ rfl, hj 13 _ rfl, hj 14 _ rfl⟩
/-- .. written out -/
theorem StepIs.lit {w : World} {c : StC} {s : Gr.Stp} (h : StepIs w c s) : ∃ kind reset id kd af cf ap cp par r0 r1 r2 r3 r4 r5 r6 r7, c = ⟨kind, ⟨id, kd, af, s.nd.frm.length, cf, ap, s.nd.prog.length, cp, par, r0, r1, r2, r3, r4, r5, r6, r7⟩, reset⟩ := by
  obtain ⟨kind, c, reset⟩ := c
  obtain ⟨id, kd, af, cf, ap, cp, par, r0, r1, r2, r3, r4, r5, r6, r7, e⟩ := h.nd.lit
  simp only at e
  subst e
  exact ⟨_, _, _, _, _, _, _, _, _, _, _, _, _, _, _, _, _, rfl⟩
/-- a node alone in a slice just made -/
theorem NodesAt.one {w : World} {c : NdC} {n : Gr.Nd} (h : NodeIs w c n) (k : Nat) (hk : k = w.heap.size) (cs : List Value) (hcs : cs = encNd c) : NodesAt (w.alloc (.cells cs.toArray 60)) (.slice (some ⟨k, 0, none⟩) 1 1) [n] := by
  refine ⟨[c], RowsAt.fresh (l := [c]) rfl (by simp [maxLen]) encNd_len hk (by rw [hcs]; simp), rfl, ?_⟩
  intro i c' n' h1 h2
  match i with
  | 0 =>
    cases h1
    cases h2
    exact h.grew ((Grew.refl _).alloc _)
  | i + 1 => cases h1
end Go.Proofs.YtekkkmkhnphlhaaGreatDoor

/-! forebayref13.Clean. -/
namespace Go.Proofs.YtekkkmkhnphlhaaGreatDoor
set_option linter.unusedSimpArgs false
set_option linter.unusedVariables false
open Go.RowKit Ga
set_option maxRecDepth 100000

def zeroNd (id : Int) : NdC := ⟨id, 0, none, 0, 0, none, 0, 0, 0, 0, 0, 0, 0, 0, 0, 0, 0⟩
/-- a step's cells without what doesn't matter -/
def cleanC (c : StC) : StC :=
  if c.kind = 1 then ⟨1, { zeroNd c.c.id with ap := c.c.ap, np := c.c.np, cp := c.c.cp }, c.reset⟩
  else if c.kind = 2 then ⟨2, c.c, false⟩
  else if c.kind = 3 then ⟨3, zeroNd c.c.id, false⟩
  else if c.kind = 4 then ⟨4, ⟨c.c.id, 0, none, 0, 0, none, 0, 0, c.c.par, c.c.r0, c.c.r1, c.c.r2, c.c.r3, c.c.r4, c.c.r5, c.c.r6, c.c.r7⟩, false⟩
  else if c.kind = 5 then ⟨5, { zeroNd c.c.id with af := c.c.af, nf := c.c.nf, cf := c.c.cf }, false⟩
  else ⟨0, zeroNd 0, false⟩
theorem StepIs.clean {w : World} {c : StC} {s : Gr.Stp} (h : StepIs w c s) : StepIs w (cleanC c) (Gr.cleanS s) := by
  obtain ⟨hk, hn, hr⟩ := h
  unfold cleanC Gr.cleanS
  rw [hk]
  by_cases h1 : c.kind = 1
  · rw [if_pos h1, if_pos h1]
    exact ⟨rfl, ⟨hn.id, rfl, RowsAt.nil, hn.p, rfl, rfl, Nat.zero_le _⟩, hr⟩
  rw [if_neg h1, if_neg h1]
  by_cases h2 : c.kind = 2
  · rw [if_pos h2, if_pos h2]
    exact ⟨rfl, hn, rfl⟩
  rw [if_neg h2, if_neg h2]
  by_cases h3 : c.kind = 3
  · rw [if_pos h3, if_pos h3]
    exact ⟨rfl, ⟨hn.id, rfl, RowsAt.nil, RowsAt.nil, rfl, rfl, Nat.zero_le _⟩, rfl⟩
  rw [if_neg h3, if_neg h3]
  by_cases h4 : c.kind = 4
  · rw [if_pos h4, if_pos h4]
    exact ⟨rfl, ⟨hn.id, rfl, RowsAt.nil, RowsAt.nil, hn.par, hn.route, Nat.zero_le _⟩, rfl⟩
  rw [if_neg h4, if_neg h4]
  by_cases h5 : c.kind = 5
  · rw [if_pos h5, if_pos h5]
    exact ⟨rfl, ⟨hn.id, rfl, hn.f, RowsAt.nil, rfl, rfl, hn.fc⟩, rfl⟩
  rw [if_neg h5, if_neg h5]
  exact ⟨rfl, ⟨rfl, rfl, RowsAt.nil, RowsAt.nil, rfl, rfl, Nat.zero_le _⟩, rfl⟩
end Go.Proofs.YtekkkmkhnphlhaaGreatDoor

/-! forebaylaw08.Great. -/
namespace Go.Proofs.YtekkkmkhnphlhaaGreatDoor
set_option linter.unusedSimpArgs false
set_option linter.unusedVariables false
open Go.RowKit Ga
set_option maxRecDepth 100000

/-- more than is played -/
def greatN (n : Gr.Nd) : Bool := decide (60 < n.prog.length) || decide (20 < n.frm.length)
def greatG (l : List Gr.Nd) : Bool := decide (20 < l.length) || l.any greatN

set_option maxHeartbeats 4000000 in
theorem great08_any (v : Value) (l : List Gr.Nd) (w : World) (hv : NodesAt w v l) : Calls Tryz.prog 15 #[v] w (Gives (.bool (greatG l)) w) := by
  obtain ⟨a, cap, rfl, hm, -⟩ := hv.open13
  have HV := Lib.hid hv
  clear hv
  by_cases h20 : 20 < l.length
  · have hg : greatG l = true := by unfold greatG; rw [decide_eq_true h20]; rfl
    have HG := Lib.hid hg
    clear hg
    have h20' : (20 : Int) < (l.length : Int) := by omega
    go_enter Tryz.func15, Tryz.ntmps15
    go_wp2
    go_ret
    refine ⟨by rw [HG.out]; rfl, ?_⟩
    repeat (first | with_reducible exact Grew.refl _ | apply Grew.more | apply Grew.alloc | apply Grew.drew | apply Grew.drewN)
  · have hg0 : greatG l = l.any greatN := by unfold greatG; rw [decide_eq_false h20]; rfl
    have HG0 := Lib.hid hg0
    clear hg0
    go_enter Tryz.func15, Tryz.ntmps15
    go_wp2
    go_loopw [10] (fun i wr => ∃ k : Nat, k ≤ l.length ∧ i = .int .i64 k ∧ Grew w wr ∧ ∀ j (hj : j < l.length), j < k → greatN l[j] = false) (fun i _ => l.length - (intOf i).toNat)
    case atStart => exact ⟨0, Nat.zero_le _, rfl, by repeat (first | with_reducible exact Grew.refl _ | apply Grew.more | apply Grew.alloc | apply Grew.drew | apply Grew.drewN), fun j _ h => by omega⟩
    case round =>
      obtain ⟨k, hk, rfl, hgw, hno⟩ := hrel
      have HNO := Lib.hid hno
      have HGW := Lib.hid hgw
      by_cases hlt : k < l.length
      · obtain ⟨a', cap', e', -, hx⟩ := (HV.out.grew hgw).open13
        cases e'
        obtain ⟨b, off, vf, vp, rfl, hb, hvf, hvp, c0, c1, c2, c3, c4, c5, c6, c7, c8, c9, c10, c11, c12⟩ := hx k hlt
        obtain ⟨af, capf, rfl, hmf, -⟩ := ints_open hvf
        obtain ⟨ap, capp, rfl, hmp, -⟩ := hvp.open2
        clear hx hvf hvp hgw hno
        cases hq : greatN l[k]
        · have HQ := Lib.hid hq
          unfold greatN at hq
          simp only [Bool.or_eq_false_iff, decide_eq_false_iff_not] at hq
          obtain ⟨q1, q2⟩ := hq
          generalize hgx : l[k] = x at *
          have HGX := Lib.hid hgx
          clear hgx
          go_wp2
          go_roundw
          case rel => exact ⟨k + 1, by omega, by go_num, HGW.out.trans (by repeat (first | with_reducible exact Grew.refl _ | apply Grew.more | apply Grew.alloc | apply Grew.drew | apply Grew.drewN)), fun j hj h => by
            rcases Nat.lt_or_ge j k with h1 | h1
            · exact HNO.out j hj h1
            · obtain rfl : j = k := by omega
              rw [HGX.out]
              exact HQ.out⟩
          case measure => first | (simp [intOf]; done) | (simp [intOf]; omega)
        · have hg : greatG l = true := by
            rw [HG0.out, List.any_eq_true]
            exact ⟨l[k], List.getElem_mem hlt, hq⟩
          have HG := Lib.hid hg
          unfold greatN at hq
          simp only [Bool.or_eq_true, decide_eq_true_eq] at hq
          generalize l[k] = x at *
          clear hg
          by_cases q1 : 60 < x.prog.length
          · clear hq
            go_wp2
            go_ret
            refine ⟨by rw [HG.out]; rfl, HGW.out.trans ?_⟩
            repeat (first | with_reducible exact Grew.refl _ | apply Grew.more | apply Grew.alloc | apply Grew.drew | apply Grew.drewN)
          · have q2 : 20 < x.frm.length := by omega
            clear hq
            go_wp2
            go_ret
            refine ⟨by rw [HG.out]; rfl, HGW.out.trans ?_⟩
            repeat (first | with_reducible exact Grew.refl _ | apply Grew.more | apply Grew.alloc | apply Grew.drew | apply Grew.drewN)
      · obtain rfl : k = l.length := by omega
        have hg : greatG l = false := by
          rw [HG0.out, List.any_eq_false]
          intro x hx
          obtain ⟨t, ht, rfl⟩ := List.mem_iff_getElem.1 hx
          rw [HNO.out t ht ht]
          simp
        have HG := Lib.hid hg
        clear hg hgw hno
        go_wp2
        go_ret
        refine ⟨by rw [HG.out]; rfl, HGW.out.trans ?_⟩
        repeat (first | with_reducible exact Grew.refl _ | apply Grew.more | apply Grew.alloc | apply Grew.drew | apply Grew.drewN)
end Go.Proofs.YtekkkmkhnphlhaaGreatDoor
