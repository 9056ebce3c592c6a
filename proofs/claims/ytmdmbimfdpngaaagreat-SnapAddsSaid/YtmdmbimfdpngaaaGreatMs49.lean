import Derived.Test.YtmdmbimfdpngaaaGreatMs43
import Derived.Test.YtmdmbimfdpngaaaGreatMs30
import Derived.Test.YtmdmbimfdpngaaaGreatMs48
import Derived.Deep.QuietTactic
import Derived.BigQuiet
import Derived.Test.YtmdmbimfdpngaaaGreatMs9
import Derived.Test.YtmdmbimfdpngaaaGreatMs45
import Derived.Test.YtmdmbimfdpngaaaGreatMs40
import Derived.Deep.LoopGhost
/-! forebayref13.fits; forebayref01.Text. -/
namespace Go.Proofs.YtmdmbimfdpngaaaGreat
set_option linter.unusedSimpArgs false
set_option linter.unusedVariables false
open Go.RowKit Ga
set_option maxRecDepth 100000

theorem fits50_any (n m : Int) (w : World) : Calls Tryz.prog 38 #[.int .i64 n, .int .i64 m] w fun e w' => e = .returned (.bool (numB n m)) ∧ w = w' := by
  by_cases h1 : 0 ≤ n
  · have hb : numB n m = decide (n ≤ m) := by unfold numB; simp [h1]
    rw [hb]
    clear hb
    go_enter Tryz.func38, Tryz.ntmps38
    go_wp2
    go_ret
    exact ⟨rfl, rfl⟩
  · have hb : numB n m = false := by unfold numB; simp [h1]
    rw [hb]
    clear hb
    go_enter Tryz.func38, Tryz.ntmps38
    go_wp2
    go_ret
    exact ⟨rfl, rfl⟩
end Go.Proofs.YtmdmbimfdpngaaaGreat

/-! forebayref13.Right, cut: the frame; the head, the graph, the offsets. -/
namespace Go.Proofs.YtmdmbimfdpngaaaGreat
set_option linter.unusedSimpArgs false
set_option linter.unusedVariables false
open Go.RowKit Ga
set_option maxRecDepth 100000

def frame22 (u : Nat → Value) : Act := { tmps := #[u 0, u 1, u 2, u 3, u 4, u 5, u 6, u 7, u 8, u 9, u 10, u 11, u 12, u 13, u 14, u 15, u 16, u 17, u 18, u 19, u 20, u 21, u 22, u 23, u 24, u 25, u 26, u 27, u 28, u 29, u 30, u 31, u 32, u 33, u 34, u 35, u 36, u 37, u 38, u 39, u 40, u 41, u 42, u 43, u 44, u 45, u 46, u 47, u 48, u 49, u 50, u 51, u 52, u 53, u 54, u 55, u 56, u 57, u 58, u 59, u 60, u 61, u 62, u 63, u 64, u 65, u 66, u 67, u 68, u 69, u 70, u 71, u 72, u 73, u 74, u 75, u 76, u 77, u 78, u 79, u 80, u 81, u 82, u 83, u 84, u 85, u 86, u 87, u 88, u 89, u 90, u 91, u 92, u 93, u 94, u 95, u 96, u 97, u 98, u 99, u 100, u 101, u 102, u 103, u 104, u 105, u 106, u 107, u 108, u 109, u 110, u 111, u 112, u 113, u 114, u 115, u 116, u 117, u 118, u 119, u 120, u 121, u 122, u 123, u 124, u 125, u 126, u 127, u 128, u 129, u 130, u 131, u 132, u 133, u 134, u 135, u 136, u 137, u 138, u 139, u 140, u 141, u 142, u 143, u 144, u 145, u 146, u 147, u 148, u 149, u 150, u 151, u 152, u 153, u 154, u 155, u 156, u 157, u 158, u 159, u 160, u 161, u 162, u 163, u 164, u 165, u 166, u 167, u 168, u 169, u 170, u 171, u 172, u 173, u 174, u 175, u 176, u 177, u 178, u 179, u 180, u 181, u 182, u 183, u 184, u 185, u 186, u 187, u 188, u 189, u 190, u 191, u 192, u 193, u 194, u 195, u 196, u 197, u 198, u 199, u 200, u 201, u 202, u 203, u 204, u 205, u 206, u 207, u 208, u 209, u 210, u 211, u 212, u 213, u 214, u 215, u 216, u 217, u 218, u 219, u 220, u 221, u 222, u 223, u 224, u 225, u 226, u 227, u 228, u 229, u 230, u 231], defers := [] }
noncomputable def tail22 (n : Nat) : Code := (Tryz.f13.body.bind (from9 n)).getD .skip
def boxM (c : MfC) : Array Value := #[.int .i64 c.epoch, .int .i64 c.plans, .slice c.ao c.no c.co, .slice c.ag c.ng c.cg, .slice c.ae c.ne c.ce, .slice c.ax c.nx c.cx, .slice c.ap c.np c.cp]
structure Pre22 (w : World) (tx : Nat) (c : MfC) (a : Act) (W : World) : Prop where
  fr : a = frame22 (fun i => a.tmps.getD i undef)
  t1 : a.tmps.getD 1 undef = .pointer (some ⟨tx, 0, none⟩)
  g : Grew w W
  bx : W.heap[tx]? = some (.cells (boxM c) 28)
structure Ret22 (w : World) (b : Bool) (a : Act) (W : World) : Prop where
  t2 : a.tmps.getD 2 undef = .bool b
  d : a.defers = []
  g : Grew w W
def Cond1 (m : Gr.Mf) : Prop := numB m.epoch 2147483647 = true ∧ numB m.plans 2147483647 = true ∧ checkR m.graph = 0 ∧ m.out.length ≤ 4000
def Cond2 (m : Gr.Mf) : Prop := ∀ j (hj : j + 1 < m.graph.length), m.graph[j].id < m.graph[j + 1].id
def Cond3 (m : Gr.Mf) : Prop := ∃ n, m.graph.head? = some n ∧ (m.offs.length : Int) = n.par
def Cond4 (m : Gr.Mf) : Prop := ∀ x ∈ m.offs, numB x 400 = true
open Classical in
def EntOk (m : Gr.Mf) (j : Nat) (hj : j < m.ents.length) : Prop := okEn m.ents[j] = true ∧ Tab.nz m.ents[j] = true ∧ badE m.graph m.ents[j] = false ∧ ∀ i (h : i + 1 = j), ¬ (m.ents[j].node < m.ents[i].node ∨ m.ents[i].node = m.ents[j].node ∧ m.ents[j].key ≤ m.ents[i].key)
def Cond5 (m : Gr.Mf) : Prop := ∀ j (hj : j < m.ents.length), EntOk m j hj
def Cond6 (m : Gr.Mf) : Prop := m.plan = [] ∨ Gr.OkPl fitsP m.plan ∧ ∀ s ∈ m.plan, Gr.cleanS s = s
def Cond7 (m : Gr.Mf) : Prop := ∀ x ∈ m.out, lineB x = true
set_option maxHeartbeats 16000000 in
theorem rm_p1 (m : Gr.Mf) (w W : World) (tx : Nat) (c : MfC) (Q : Exit → Act → World → Prop) (a0 : Act)
    (h0 : Pre22 w tx c a0 W) (hm : MfIs W c m)
    (hbad : ¬ Cond1 m → ∀ a' w', Ret22 w false a' w' → Q .ret a' w')
    (hnext : Cond1 m → ∀ a' w', Grew W w' → Pre22 w tx c a' w' → Code.wp Tryz.prog (tail22 3) Q a' w') :
    Code.wp Tryz.prog (tail22 1) Q a0 W := by
  obtain ⟨hfr, h01, hg, hbx⟩ := h0
  obtain ⟨u, hu⟩ : ∃ u : Nat → Value, u = fun i => a0.tmps.getD i undef := ⟨_, rfl⟩
  rw [← hu] at hfr
  have u1 : u 1 = _ := (congrFun hu 1).trans h01
  clear hu h01
  subst hfr
  conv => arg 2; whnf
  unfold frame22
  rw [u1]
  clear u1
  have e1 := hm.epoch
  have e2 := hm.plans
  have HO := Lib.hid hm.o
  have HGR := Lib.hid hm.g
  have HE := Lib.hid hm.e
  have HX := Lib.hid hm.x
  have HP := Lib.hid hm.p
  obtain ⟨ep, pl, ao, co, ag, cg, ae, ce, ax, cx, ap, cp, rfl⟩ := hm.lit
  simp only at e1 e2 HO HGR HE HX HP
  simp only [boxM] at hbx
  have E1 := Lib.hid e1
  have E2 := Lib.hid e2
  have HG := Lib.hid hg
  have HBX := Lib.hid hbx
  have HBAD := Lib.hid hbad
  have HNX := Lib.hid hnext
  clear e1 e2 hm hg hbx hbad hnext
  have x0 := cell_of (o := 0) HBX.out
  have x1 := cell_of (o := 1) HBX.out
  have x3 := cell_of (o := 3) HBX.out
  have x5 := cell_of (o := 5) HBX.out
  simp at x0 x1 x3 x5
  have px := Pre.mk (heap_lt HBX.out)
  have HC := Lib.hid fun W' (g : Grew W W') => refCheck08_any _ m.graph W' (HGR.out.grew g)
  obtain ⟨r, hr⟩ : ∃ r, checkR m.graph = r := ⟨_, rfl⟩
  rw [hr] at HC
  have HR := Lib.hid hr
  clear hr
  cases h1 : numB ep 2147483647
  · have H1 := Lib.hid h1
    clear h1
    go_wp2_with (first
      | (go_at_call 38; refine (fits50_any _ _ _).mono ?_; rintro e w1 ⟨rfl, rfl⟩; rw [H1.out]))
    exact HBAD.out (fun h => by have := h.1; rw [E1.out, H1.out] at this; cases this) _ _ ⟨rfl, rfl, HG.out.trans (by repeat (first | with_reducible exact Grew.refl _ | apply Grew.more | apply Grew.alloc | apply Grew.drew | apply Grew.drewN))⟩
  have H1 := Lib.hid h1
  clear h1
  cases h2 : numB pl 2147483647
  · have H2 := Lib.hid h2
    clear h2
    go_wp2_with fail
    refine (fits50_any _ _ _).mono ?_
    rintro e w1 ⟨rfl, rfl⟩
    rw [H1.out]
    go_wp2_with fail
    refine (fits50_any _ _ _).mono ?_
    rintro e w1 ⟨rfl, rfl⟩
    rw [H2.out]
    go_wp2
    exact HBAD.out (fun h => by have := h.2.1; rw [E2.out, H2.out] at this; cases this) _ _ ⟨rfl, rfl, HG.out.trans (by repeat (first | with_reducible exact Grew.refl _ | apply Grew.more | apply Grew.alloc | apply Grew.drew | apply Grew.drewN))⟩
  have H2 := Lib.hid h2
  clear h2
  by_cases h3 : r = 0
  case neg =>
    have h3b : (r != 0) = true := by rw [bne_iff_ne]; exact h3
    have H3 := Lib.hid h3
    clear h3
    go_wp2_with fail
    refine (fits50_any _ _ _).mono ?_
    rintro e w1 ⟨rfl, rfl⟩
    rw [H1.out]
    go_wp2_with fail
    refine (fits50_any _ _ _).mono ?_
    rintro e w1 ⟨rfl, rfl⟩
    rw [H2.out]
    go_wp2_with fail
    refine (HC.out _ (by repeat (first | with_reducible exact Grew.refl _ | apply Grew.more | apply Grew.alloc | apply Grew.drew | apply Grew.drewN))).mono ?_
    rintro e w1 ⟨rfl, R1, n1, rfl⟩
    go_wp2
    exact HBAD.out (fun h => by have := h.2.2.1; rw [HR.out] at this; exact H3.out this) _ _ ⟨rfl, rfl, HG.out.trans (by repeat (first | with_reducible exact Grew.refl _ | apply Grew.more | apply Grew.alloc | apply Grew.drew | apply Grew.drewN))⟩
  subst h3
  by_cases h4 : (4000 : Int) < (m.out.length : Int)
  · go_wp2_with fail
    refine (fits50_any _ _ _).mono ?_
    rintro e w1 ⟨rfl, rfl⟩
    rw [H1.out]
    go_wp2_with fail
    refine (fits50_any _ _ _).mono ?_
    rintro e w1 ⟨rfl, rfl⟩
    rw [H2.out]
    go_wp2_with fail
    refine (HC.out _ (by repeat (first | with_reducible exact Grew.refl _ | apply Grew.more | apply Grew.alloc | apply Grew.drew | apply Grew.drewN))).mono ?_
    rintro e w1 ⟨rfl, R1, n1, rfl⟩
    go_wp2
    exact HBAD.out (fun h => by have := h.2.2.2; omega) _ _ ⟨rfl, rfl, HG.out.trans (by repeat (first | with_reducible exact Grew.refl _ | apply Grew.more | apply Grew.alloc | apply Grew.drew | apply Grew.drewN))⟩
  · have HOK : Hid (Cond1 m) := Lib.hid ⟨by rw [E1.out]; exact H1.out, by rw [E2.out]; exact H2.out, HR.out, by omega⟩
    go_wp2_with fail
    refine (fits50_any _ _ _).mono ?_
    rintro e w1 ⟨rfl, rfl⟩
    rw [H1.out]
    go_wp2_with fail
    refine (fits50_any _ _ _).mono ?_
    rintro e w1 ⟨rfl, rfl⟩
    rw [H2.out]
    go_upto_if 35 with (go_at_call 12; refine (HC.out _ (by repeat (first | with_reducible exact Grew.refl _ | apply Grew.more | apply Grew.alloc | apply Grew.drew | apply Grew.drewN))).mono ?_; rintro e w1 ⟨rfl, R1, n1, rfl⟩)
    iterate 4 go_step
    refine HNX.out HOK.out _ _ (by repeat (first | with_reducible exact Grew.refl _ | apply Grew.more | apply Grew.alloc | apply Grew.drew | apply Grew.drewN)) ?_
    exact ⟨rfl, rfl, HG.out.trans (by repeat (first | with_reducible exact Grew.refl _ | apply Grew.more | apply Grew.alloc | apply Grew.drew | apply Grew.drewN)), grew_heap (by repeat (first | with_reducible exact Grew.refl _ | apply Grew.more | apply Grew.alloc | apply Grew.drew | apply Grew.drewN)) HBX.out⟩
set_option maxHeartbeats 16000000 in
theorem rm_p2 (m : Gr.Mf) (w W : World) (tx : Nat) (c : MfC) (Q : Exit → Act → World → Prop) (a0 : Act)
    (h0 : Pre22 w tx c a0 W) (hm : MfIs W c m)
    (hbad : ¬ Cond2 m → ∀ a' w', Ret22 w false a' w' → Q .ret a' w')
    (hnext : Cond2 m → ∀ a' w', Grew W w' → Pre22 w tx c a' w' → Code.wp Tryz.prog (tail22 8) Q a' w') :
    Code.wp Tryz.prog (tail22 3) Q a0 W := by
  obtain ⟨hfr, h01, hg, hbx⟩ := h0
  obtain ⟨u, hu⟩ : ∃ u : Nat → Value, u = fun i => a0.tmps.getD i undef := ⟨_, rfl⟩
  rw [← hu] at hfr
  have u1 : u 1 = _ := (congrFun hu 1).trans h01
  clear hu h01
  subst hfr
  conv => arg 2; whnf
  unfold frame22
  rw [u1]
  clear u1
  have e1 := hm.epoch
  have e2 := hm.plans
  have HO := Lib.hid hm.o
  have HGR := Lib.hid hm.g
  have HE := Lib.hid hm.e
  have HX := Lib.hid hm.x
  have HP := Lib.hid hm.p
  obtain ⟨ep, pl, ao, co, ag, cg, ae, ce, ax, cx, ap, cp, rfl⟩ := hm.lit
  simp only at e1 e2 HO HGR HE HX HP
  simp only [boxM] at hbx
  have E1 := Lib.hid e1
  have E2 := Lib.hid e2
  have HG := Lib.hid hg
  have HBX := Lib.hid hbx
  have HBAD := Lib.hid hbad
  have HNX := Lib.hid hnext
  clear e1 e2 hm hg hbx hbad hnext
  go_wp2
  go_loopg [3] m.graph.length (fun gg s3 wr => ∃ g : Nat, (g + 1 ≤ m.graph.length ∨ m.graph.length = 0 ∧ g = 0) ∧ m.graph.length - g ≤ gg ∧ s3 = .int .i64 (g + 1) ∧ Hid (Grew W wr) ∧ Hid (∀ j (hj : j + 1 < m.graph.length), j < g → m.graph[j].id < m.graph[j + 1].id))
  case atStart => exact ⟨0, by omega, by omega, rfl, Lib.hid (by repeat (first | with_reducible exact Grew.refl _ | apply Grew.more | apply Grew.alloc | apply Grew.drew | apply Grew.drewN)), Lib.hid fun j _ h => by omega⟩
  case round =>
    obtain ⟨g, hg8, hgg, rfl, HGW, HNO⟩ := hrel
    have hbx := grew_heap HGW.out HBX.out
    have x3 := cell_of (o := 3) hbx
    simp at x3
    have px := Pre.mk (heap_lt hbx)
    have HBX2 := Lib.hid hbx
    clear hbx
    by_cases hlt : g + 1 < m.graph.length
    · obtain ⟨av, cv, e, hmx, hx⟩ := (HGR.out.grew HGW.out).openC
      cases e
      obtain ⟨b, off, c, rfl, hb, hn, c0, -⟩ := hx (g + 1) hlt
      obtain ⟨b', off', c', e, hb', hn', d0, -⟩ := hx g (by omega)
      cases e
      have H1 := Lib.hid hn.id
      have H2 := Lib.hid hn'.id
      have hsub : IntKind.i64.wrap ((g : Int) + 1 - 1) = g := by rw [Int.add_sub_cancel]; exact IntWalk.i64_in _ (by omega)
      have hsub2 : IntKind.i64.wrap (g : Int) = g := IntWalk.i64_in _ (by omega)
      have c0' : wr.cell? ⟨b, off + (g + 1) * 13, none⟩ = some (.int .i64 c.id) := c0
      clear hx hn hn' c0
      generalize c.id = p at *
      generalize c'.id = q at *
      go_upto_region 6 with fail
      by_cases hpq : p ≤ q
      · go_quiet (fail)
        go_wp2
        exact HBAD.out (fun h => by have := h g hlt; rw [H1.out, H2.out] at this; omega) _ _ ⟨rfl, rfl, HG.out.trans (HGW.out.trans (by repeat (first | with_reducible exact Grew.refl _ | apply Grew.more | apply Grew.alloc | apply Grew.drew | apply Grew.drewN)))⟩
      · go_quiet (fail)
        go_wp2
        go_roundg (m.graph.length - (g + 1))
        case measure => omega
        case rel => exact ⟨g + 1, by omega, by omega, by go_num, Lib.hid (HGW.out.trans (by repeat (first | with_reducible exact Grew.refl _ | apply Grew.more | apply Grew.alloc | apply Grew.drew | apply Grew.drewN))), Lib.hid fun j hj h => by
          rcases Nat.lt_or_ge j g with h1 | h1
          · exact HNO.out j hj h1
          · obtain rfl : j = g := by omega
            rw [H1.out, H2.out]
            omega⟩
    · have HOK : Hid (Cond2 m) := Lib.hid fun j hj => HNO.out j hj (by omega)
      go_upto_if 40 with fail
      iterate 4 go_step
      refine HNX.out HOK.out _ _ (HGW.out.trans (by repeat (first | with_reducible exact Grew.refl _ | apply Grew.more | apply Grew.alloc | apply Grew.drew | apply Grew.drewN))) ?_
      exact ⟨rfl, rfl, HG.out.trans (HGW.out.trans (by repeat (first | with_reducible exact Grew.refl _ | apply Grew.more | apply Grew.alloc | apply Grew.drew | apply Grew.drewN))), grew_heap (by repeat (first | with_reducible exact Grew.refl _ | apply Grew.more | apply Grew.alloc | apply Grew.drew | apply Grew.drewN)) HBX2.out⟩
set_option maxHeartbeats 16000000 in
theorem rm_p3 (m : Gr.Mf) (w W : World) (tx : Nat) (c : MfC) (Q : Exit → Act → World → Prop) (a0 : Act)
    (h0 : Pre22 w tx c a0 W) (hm : MfIs W c m) (hne : 0 < m.graph.length)
    (hbad : ¬ Cond3 m → ∀ a' w', Ret22 w false a' w' → Q .ret a' w')
    (hnext : Cond3 m → ∀ a' w', Grew W w' → Pre22 w tx c a' w' → Code.wp Tryz.prog (tail22 10) Q a' w') :
    Code.wp Tryz.prog (tail22 8) Q a0 W := by
  obtain ⟨hfr, h01, hg, hbx⟩ := h0
  obtain ⟨u, hu⟩ : ∃ u : Nat → Value, u = fun i => a0.tmps.getD i undef := ⟨_, rfl⟩
  rw [← hu] at hfr
  have u1 : u 1 = _ := (congrFun hu 1).trans h01
  clear hu h01
  subst hfr
  conv => arg 2; whnf
  unfold frame22
  rw [u1]
  clear u1
  have e1 := hm.epoch
  have e2 := hm.plans
  have HO := Lib.hid hm.o
  have HGR := Lib.hid hm.g
  have HE := Lib.hid hm.e
  have HX := Lib.hid hm.x
  have HP := Lib.hid hm.p
  obtain ⟨ep, pl, ao, co, ag, cg, ae, ce, ax, cx, ap, cp, rfl⟩ := hm.lit
  simp only at e1 e2 HO HGR HE HX HP
  simp only [boxM] at hbx
  have E1 := Lib.hid e1
  have E2 := Lib.hid e2
  have HG := Lib.hid hg
  have HBX := Lib.hid hbx
  have HBAD := Lib.hid hbad
  have HNX := Lib.hid hnext
  clear e1 e2 hm hg hbx hbad hnext
  have x2 := cell_of (o := 2) HBX.out
  have x3 := cell_of (o := 3) HBX.out
  simp at x2 x3
  have px := Pre.mk (heap_lt HBX.out)
  obtain ⟨av, cv, e, hmx, hx⟩ := HGR.out.openC
  cases e
  obtain ⟨b, off, c, rfl, hb, hn, -, -, -, -, c4, -⟩ := hx 0 hne
  have hhd : m.graph.head? = some m.graph[0] := by rw [List.head?_eq_getElem?, List.getElem?_eq_getElem hne]
  have HHD := Lib.hid hhd
  have HPAR := Lib.hid hn.par
  clear hx hn hhd
  simp at c4
  generalize c.par = p at *
  by_cases h : (m.offs.length : Int) = p
  · have h' : ((m.offs.length : Int) != p) = false := by rw [h]; simp
    have HOK : Hid (Cond3 m) := Lib.hid ⟨_, HHD.out, by rw [HPAR.out]; exact h⟩
    clear h
    go_upto_region 8 with fail
    go_quiet (fail)
    go_upto_if 65 with fail
    iterate 4 go_step
    refine HNX.out HOK.out _ _ (by repeat (first | with_reducible exact Grew.refl _ | apply Grew.more | apply Grew.alloc | apply Grew.drew | apply Grew.drewN)) ?_
    exact ⟨rfl, rfl, HG.out.trans (by repeat (first | with_reducible exact Grew.refl _ | apply Grew.more | apply Grew.alloc | apply Grew.drew | apply Grew.drewN)), grew_heap (by repeat (first | with_reducible exact Grew.refl _ | apply Grew.more | apply Grew.alloc | apply Grew.drew | apply Grew.drewN)) HBX.out⟩
  · have h' : ((m.offs.length : Int) != p) = true := by rw [bne_iff_ne]; exact h
    have H := Lib.hid h
    clear h
    go_upto_region 8 with fail
    go_quiet (fail)
    go_wp2
    exact HBAD.out (fun ⟨n, h1, h2⟩ => by
      have := Option.some.inj (HHD.out.symm.trans h1)
      subst this
      rw [HPAR.out] at h2
      exact H.out h2) _ _ ⟨rfl, rfl, HG.out.trans (by repeat (first | with_reducible exact Grew.refl _ | apply Grew.more | apply Grew.alloc | apply Grew.drew | apply Grew.drewN))⟩
set_option maxHeartbeats 16000000 in
theorem rm_p4 (m : Gr.Mf) (w W : World) (tx : Nat) (c : MfC) (Q : Exit → Act → World → Prop) (a0 : Act)
    (h0 : Pre22 w tx c a0 W) (hm : MfIs W c m)
    (hbad : ¬ Cond4 m → ∀ a' w', Ret22 w false a' w' → Q .ret a' w')
    (hnext : Cond4 m → ∀ a' w', Grew W w' → Pre22 w tx c a' w' → Code.wp Tryz.prog (tail22 15) Q a' w') :
    Code.wp Tryz.prog (tail22 10) Q a0 W := by
  obtain ⟨hfr, h01, hg, hbx⟩ := h0
  obtain ⟨u, hu⟩ : ∃ u : Nat → Value, u = fun i => a0.tmps.getD i undef := ⟨_, rfl⟩
  rw [← hu] at hfr
  have u1 : u 1 = _ := (congrFun hu 1).trans h01
  clear hu h01
  subst hfr
  conv => arg 2; whnf
  unfold frame22
  rw [u1]
  clear u1
  have e1 := hm.epoch
  have e2 := hm.plans
  have HO := Lib.hid hm.o
  have HGR := Lib.hid hm.g
  have HE := Lib.hid hm.e
  have HX := Lib.hid hm.x
  have HP := Lib.hid hm.p
  obtain ⟨ep, pl, ao, co, ag, cg, ae, ce, ax, cx, ap, cp, rfl⟩ := hm.lit
  simp only at e1 e2 HO HGR HE HX HP
  simp only [boxM] at hbx
  have E1 := Lib.hid e1
  have E2 := Lib.hid e2
  have HG := Lib.hid hg
  have HBX := Lib.hid hbx
  have HBAD := Lib.hid hbad
  have HNX := Lib.hid hnext
  clear e1 e2 hm hg hbx hbad hnext
  go_wp2
  go_loopg [4] m.offs.length (fun gg s4 wr => ∃ g : Nat, g ≤ m.offs.length ∧ m.offs.length - g ≤ gg ∧ s4 = .int .i64 g ∧ Hid (Grew W wr) ∧ Hid (∀ j (hj : j < m.offs.length), j < g → numB m.offs[j] 400 = true))
  case atStart => exact ⟨0, by omega, by omega, rfl, Lib.hid (by repeat (first | with_reducible exact Grew.refl _ | apply Grew.more | apply Grew.alloc | apply Grew.drew | apply Grew.drewN)), Lib.hid fun j _ h => by omega⟩
  case round =>
    obtain ⟨g, hg8, hgg, rfl, HGW, HNO⟩ := hrel
    have hbx := grew_heap HGW.out HBX.out
    have x2 := cell_of (o := 2) hbx
    simp at x2
    have px := Pre.mk (heap_lt hbx)
    have HBX2 := Lib.hid hbx
    clear hbx
    by_cases hlt : g < m.offs.length
    · obtain ⟨av, cv, e, hmx, hx⟩ := ints_open (HO.out.grew HGW.out)
      cases e
      obtain ⟨b, off, rfl, hb, c0⟩ := hx g hlt
      have HY : Hid (m.offs[g] = m.offs[g]) := Lib.hid rfl
      generalize hy : m.offs[g] = y at *
      have HYE := Lib.hid hy
      clear hx hy
      cases hq : numB y 400
      · have HQ := Lib.hid hq
        clear hq
        go_wp2_with (go_at_call 38; refine (fits50_any _ _ _).mono ?_; rintro e w1 ⟨rfl, rfl⟩; rw [HQ.out])
        exact HBAD.out (fun h => by have := h _ (List.getElem_mem hlt); rw [HYE.out, HQ.out] at this; cases this) _ _ ⟨rfl, rfl, HG.out.trans (HGW.out.trans (by repeat (first | with_reducible exact Grew.refl _ | apply Grew.more | apply Grew.alloc | apply Grew.drew | apply Grew.drewN)))⟩
      · have HQ := Lib.hid hq
        clear hq
        go_wp2_with (go_at_call 38; refine (fits50_any _ _ _).mono ?_; rintro e w1 ⟨rfl, rfl⟩; rw [HQ.out])
        go_roundg (m.offs.length - (g + 1))
        case measure => omega
        case rel => exact ⟨g + 1, by omega, by omega, by go_num, Lib.hid (HGW.out.trans (by repeat (first | with_reducible exact Grew.refl _ | apply Grew.more | apply Grew.alloc | apply Grew.drew | apply Grew.drewN))), Lib.hid fun j hj h => by
          rcases Nat.lt_or_ge j g with h1 | h1
          · exact HNO.out j hj h1
          · obtain rfl : j = g := by omega
            rw [HYE.out]
            exact HQ.out⟩
    · have HOK : Hid (Cond4 m) := Lib.hid fun x hx => by
        obtain ⟨j, hj, rfl⟩ := List.mem_iff_getElem.1 hx
        exact HNO.out j hj (by omega)
      go_upto_if 70 with fail
      iterate 4 go_step
      refine HNX.out HOK.out _ _ (HGW.out.trans (by repeat (first | with_reducible exact Grew.refl _ | apply Grew.more | apply Grew.alloc | apply Grew.drew | apply Grew.drewN))) ?_
      exact ⟨rfl, rfl, HG.out.trans (HGW.out.trans (by repeat (first | with_reducible exact Grew.refl _ | apply Grew.more | apply Grew.alloc | apply Grew.drew | apply Grew.drewN))), grew_heap (by repeat (first | with_reducible exact Grew.refl _ | apply Grew.more | apply Grew.alloc | apply Grew.drew | apply Grew.drewN)) HBX2.out⟩
end Go.Proofs.YtmdmbimfdpngaaaGreat
