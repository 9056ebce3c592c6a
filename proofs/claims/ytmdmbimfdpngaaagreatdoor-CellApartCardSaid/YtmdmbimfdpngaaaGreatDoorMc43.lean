import Derived.ChangeKeysEq
import Derived.Test.YtmdmbimfdpngaaaGreatDoorMc13
import Derived.Test.YtmdmbimfdpngaaaGreatDoorMc19
import Derived.Deep.LoopGhost
import Derived.Deep.DeepCutAuto
import Derived.Deep.QuietTactic
import Derived.BigQuiet
import Derived.Test.YtmdmbimfdpngaaaGreatDoorMc36
import Derived.Test.YtmdmbimfdpngaaaGreatDoorMc41
import Derived.Test.YtmdmbimfdpngaaaGreatDoorMc33
/-! Entries that are not one. -/
namespace Go.Proofs.YtmdmbimfdpngaaaGreatDoor
set_option linter.unusedSimpArgs false
set_option linter.unusedVariables false
open Go.RowKit Ga
set_option maxRecDepth 100000

theorem arr2_eq (d : Nat) (a b c e a' b' c' e' : Int) (w : World) : (Op.equalIn (d + 4) 48 (.agg #[.int .i64 a, .int .i64 b, .int .i64 c, .int .i64 e]) (.agg #[.int .i64 a', .int .i64 b', .int .i64 c', .int .i64 e'])).run Tryz.prog w = .ok (decide (a = a' ∧ b = b' ∧ c = c' ∧ e = e')) w := by
  obtain ⟨i, hi, _⟩ := info_parts infoCV
  have h0 := run_equalIn_array (P := Tryz.prog) (w := w) (d + 3) #[.int .i64 a, .int .i64 b, .int .i64 c, .int .i64 e] #[.int .i64 a', .int .i64 b', .int .i64 c', .int .i64 e'] Tryz.underlying48 hi
  rw [h0, show List.range 2 = [0, 1] from rfl, cellsCV]
  simp [Op.eqItems, go_sem, Tryz.underlying47, Tryz.underlying3]
  by_cases h1 : a = a' <;> by_cases h2 : b = b' <;> by_cases h3 : c = c' <;> by_cases h4 : e = e' <;> simp [h1, h2, h3, h4]
theorem run_neq_Ens (nd ky p0 q0 p1 q1 nd' ky' p0' q0' p1' q1' : Int) (r : Bool) (h : (!(decide (nd = nd' ∧ ky = ky' ∧ p0 = p0' ∧ q0 = q0' ∧ p1 = p1' ∧ q1 = q1'))) = r) (w : World) : (binOp .neq 53 (.agg #[.int .i64 nd, .int .i64 ky, .int .i64 p0, .int .i64 q0, .int .i64 p1, .int .i64 q1]) (.agg #[.int .i64 nd', .int .i64 ky', .int .i64 p0', .int .i64 q0', .int .i64 p1', .int .i64 q1'])).run Tryz.prog w = .ok (.bool r) w := by
  subst h
  simp [go_sem, arr2_eq, Tryz.underlying53, Tryz.underlying3]
  by_cases h0 : nd = nd' <;> by_cases h1 : ky = ky' <;> by_cases h2 : p0 = p0' <;> by_cases h3 : q0 = q0' <;> by_cases h4 : p1 = p1' <;> by_cases h5 : q1 = q1' <;> simp [h0, h1, h2, h3, h4, h5]
end Go.Proofs.YtmdmbimfdpngaaaGreatDoor

/-! forebayref07.Same, Recs. -/
namespace Go.Proofs.YtmdmbimfdpngaaaGreatDoor
set_option linter.unusedSimpArgs false
set_option linter.unusedVariables false
open Go.RowKit Ga
set_option maxRecDepth 100000

/-- a record as it lies -/
abbrev Rc := Int × Val
def encRc (x : Rc) : List Value := [.int .i64 x.1, .int .i64 x.2.1, .int .i64 x.2.2]
theorem encRc_len (x : Rc) : (encRc x).length = 3 := rfl
theorem encRc_one (x : Rc) : ∀ u ∈ encRc x, u.oneCell' = true := by
  intro u hu
  simp [encRc] at hu
  rcases hu with rfl | rfl | rfl <;> rfl
abbrev RecsAt (w : World) (v : Value) (l : List Rc) : Prop := RowsAt 3 encRc w v l
theorem RecsAt.open3 {w : World} {v : Value} {l : List Rc} (h : RecsAt w v l) : ∃ a cap, v = .slice a l.length cap ∧ l.length ≤ 9223372036854775807 ∧ ∀ i (hi : i < l.length), ∃ b off, a = some ⟨b, off, none⟩ ∧ Pre b w ∧
    w.cell? ⟨b, off + i * 3, none⟩ = some (.int .i64 l[i].1) ∧ w.cell? ⟨b, off + i * 3 + 1, none⟩ = some (.int .i64 l[i].2.1) ∧ w.cell? ⟨b, off + i * 3 + 2, none⟩ = some (.int .i64 l[i].2.2) := by
  obtain ⟨a, cap, rfl, hm, hx⟩ := h
  refine ⟨a, cap, rfl, by unfold maxLen at hm; omega, fun i hi => ?_⟩
  obtain ⟨b, off, rfl, hc⟩ := hx (by intro e; subst e; simp at hi)
  have hj := fun j u => hc i l[i] (List.getElem?_eq_getElem hi) j u
  have h0 := hj 0 _ rfl
  exact ⟨b, off, rfl, Pre.mk (World.block_lt_of_cell? w _ h0), h0, hj 1 _ rfl, hj 2 _ rfl⟩
theorem valR_eq (d : Nat) (a b a' b' : Int) (w : World) : (Op.equalIn (d + 4) 47 (.agg #[.int .i64 a, .int .i64 b]) (.agg #[.int .i64 a', .int .i64 b'])).run Tryz.prog w = .ok (decide (a = a' ∧ b = b')) w := by
  simp [go_sem, Tryz.underlying47, Tryz.underlying3]
  by_cases h1 : a = a' <;> by_cases h2 : b = b' <;> simp [h1, h2]
theorem run_neq_Rec (ky p0 q0 ky' p0' q0' : Int) (r : Bool) (h : (!(decide (ky = ky' ∧ p0 = p0' ∧ q0 = q0'))) = r) (w : World) : (binOp .neq 58 (.agg #[.int .i64 ky, .int .i64 p0, .int .i64 q0]) (.agg #[.int .i64 ky', .int .i64 p0', .int .i64 q0'])).run Tryz.prog w = .ok (.bool r) w := by
  subst h
  simp [go_sem, valR_eq, Tryz.underlying58, Tryz.underlying3]
  by_cases h1 : ky = ky' <;> by_cases h2 : p0 = p0' <;> by_cases h3 : q0 = q0' <;> simp [h1, h2, h3]
open Classical in
set_option maxHeartbeats 4000000 in
theorem refSame07_any (v u : Value) (l m : List Tab.En) (w : World) (hv : EntsAt w v l) (hu : EntsAt w u m) : Calls Tryz.prog 21 #[v, u] w (Gives (.bool (decide (l = m))) w) := by
  have HV := Lib.hid hv
  have HU := Lib.hid hu
  obtain ⟨a, cap, rfl, hm, -⟩ := EntsAt.open6 hv
  obtain ⟨a2, cap2, rfl, hm2, -⟩ := EntsAt.open6 hu
  clear hv hu
  by_cases hlen : l.length = m.length
  · have hD2 : ((l.length : Int) != (m.length : Int)) = false := by rw [hlen]; simp
    have HLEN := Lib.hid hlen
    clear hlen
    go_enter Tryz.func21, Tryz.ntmps21
    go_wp2
    go_loopg [5] l.length (fun gg s5 wr => ∃ g : Nat, g ≤ l.length ∧ l.length - g ≤ gg ∧ s5 = .int .i64 g ∧ Hid (Grew w wr) ∧ Hid (l.take g = m.take g))
    case atStart => exact ⟨0, by omega, by omega, rfl, Lib.hid (by repeat (first | with_reducible exact Grew.refl _ | apply Grew.more | apply Grew.alloc | apply Grew.drew | apply Grew.drewN)), Lib.hid rfl⟩
    case round =>
      obtain ⟨g, hg8, hgg, rfl, HGR, HNO⟩ := hrel
      by_cases hlt : g < l.length
      · have hlt2 : g < m.length := by have := HLEN.out; omega
        obtain ⟨av, cv, e, -, hx⟩ := EntsAt.open6 (HV.out.grew HGR.out)
        cases e
        obtain ⟨av2, cv2, e, -, hx2⟩ := EntsAt.open6 (HU.out.grew HGR.out)
        cases e
        obtain ⟨b, off, rfl, hb, c0, c1, c2, c3, c4, c5⟩ := hx g hlt
        obtain ⟨b2, off2, rfl, hb2, d0, d1, d2, d3, d4, d5⟩ := hx2 g hlt2
        have hs := take_eq_succ hlt hlt2 HNO.out
        have hf := neq_at hlt hlt2
        have HS := Lib.hid hs
        have HF := Lib.hid hf
        clear hx hx2 hs hf
        generalize l[g] = x at *
        generalize m[g] = y at *
        obtain ⟨nd, ky, ⟨p0, q0⟩, ⟨p1, q1⟩⟩ := x
        obtain ⟨nd', ky', ⟨p0', q0'⟩, ⟨p1', q1'⟩⟩ := y
        simp only at c0 c1 c2 c3 c4 c5 d0 d1 d2 d3 d4 d5
        by_cases hr : nd = nd' ∧ ky = ky' ∧ p0 = p0' ∧ q0 = q0' ∧ p1 = p1' ∧ q1 = q1'
        · obtain ⟨rfl, rfl, rfl, rfl, rfl, rfl⟩ := hr
          have hq := run_neq_Ens nd ky p0 q0 p1 q1 nd ky p0 q0 p1 q1 false (by simp)
          go_upto_region 6 with fail
          go_quiet (fail)
          go_wp2
          go_roundg (l.length - (g + 1))
          case measure => omega
          case rel => exact ⟨g + 1, by omega, by omega, by go_num, Lib.hid (HGR.out.trans (by repeat (first | with_reducible exact Grew.refl _ | apply Grew.more | apply Grew.alloc | apply Grew.drew | apply Grew.drewN))), Lib.hid (HS.out (by first | exact rfl | trivial))⟩
        · have HFIN := Lib.hid (decide_eq_false (HF.out (fun e => hr (by cases e; exact ⟨rfl, rfl, rfl, rfl, rfl, rfl⟩))))
          have hq := run_neq_Ens nd ky p0 q0 p1 q1 nd' ky' p0' q0' p1' q1' true (by rw [decide_eq_false hr]; rfl)
          clear hr
          go_upto_region 6 with fail
          go_quiet (fail)
          go_wp2
          go_ret
          exact ⟨by rw [HFIN.out]; rfl, HGR.out.trans (by repeat (first | with_reducible exact Grew.refl _ | apply Grew.more | apply Grew.alloc | apply Grew.drew | apply Grew.drewN))⟩
      · obtain rfl : g = l.length := by omega
        have hz := HNO.out
        rw [List.take_length, List.take_of_length_le (by have := HLEN.out; omega)] at hz
        have HFIN := Lib.hid (decide_eq_true hz)
        clear hz
        go_wp2
        go_ret
        exact ⟨by rw [HFIN.out]; rfl, HGR.out⟩
  · have hD2 : ((l.length : Int) != (m.length : Int)) = true := by rw [bne_iff_ne]; omega
    have HFIN := Lib.hid (decide_eq_false (fun h : l = m => hlen (by rw [h])))
    clear hlen
    go_enter Tryz.func21, Tryz.ntmps21
    go_wp2
    go_ret
    exact ⟨by rw [HFIN.out]; rfl, by repeat (first | with_reducible exact Grew.refl _ | apply Grew.more | apply Grew.alloc | apply Grew.drew | apply Grew.drewN)⟩
open Classical in
set_option maxHeartbeats 4000000 in
theorem refRecs07_any (v u : Value) (l m : List Rc) (w : World) (hv : RecsAt w v l) (hu : RecsAt w u m) : Calls Tryz.prog 20 #[v, u] w (Gives (.bool (decide (l = m))) w) := by
  have HV := Lib.hid hv
  have HU := Lib.hid hu
  obtain ⟨a, cap, rfl, hm, -⟩ := RecsAt.open3 hv
  obtain ⟨a2, cap2, rfl, hm2, -⟩ := RecsAt.open3 hu
  clear hv hu
  by_cases hlen : l.length = m.length
  · have hD2 : ((l.length : Int) != (m.length : Int)) = false := by rw [hlen]; simp
    have HLEN := Lib.hid hlen
    clear hlen
    go_enter Tryz.func20, Tryz.ntmps20
    go_wp2
    go_loopg [5] l.length (fun gg s5 wr => ∃ g : Nat, g ≤ l.length ∧ l.length - g ≤ gg ∧ s5 = .int .i64 g ∧ Hid (Grew w wr) ∧ Hid (l.take g = m.take g))
    case atStart => exact ⟨0, by omega, by omega, rfl, Lib.hid (by repeat (first | with_reducible exact Grew.refl _ | apply Grew.more | apply Grew.alloc | apply Grew.drew | apply Grew.drewN)), Lib.hid rfl⟩
    case round =>
      obtain ⟨g, hg8, hgg, rfl, HGR, HNO⟩ := hrel
      by_cases hlt : g < l.length
      · have hlt2 : g < m.length := by have := HLEN.out; omega
        obtain ⟨av, cv, e, -, hx⟩ := RecsAt.open3 (HV.out.grew HGR.out)
        cases e
        obtain ⟨av2, cv2, e, -, hx2⟩ := RecsAt.open3 (HU.out.grew HGR.out)
        cases e
        obtain ⟨b, off, rfl, hb, c0, c1, c2⟩ := hx g hlt
        obtain ⟨b2, off2, rfl, hb2, d0, d1, d2⟩ := hx2 g hlt2
        have hs := take_eq_succ hlt hlt2 HNO.out
        have hf := neq_at hlt hlt2
        have HS := Lib.hid hs
        have HF := Lib.hid hf
        clear hx hx2 hs hf
        generalize l[g] = x at *
        generalize m[g] = y at *
        obtain ⟨ky, ⟨p0, q0⟩⟩ := x
        obtain ⟨ky', ⟨p0', q0'⟩⟩ := y
        simp only at c0 c1 c2 d0 d1 d2
        by_cases hr : ky = ky' ∧ p0 = p0' ∧ q0 = q0'
        · obtain ⟨rfl, rfl, rfl⟩ := hr
          have hq := run_neq_Rec ky p0 q0 ky p0 q0 false (by simp)
          go_upto_region 6 with fail
          go_quiet (fail)
          go_wp2
          go_roundg (l.length - (g + 1))
          case measure => omega
          case rel => exact ⟨g + 1, by omega, by omega, by go_num, Lib.hid (HGR.out.trans (by repeat (first | with_reducible exact Grew.refl _ | apply Grew.more | apply Grew.alloc | apply Grew.drew | apply Grew.drewN))), Lib.hid (HS.out (by first | exact rfl | trivial))⟩
        · have HFIN := Lib.hid (decide_eq_false (HF.out (fun e => hr (by cases e; exact ⟨rfl, rfl, rfl⟩))))
          have hq := run_neq_Rec ky p0 q0 ky' p0' q0' true (by rw [decide_eq_false hr]; rfl)
          clear hr
          go_upto_region 6 with fail
          go_quiet (fail)
          go_wp2
          go_ret
          exact ⟨by rw [HFIN.out]; rfl, HGR.out.trans (by repeat (first | with_reducible exact Grew.refl _ | apply Grew.more | apply Grew.alloc | apply Grew.drew | apply Grew.drewN))⟩
      · obtain rfl : g = l.length := by omega
        have hz := HNO.out
        rw [List.take_length, List.take_of_length_le (by have := HLEN.out; omega)] at hz
        have HFIN := Lib.hid (decide_eq_true hz)
        clear hz
        go_wp2
        go_ret
        exact ⟨by rw [HFIN.out]; rfl, HGR.out⟩
  · have hD2 : ((l.length : Int) != (m.length : Int)) = true := by rw [bne_iff_ne]; omega
    have HFIN := Lib.hid (decide_eq_false (fun h : l = m => hlen (by rw [h])))
    clear hlen
    go_enter Tryz.func20, Tryz.ntmps20
    go_wp2
    go_ret
    exact ⟨by rw [HFIN.out]; rfl, by repeat (first | with_reducible exact Grew.refl _ | apply Grew.more | apply Grew.alloc | apply Grew.drew | apply Grew.drewN)⟩
end Go.Proofs.YtmdmbimfdpngaaaGreatDoor

/-! The law CodeTexts, walked. -/
namespace Go.Proofs.YtmdmbimfdpngaaaGreatDoor
set_option linter.unusedSimpArgs false
set_option linter.unusedVariables false
open Go.RowKit Ga
set_option maxRecDepth 100000

/-- What the library's tables hold, at layer 4. -/
structure Env4 (w : World) : Prop where
  m : CellM w
  e : Errs w
  p : Pow w
  a : Asc w
theorem Env4.grew {w w' : World} (h : Env4 w) (g : Grew w w') : Env4 w' := ⟨h.m.grew g, h.e.grew g, h.p.grew g, h.a.grew g⟩
theorem codeParse_env (l : List UInt8) (hs : l.length ≤ 1000000) (w : World) (h : Env4 w) :
    Calls Tryz.prog 44 #[.string ⟨l.toArray⟩] w (fun e w' => ∃ v, e = .returned (.tuple #[v, .int .i64 (Co.parseI l).2]) ∧ ValsAt w' v (Co.parseI l).1 ∧ Grew w w') :=
  codeParse_any l hs w h.m h.e h.p h.a

end Go.Proofs.YtmdmbimfdpngaaaGreatDoor

/-! The document's example of layer 6; the law VmEach, walked. -/
namespace Go.Proofs.YtmdmbimfdpngaaaGreatDoor
set_option linter.unusedSimpArgs false
set_option linter.unusedVariables false
open Go.RowKit Ga
set_option maxRecDepth 100000

def awake6S : List UInt8 := [73, 78, 59, 32, 76, 79, 65, 68, 32, 48, 59, 32, 65, 68, 68, 59, 32, 68, 85, 80, 59, 32, 83, 84, 79, 82, 69, 32, 48, 59, 32, 69, 77, 73, 84]
theorem awake6_text : Co.textI Vm.exP = awake6S := by decide +kernel
theorem awake6_fits : Co.fitsI Vm.exP = true := by decide
theorem awake6_parse : Co.parseI awake6S = (Vm.exP, 0) := by rw [← awake6_text]; exact Co.parse_text awake6_fits
theorem EachGives.coded {l : List Val} {c0 c1 : Val} {ins : List Val} {w w' : World} {ao : Option Addr} {no co : Nat} {n1 n2 n3 n4 n5 err : Int} (h : EachGives l c0 c1 ins w (.returned (.tuple #[.agg #[.slice ao no co, .int .i64 n1, .int .i64 n2, .int .i64 n3, .int .i64 n4, .int .i64 n5], .int .i64 err])) w') :
    err = Vm.codeOf l c0 c1 ins ∧ (err ≠ 0 → no = 0 ∧ n5 = 0) ∧ (err = 0 → OwnAt w.heap.size 47 2 encI w' (.slice ao no co) (Vm.each l ⟨[], c0, c1, 0⟩ ins).out ∧ n1 = (Vm.each l ⟨[], c0, c1, 0⟩ ins).c0.1 ∧ n2 = (Vm.each l ⟨[], c0, c1, 0⟩ ins).c0.2 ∧ n3 = (Vm.each l ⟨[], c0, c1, 0⟩ ins).c1.1 ∧ n4 = (Vm.each l ⟨[], c0, c1, 0⟩ ins).c1.2 ∧ n5 = (Vm.each l ⟨[], c0, c1, 0⟩ ins).steps) := by
  obtain ⟨_, h⟩ := h
  unfold Vm.codeOf
  split at h
  · rename_i hs
    rw [if_pos hs]
    unfold zeroR at h
    cases h
    exact ⟨rfl, fun _ => ⟨rfl, rfl⟩, fun h => by cases h⟩
  · rename_i hs
    rw [if_neg hs]
    split at h
    · rename_i hr
      rw [if_pos hr]
      unfold zeroR at h
      cases h
      exact ⟨rfl, fun _ => ⟨rfl, rfl⟩, fun h => by cases h⟩
    · rename_i hr
      rw [if_neg hr]
      obtain ⟨vo, he, ho⟩ := h
      unfold resV start0 at he
      cases he
      exact ⟨rfl, fun h => absurd rfl h, fun _ => ⟨ho, rfl, rfl, rfl, rfl, rfl⟩⟩

end Go.Proofs.YtmdmbimfdpngaaaGreatDoor
