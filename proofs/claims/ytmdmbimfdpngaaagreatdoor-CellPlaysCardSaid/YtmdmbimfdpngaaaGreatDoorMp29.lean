import Derived.Test.YtmdmbimfdpngaaaGreatDoorMp28
import Derived.Test.YtmdmbimfdpngaaaGreatDoorMp13
import Derived.Deep.LoopGhost
import Derived.Deep.DeepCutAuto
import Derived.Deep.QuietTactic
import Derived.BigQuiet
import Derived.Test.YtmdmbimfdpngaaaGreatDoorMp23
import Derived.Test.YtmdmbimfdpngaaaGreatDoorMp27
import Derived.Test.YtmdmbimfdpngaaaGreatDoorMp21
import Derived.ChangeKeysEq
/-! forebayref07.Same, Recs. -/
namespace Go.Proofs.YtmdmbimfdpngaaaGreatDoor
set_option linter.unusedSimpArgs false
set_option linter.unusedVariables false
open Go.RowKit Ga
set_option maxRecDepth 100000

/-- a record as it lies -/
abbrev Rc := Int × Val
def encRc (x : Rc) : List Value := [.int .i64 x.1, .int .i64 x.2.1, .int .i64 x.2.2]
theorem encRc_len (x : Rc) : (encRc x).length = 3 := rfl
theorem encRc_one (x : Rc) : ∀ u ∈ encRc x, u.oneCell' = true := by
  intro u hu
  simp [encRc] at hu
  rcases hu with rfl | rfl | rfl <;> rfl
abbrev RecsAt (w : World) (v : Value) (l : List Rc) : Prop := RowsAt 3 encRc w v l
theorem RecsAt.open3 {w : World} {v : Value} {l : List Rc} (h : RecsAt w v l) : ∃ a cap, v = .slice a l.length cap ∧ l.length ≤ 9223372036854775807 ∧ ∀ i (hi : i < l.length), ∃ b off, a = some ⟨b, off, none⟩ ∧ Pre b w ∧
    w.cell? ⟨b, off + i * 3, none⟩ = some (.int .i64 l[i].1) ∧ w.cell? ⟨b, off + i * 3 + 1, none⟩ = some (.int .i64 l[i].2.1) ∧ w.cell? ⟨b, off + i * 3 + 2, none⟩ = some (.int .i64 l[i].2.2) := by
  obtain ⟨a, cap, rfl, hm, hx⟩ := h
  refine ⟨a, cap, rfl, by unfold maxLen at hm; omega, fun i hi => ?_⟩
  obtain ⟨b, off, rfl, hc⟩ := hx (by intro e; subst e; simp at hi)
  have hj := fun j u => hc i l[i] (List.getElem?_eq_getElem hi) j u
  have h0 := hj 0 _ rfl
  exact ⟨b, off, rfl, Pre.mk (World.block_lt_of_cell? w _ h0), h0, hj 1 _ rfl, hj 2 _ rfl⟩
theorem valR_eq (d : Nat) (a b a' b' : Int) (w : World) : (Op.equalIn (d + 4) 47 (.agg #[.int .i64 a, .int .i64 b]) (.agg #[.int .i64 a', .int .i64 b'])).run Tryz.prog w = .ok (decide (a = a' ∧ b = b')) w := by
  simp [go_sem, Tryz.underlying47, Tryz.underlying3]
  by_cases h1 : a = a' <;> by_cases h2 : b = b' <;> simp [h1, h2]
theorem run_neq_Rec (ky p0 q0 ky' p0' q0' : Int) (r : Bool) (h : (!(decide (ky = ky' ∧ p0 = p0' ∧ q0 = q0'))) = r) (w : World) : (binOp .neq 58 (.agg #[.int .i64 ky, .int .i64 p0, .int .i64 q0]) (.agg #[.int .i64 ky', .int .i64 p0', .int .i64 q0'])).run Tryz.prog w = .ok (.bool r) w := by
  subst h
  simp [go_sem, valR_eq, Tryz.underlying58, Tryz.underlying3]
  by_cases h1 : ky = ky' <;> by_cases h2 : p0 = p0' <;> by_cases h3 : q0 = q0' <;> simp [h1, h2, h3]
open Classical in
set_option maxHeartbeats 4000000 in
theorem refSame07_any (v u : Value) (l m : List Tab.En) (w : World) (hv : EntsAt w v l) (hu : EntsAt w u m) : Calls Tryz.prog 21 #[v, u] w (Gives (.bool (decide (l = m))) w) := by
  have HV := Lib.hid hv
  have HU := Lib.hid hu
  obtain ⟨a, cap, rfl, hm, -⟩ := EntsAt.open6 hv
  obtain ⟨a2, cap2, rfl, hm2, -⟩ := EntsAt.open6 hu
  clear hv hu
  by_cases hlen : l.length = m.length
  · have hD2 : ((l.length : Int) != (m.length : Int)) = false := by rw [hlen]; simp
    have HLEN := Lib.hid hlen
    clear hlen
    go_enter Tryz.func21, Tryz.ntmps21
    go_wp2
    go_loopg [5] l.length (fun gg s5 wr => ∃ g : Nat, g ≤ l.length ∧ l.length - g ≤ gg ∧ s5 = .int .i64 g ∧ Hid (Grew w wr) ∧ Hid (l.take g = m.take g))
    case atStart => exact ⟨0, by omega, by omega, rfl, Lib.hid (by repeat (first | with_reducible exact Grew.refl _ | apply Grew.more | apply Grew.alloc | apply Grew.drew | apply Grew.drewN)), Lib.hid rfl⟩
    case round =>
      obtain ⟨g, hg8, hgg, rfl, HGR, HNO⟩ := hrel
      by_cases hlt : g < l.length
      · have hlt2 : g < m.length := by have := HLEN.out; omega
        obtain ⟨av, cv, e, -, hx⟩ := EntsAt.open6 (HV.out.grew HGR.out)
        cases e
        obtain ⟨av2, cv2, e, -, hx2⟩ := EntsAt.open6 (HU.out.grew HGR.out)
        cases e
        obtain ⟨b, off, rfl, hb, c0, c1, c2, c3, c4, c5⟩ := hx g hlt
        obtain ⟨b2, off2, rfl, hb2, d0, d1, d2, d3, d4, d5⟩ := hx2 g hlt2
        have hs := take_eq_succ hlt hlt2 HNO.out
        have hf := neq_at hlt hlt2
        have HS := Lib.hid hs
        have HF := Lib.hid hf
        clear hx hx2 hs hf
        generalize l[g] = x at *
        generalize m[g] = y at *
        obtain ⟨nd, ky, ⟨p0, q0⟩, ⟨p1, q1⟩⟩ := x
        obtain ⟨nd', ky', ⟨p0', q0'⟩, ⟨p1', q1'⟩⟩ := y
        simp only at c0 c1 c2 c3 c4 c5 d0 d1 d2 d3 d4 d5
        by_cases hr : nd = nd' ∧ ky = ky' ∧ p0 = p0' ∧ q0 = q0' ∧ p1 = p1' ∧ q1 = q1'
        · obtain ⟨rfl, rfl, rfl, rfl, rfl, rfl⟩ := hr
          have hq := run_neq_Ens nd ky p0 q0 p1 q1 nd ky p0 q0 p1 q1 false (by simp)
          go_upto_region 6 with fail
          go_quiet (fail)
          go_wp2
          go_roundg (l.length - (g + 1))
          case measure => omega
          case rel => exact ⟨g + 1, by omega, by omega, by go_num, Lib.hid (HGR.out.trans (by repeat (first | with_reducible exact Grew.refl _ | apply Grew.more | apply Grew.alloc | apply Grew.drew | apply Grew.drewN))), Lib.hid (HS.out (by first | exact rfl | trivial))⟩
        · have HFIN := Lib.hid (decide_eq_false (HF.out (fun e => hr (by cases e; exact ⟨rfl, rfl, rfl, rfl, rfl, rfl⟩))))
          have hq := run_neq_Ens nd ky p0 q0 p1 q1 nd' ky' p0' q0' p1' q1' true (by rw [decide_eq_false hr]; rfl)
          clear hr
          go_upto_region 6 with fail
          go_quiet (fail)
          go_wp2
          go_ret
          exact ⟨by rw [HFIN.out]; rfl, HGR.out.trans (by repeat (first | with_reducible exact Grew.refl _ | apply Grew.more | apply Grew.alloc | apply Grew.drew | apply Grew.drewN))⟩
      · obtain rfl : g = l.length := by omega
        have hz := HNO.out
        rw [List.take_length, List.take_of_length_le (by have := HLEN.out; omega)] at hz
        have HFIN := Lib.hid (decide_eq_true hz)
        clear hz
        go_wp2
        go_ret
        exact ⟨by rw [HFIN.out]; rfl, HGR.out⟩
  · have hD2 : ((l.length : Int) != (m.length : Int)) = true := by rw [bne_iff_ne]; omega
    have HFIN := Lib.hid (decide_eq_false (fun h : l = m => hlen (by rw [h])))
    clear hlen
    go_enter Tryz.func21, Tryz.ntmps21
    go_wp2
    go_ret
    exact ⟨by rw [HFIN.out]; rfl, by repeat (first | with_reducible exact Grew.refl _ | apply Grew.more | apply Grew.alloc | apply Grew.drew | apply Grew.drewN)⟩
open Classical in
set_option maxHeartbeats 4000000 in
theorem refRecs07_any (v u : Value) (l m : List Rc) (w : World) (hv : RecsAt w v l) (hu : RecsAt w u m) : Calls Tryz.prog 20 #[v, u] w (Gives (.bool (decide (l = m))) w) := by
  have HV := Lib.hid hv
  have HU := Lib.hid hu
  obtain ⟨a, cap, rfl, hm, -⟩ := RecsAt.open3 hv
  obtain ⟨a2, cap2, rfl, hm2, -⟩ := RecsAt.open3 hu
  clear hv hu
  by_cases hlen : l.length = m.length
  · have hD2 : ((l.length : Int) != (m.length : Int)) = false := by rw [hlen]; simp
    have HLEN := Lib.hid hlen
    clear hlen
    go_enter Tryz.func20, Tryz.ntmps20
    go_wp2
    go_loopg [5] l.length (fun gg s5 wr => ∃ g : Nat, g ≤ l.length ∧ l.length - g ≤ gg ∧ s5 = .int .i64 g ∧ Hid (Grew w wr) ∧ Hid (l.take g = m.take g))
    case atStart => exact ⟨0, by omega, by omega, rfl, Lib.hid (by repeat (first | with_reducible exact Grew.refl _ | apply Grew.more | apply Grew.alloc | apply Grew.drew | apply Grew.drewN)), Lib.hid rfl⟩
    case round =>
      obtain ⟨g, hg8, hgg, rfl, HGR, HNO⟩ := hrel
      by_cases hlt : g < l.length
      · have hlt2 : g < m.length := by have := HLEN.out; omega
        obtain ⟨av, cv, e, -, hx⟩ := RecsAt.open3 (HV.out.grew HGR.out)
        cases e
        obtain ⟨av2, cv2, e, -, hx2⟩ := RecsAt.open3 (HU.out.grew HGR.out)
        cases e
        obtain ⟨b, off, rfl, hb, c0, c1, c2⟩ := hx g hlt
        obtain ⟨b2, off2, rfl, hb2, d0, d1, d2⟩ := hx2 g hlt2
        have hs := take_eq_succ hlt hlt2 HNO.out
        have hf := neq_at hlt hlt2
        have HS := Lib.hid hs
        have HF := Lib.hid hf
        clear hx hx2 hs hf
        generalize l[g] = x at *
        generalize m[g] = y at *
        obtain ⟨ky, ⟨p0, q0⟩⟩ := x
        obtain ⟨ky', ⟨p0', q0'⟩⟩ := y
        simp only at c0 c1 c2 d0 d1 d2
        by_cases hr : ky = ky' ∧ p0 = p0' ∧ q0 = q0'
        · obtain ⟨rfl, rfl, rfl⟩ := hr
          have hq := run_neq_Rec ky p0 q0 ky p0 q0 false (by simp)
          go_upto_region 6 with fail
          go_quiet (fail)
          go_wp2
          go_roundg (l.length - (g + 1))
          case measure => omega
          case rel => exact ⟨g + 1, by omega, by omega, by go_num, Lib.hid (HGR.out.trans (by repeat (first | with_reducible exact Grew.refl _ | apply Grew.more | apply Grew.alloc | apply Grew.drew | apply Grew.drewN))), Lib.hid (HS.out (by first | exact rfl | trivial))⟩
        · have HFIN := Lib.hid (decide_eq_false (HF.out (fun e => hr (by cases e; exact ⟨rfl, rfl, rfl⟩))))
          have hq := run_neq_Rec ky p0 q0 ky' p0' q0' true (by rw [decide_eq_false hr]; rfl)
          clear hr
          go_upto_region 6 with fail
          go_quiet (fail)
          go_wp2
          go_ret
          exact ⟨by rw [HFIN.out]; rfl, HGR.out.trans (by repeat (first | with_reducible exact Grew.refl _ | apply Grew.more | apply Grew.alloc | apply Grew.drew | apply Grew.drewN))⟩
      · obtain rfl : g = l.length := by omega
        have hz := HNO.out
        rw [List.take_length, List.take_of_length_le (by have := HLEN.out; omega)] at hz
        have HFIN := Lib.hid (decide_eq_true hz)
        clear hz
        go_wp2
        go_ret
        exact ⟨by rw [HFIN.out]; rfl, HGR.out⟩
  · have hD2 : ((l.length : Int) != (m.length : Int)) = true := by rw [bne_iff_ne]; omega
    have HFIN := Lib.hid (decide_eq_false (fun h : l = m => hlen (by rw [h])))
    clear hlen
    go_enter Tryz.func20, Tryz.ntmps20
    go_wp2
    go_ret
    exact ⟨by rw [HFIN.out]; rfl, by repeat (first | with_reducible exact Grew.refl _ | apply Grew.more | apply Grew.alloc | apply Grew.drew | apply Grew.drewN)⟩
end Go.Proofs.YtmdmbimfdpngaaaGreatDoor

/-! The law CodeTexts, walked. -/
namespace Go.Proofs.YtmdmbimfdpngaaaGreatDoor
set_option linter.unusedSimpArgs false
set_option linter.unusedVariables false
open Go.RowKit Ga
set_option maxRecDepth 100000

/-- What the library's tables hold, at layer 4. -/
structure Env4 (w : World) : Prop where
  m : CellM w
  e : Errs w
  p : Pow w
  a : Asc w
theorem Env4.grew {w w' : World} (h : Env4 w) (g : Grew w w') : Env4 w' := ⟨h.m.grew g, h.e.grew g, h.p.grew g, h.a.grew g⟩
theorem codeParse_env (l : List UInt8) (hs : l.length ≤ 1000000) (w : World) (h : Env4 w) :
    Calls Tryz.prog 44 #[.string ⟨l.toArray⟩] w (fun e w' => ∃ v, e = .returned (.tuple #[v, .int .i64 (Co.parseI l).2]) ∧ ValsAt w' v (Co.parseI l).1 ∧ Grew w w') :=
  codeParse_any l hs w h.m h.e h.p h.a

end Go.Proofs.YtmdmbimfdpngaaaGreatDoor

/-! The document's example of layer 6; the law VmEach, walked. -/
namespace Go.Proofs.YtmdmbimfdpngaaaGreatDoor
set_option linter.unusedSimpArgs false
set_option linter.unusedVariables false
open Go.RowKit Ga
set_option maxRecDepth 100000

def awake6S : List UInt8 := [73, 78, 59, 32, 76, 79, 65, 68, 32, 48, 59, 32, 65, 68, 68, 59, 32, 68, 85, 80, 59, 32, 83, 84, 79, 82, 69, 32, 48, 59, 32, 69, 77, 73, 84]
theorem awake6_text : Co.textI Vm.exP = awake6S := by decide +kernel
theorem awake6_fits : Co.fitsI Vm.exP = true := by decide
theorem awake6_parse : Co.parseI awake6S = (Vm.exP, 0) := by rw [← awake6_text]; exact Co.parse_text awake6_fits
theorem EachGives.coded {l : List Val} {c0 c1 : Val} {ins : List Val} {w w' : World} {ao : Option Addr} {no co : Nat} {n1 n2 n3 n4 n5 err : Int} (h : EachGives l c0 c1 ins w (.returned (.tuple #[.agg #[.slice ao no co, .int .i64 n1, .int .i64 n2, .int .i64 n3, .int .i64 n4, .int .i64 n5], .int .i64 err])) w') :
    err = Vm.codeOf l c0 c1 ins ∧ (err ≠ 0 → no = 0 ∧ n5 = 0) ∧ (err = 0 → OwnAt w.heap.size 47 2 encI w' (.slice ao no co) (Vm.each l ⟨[], c0, c1, 0⟩ ins).out ∧ n1 = (Vm.each l ⟨[], c0, c1, 0⟩ ins).c0.1 ∧ n2 = (Vm.each l ⟨[], c0, c1, 0⟩ ins).c0.2 ∧ n3 = (Vm.each l ⟨[], c0, c1, 0⟩ ins).c1.1 ∧ n4 = (Vm.each l ⟨[], c0, c1, 0⟩ ins).c1.2 ∧ n5 = (Vm.each l ⟨[], c0, c1, 0⟩ ins).steps) := by
  obtain ⟨_, h⟩ := h
  unfold Vm.codeOf
  split at h
  · rename_i hs
    rw [if_pos hs]
    unfold zeroR at h
    cases h
    exact ⟨rfl, fun _ => ⟨rfl, rfl⟩, fun h => by cases h⟩
  · rename_i hs
    rw [if_neg hs]
    split at h
    · rename_i hr
      rw [if_pos hr]
      unfold zeroR at h
      cases h
      exact ⟨rfl, fun _ => ⟨rfl, rfl⟩, fun h => by cases h⟩
    · rename_i hr
      rw [if_neg hr]
      obtain ⟨vo, he, ho⟩ := h
      unfold resV start0 at he
      cases he
      exact ⟨rfl, fun h => absurd rfl h, fun _ => ⟨ho, rfl, rfl, rfl, rfl, rfl⟩⟩

end Go.Proofs.YtmdmbimfdpngaaaGreatDoor

/-! What no run exceeds: plain laws. -/
namespace Vm
set_option linter.unusedSimpArgs false
set_option linter.unusedVariables false
open Ga

/-! ### the steps -/
/-! ### what is put out is right -/
theorem effect_out (inp : Val) (i : Ins) (s : St) : (effect inp i s).out = s.out ∨ (i.1 = 14 ∧ (effect inp i s).out = s.out ++ [top1 s]) := by
  obtain ⟨o, a⟩ := i
  unfold effect
  dsimp only
  by_cases h1 : o = 1
  · rw [if_pos h1]; exact .inl rfl
  rw [if_neg h1]
  by_cases h2 : o = 2
  · rw [if_pos h2]; exact .inl rfl
  rw [if_neg h2]
  by_cases h3 : o = 3
  · rw [if_pos h3]; exact .inl rfl
  rw [if_neg h3]
  by_cases h4 : o = 4
  · rw [if_pos h4]; exact .inl rfl
  rw [if_neg h4]
  by_cases h5 : o = 5
  · rw [if_pos h5]; exact .inl (setCellAt_steps ..).2
  rw [if_neg h5]
  by_cases h15 : o = 15
  · rw [if_pos h15]; left; split <;> rfl
  rw [if_neg h15]
  by_cases h16 : o = 16
  · rw [if_pos h16]; exact .inl rfl
  rw [if_neg h16]
  by_cases h6 : o = 6 ∨ o = 7 ∨ o = 8 ∨ o = 17
  · rw [if_pos h6]; exact .inl rfl
  rw [if_neg h6]
  by_cases h9 : o = 9
  · rw [if_pos h9]; exact .inl rfl
  rw [if_neg h9]
  by_cases h10 : o = 10
  · rw [if_pos h10]; exact .inl rfl
  rw [if_neg h10]
  by_cases h11 : o = 11
  · rw [if_pos h11]; exact .inl rfl
  rw [if_neg h11]
  by_cases h12 : o = 12
  · rw [if_pos h12]; exact .inl rfl
  rw [if_neg h12]
  by_cases h14 : o = 14
  · rw [if_pos h14]; exact .inr ⟨h14, rfl⟩
  rw [if_neg h14]
  exact .inl rfl
/-! ### the cells of a program that stores nothing -/
/-! ### no more than four are put out -/
theorem come_emits_other {n : Nat} {s : Cst} {k : Nat} {d e : Int} {j : Nat} (h : j ≠ k) : (come n s k d e).1.emits.getD j 0 = s.emits.getD j 0 := by
  unfold come
  split
  · rfl
  split
  · rfl
  split
  · rfl
  · show (s.emits.set k _).getD j 0 = _
    rw [getD_set, if_neg fun x => h x.1]
theorem come_emits_le {n : Nat} {s : Cst} {k : Nat} {d e : Int} {j : Nat} : s.emits.getD j 0 ≤ (come n s k d e).1.emits.getD j 0 := by
  unfold come
  split
  · exact Int.le_refl _
  split
  · exact Int.le_refl _
  split
  · exact Int.le_refl _
  · show _ ≤ (s.emits.set k _).getD j 0
    rw [getD_set]
    split
    · rename_i h; rw [h.1]; omega
    · exact Int.le_refl _
theorem come_emits_set {n : Nat} {s : Cst} {k : Nat} {d e : Int} (hb : (come n s k d e).2 = true) (hk : k < n) (hl : s.emits.length = n) : e ≤ (come n s k d e).1.emits.getD k 0 := by
  unfold come at hb ⊢
  split at hb
  · cases hb
  split at hb
  · omega
  split at hb
  · cases hb
  · rename_i h1 h2 h3
    rw [if_neg h1, if_neg h2, if_neg h3]
    show e ≤ (s.emits.set k _).getD k 0
    rw [getD_set, if_pos ⟨rfl, by omega⟩]
    omega
theorem come_ok {n : Nat} {s : Cst} {k : Nat} {d e : Int} (hb : (come n s k d e).2 = true) : e ≤ 4 := by
  unfold come at hb
  split at hb
  · cases hb
  · omega
theorem come_elen (n : Nat) (s : Cst) (k : Nat) (d e : Int) : (come n s k d e).1.emits.length = s.emits.length := by
  unfold come
  split
  · rfl
  split
  · rfl
  split
  · rfl
  · exact List.length_set ..
theorem comes_elen (n : Nat) (d e : Int) : ∀ (l : List Nat) (s : Cst), (comes n d e l s).1.emits.length = s.emits.length
  | [], s => rfl
  | k :: l, s => by
    rw [comes]; split
    · exact (comes_elen n d e l _).trans (come_elen ..)
    · exact come_elen ..
theorem comes_emits_le {n : Nat} {d e : Int} {j : Nat} : ∀ (l : List Nat) (s : Cst), s.emits.getD j 0 ≤ (comes n d e l s).1.emits.getD j 0
  | [], s => Int.le_refl _
  | k :: l, s => by
    rw [comes]; split
    · exact Int.le_trans come_emits_le (comes_emits_le l _)
    · exact come_emits_le
theorem comes_emits_low {n : Nat} {d e : Int} {j : Nat} : ∀ (l : List Nat) (s : Cst), (∀ k ∈ l, j < k) → (comes n d e l s).1.emits.getD j 0 = s.emits.getD j 0
  | [], s, _ => rfl
  | k :: l, s, h => by
    have hk := h k (List.mem_cons_self ..)
    rw [comes]; split
    · exact (comes_emits_low l _ fun a ha => h a (List.mem_cons_of_mem _ ha)).trans (come_emits_other (by omega))
    · exact come_emits_other (by omega)
theorem comes_emits_set {n : Nat} {d e : Int} : ∀ (l : List Nat) (s : Cst), s.emits.length = n → (comes n d e l s).2 = true → ∀ k ∈ l, e ≤ 4 ∧ (k < n → e ≤ (comes n d e l s).1.emits.getD k 0)
  | [], s, _, _, k, hk => by cases hk
  | a :: l, s, hl, hb, k, hk => by
    rw [comes] at hb ⊢
    split at hb
    · rename_i ha
      rw [if_pos ha]
      rcases List.mem_cons.1 hk with e1 | e1
      · subst e1
        exact ⟨come_ok ha, fun hn => Int.le_trans (come_emits_set ha hn hl) (comes_emits_le l _)⟩
      · exact comes_emits_set l _ ((come_elen ..).trans hl) hb k e1
    · cases hb
theorem uses_emits (s : Cst) (i : Ins) : (uses s i).emits = s.emits := by
  unfold uses; split
  · split <;> rfl
  · rfl
theorem stepC_elen (p : List Ins) (s : Cst) (k : Nat) (i : Ins) : (stepC p s k i).1.emits.length = s.emits.length := by
  unfold stepC; split
  · rfl
  · rw [comes_elen, uses_emits]
theorem stepC_emits_le {p : List Ins} {s : Cst} {k : Nat} {i : Ins} {j : Nat} : s.emits.getD j 0 ≤ (stepC p s k i).1.emits.getD j 0 := by
  unfold stepC; split
  · exact Int.le_refl _
  · have := comes_emits_le (n := p.length) (d := s.depth.getD k (-1) - takes i.1 + leaves i.1) (e := s.emits.getD k 0 + if i.1 = 14 then 1 else 0) (j := j) (next p k i) (uses s i)
    rw [uses_emits] at this
    exact this
theorem stepC_emits_low {p : List Ins} {s : Cst} {k : Nat} {i : Ins} {j : Nat} (hk : k < p.length) (hj : j ≤ k) : (stepC p s k i).1.emits.getD j 0 = s.emits.getD j 0 := by
  unfold stepC; split
  · rfl
  · rw [comes_emits_low _ _ (fun a ha => by have := next_gt hk a ha; omega), uses_emits]
theorem goC_emits_le {p : List Ins} {c : Cst} {j : Nat} : ∀ (l : List Ins) (k : Nat) (s : Cst), goC p l k s = some c → s.emits.getD j 0 ≤ c.emits.getD j 0
  | [], _, s, h => by cases h; exact Int.le_refl _
  | i :: l, k, s, h => by
    rw [goC] at h
    split at h
    · split at h
      · exact Int.le_trans stepC_emits_le (goC_emits_le l _ _ h)
      · cases h
    · exact goC_emits_le l _ _ h
theorem goC_emits_low {p : List Ins} {c : Cst} {j : Nat} : ∀ (l : List Ins) (k : Nat) (s : Cst), goC p l k s = some c → k + l.length = p.length → j < k → c.emits.getD j 0 = s.emits.getD j 0
  | [], _, s, h, _, _ => by cases h; rfl
  | i :: l, k, s, h, hl, hj => by
    rw [List.length_cons] at hl
    rw [goC] at h
    split at h
    · split at h
      · exact (goC_emits_low l _ _ h (by omega) (by omega)).trans (stepC_emits_low (by omega) (by omega))
      · cases h
    · exact goC_emits_low l _ _ h (by omega) (by omega)
def ESound (p : List Ins) (c : Cst) (k : Nat) (i : Ins) : Prop :=
  c.depth.getD k (-1) ≠ -1 → ∀ a ∈ next p k i, c.emits.getD k 0 + (if i.1 = 14 then 1 else 0) ≤ 4 ∧ (a < p.length → c.emits.getD k 0 + (if i.1 = 14 then 1 else 0) ≤ c.emits.getD a 0)
theorem goC_esound {p : List Ins} {c : Cst} : ∀ (l : List Ins) (k : Nat) (s : Cst), goC p l k s = some c → k + l.length = p.length → s.emits.length = p.length → ∀ j i, l[j]? = some i → ESound p c (k + j) i
  | [], _, s, _, _, _, j, i, hj => by simp at hj
  | i0 :: l, k, s, h, hl, hd, j, i, hj => by
    rw [List.length_cons] at hl
    rw [goC] at h
    cases j with
    | succ j =>
      rw [List.getElem?_cons_succ] at hj
      have e : k + (j + 1) = k + 1 + j := by omega
      rw [e]
      split at h
      · split at h
        · exact goC_esound l _ _ h (by omega) ((stepC_elen ..).trans hd) j i hj
        · cases h
      · exact goC_esound l _ _ h (by omega) hd j i hj
    | zero =>
      rw [List.getElem?_cons_zero] at hj
      cases hj
      intro hk
      rw [Nat.add_zero] at hk ⊢
      split at h
      · rename_i hs
        split at h
        · rename_i hb
          have e1 : c.emits.getD k 0 = s.emits.getD k 0 := (goC_emits_low l _ _ h (by omega) (by omega)).trans (stepC_emits_low (by omega) (by omega))
          rw [e1]
          intro a ha
          have hb' := hb
          unfold stepC at hb'
          split at hb'
          · cases hb'
          · rename_i ht
            obtain ⟨h1, h2⟩ := comes_emits_set (next p k i0) (uses s i0) (by rw [uses_emits]; exact hd) hb' a ha
            refine ⟨h1, fun hal => Int.le_trans ?_ (goC_emits_le l _ _ h)⟩
            have e2 : (stepC p s k i0).1 = (comes p.length (s.depth.getD k (-1) - takes i0.1 + leaves i0.1) (s.emits.getD k 0 + if i0.1 = 14 then 1 else 0) (next p k i0) (uses s i0)).1 := by
              unfold stepC; rw [if_neg ht]
            rw [e2]
            exact h2 hal
        · cases h
      · rename_i hs
        exact absurd ((goC_low l _ _ h (by omega) (by omega)).trans (Classical.byContradiction fun x => hs x)) hk
theorem checkC_esound {p : List Ins} {c : Cst} (h : checkC p = some c) {k : Nat} {i : Ins} (hi : p[k]? = some i) : ESound p c k i := by
  unfold checkC at h
  split at h
  · have := goC_esound p 0 _ h (by omega) ((come_elen ..).trans List.length_replicate) k i hi
    rwa [Nat.zero_add] at this
  · cases h
/-- where it stands, no more has been put out than is known -/
def GoodE (p : List Ins) (c : Cst) (s : St) : Prop := s.out.length ≤ 4 ∧ (s.pc < p.length → (s.out.length : Int) ≤ c.emits.getD s.pc 0)
theorem goodE_effect {p : List Ins} {c : Cst} (h : checkC p = some c) {s : St} (hg : Good p c s) (he : GoodE p c s) {o a : Int} (hi : p[s.pc]? = some (o, a)) (hop : 1 ≤ o ∧ o ≤ 17) (inp : Val) : GoodE p c (effect inp (o, a) (fetch s)) := by
  have hlt : s.pc < p.length := (List.getElem?_eq_some_iff.1 hi).1
  have hk := hg hlt
  have hs := checkC_esound h hi (by rw [hk]; omega)
  have h1 := he.2 hlt
  have hout : ((effect inp (o, a) (fetch s)).out.length : Int) ≤ s.out.length + (if o = 14 then 1 else 0) := by
    have e1 : (fetch s).out = s.out := rfl
    rcases effect_out inp (o, a) (fetch s) with h2 | ⟨h3, h2⟩
    · rw [h2, e1]; split <;> omega
    · rw [h2, e1, if_pos h3]; simp
  have hne : ∃ b, b ∈ next p s.pc (o, a) := by
    unfold next
    rw [if_neg (show ¬ o = 0 by omega)]
    split
    · exact ⟨_, List.mem_singleton.2 rfl⟩
    · split
      · exact ⟨_, List.mem_cons_self ..⟩
      · exact ⟨_, List.mem_singleton.2 rfl⟩
  obtain ⟨b, hb⟩ := hne
  have h4 := (hs b hb).1
  simp only at h4 hs
  refine ⟨by omega, fun hl => ?_⟩
  have hpc : (effect inp (o, a) (fetch s)).pc ∈ next p s.pc (o, a) := by
    have e := effect_pc (s := fetch s) (a := a) hop inp
    rw [fetch_pc] at e
    unfold next
    rw [if_neg (show ¬ o = 0 by omega)]
    by_cases h16 : o = 16
    · rw [if_pos h16, List.mem_singleton]
      rw [if_pos h16] at e
      show _ = min (s.pc + 1 + a.toNat) p.length
      omega
    rw [if_neg h16] at e ⊢
    by_cases h15 : o = 15
    · rw [if_pos h15] at e ⊢
      rw [List.mem_cons, List.mem_singleton]
      show _ ∨ _ = min (s.pc + 1 + a.toNat) p.length
      split at e
      · right; omega
      · left; exact e
    · rw [if_neg h15] at e ⊢
      rw [List.mem_singleton]; exact e
  have := (hs _ hpc).2 hl
  omega
theorem exec_four {p : List Ins} {c : Cst} (h : checkC p = some c) {inp : Val} : ∀ (f : Nat) (s : St), Good p c s → GoodE p c s → (exec p inp f s).out.length ≤ 4
  | 0, s, _, he => he.1
  | f + 1, s, hg, he => by
    rw [exec]
    cases e : p[s.pc]? with
    | none => exact he.1
    | some i =>
      obtain ⟨o, a⟩ := i
      simp only
      split
      · exact he.1
      · rename_i h0
        have hm := fits_op (checkC_fits h) _ (List.mem_of_getElem? e)
        simp only at hm
        have hop : 1 ≤ o ∧ o ≤ 17 := by omega
        exact exec_four h f _ (good_effect h hg e hop inp).2 (goodE_effect h hg he e hop inp)
theorem each1_four {l : List Ins} (h : safe l = true) (c0 c1 v : Val) : (each l ⟨[], c0, c1, 0⟩ [v]).out.length ≤ 4 := by
  unfold safe at h
  obtain ⟨c, hc⟩ := Option.isSome_iff_exists.1 h
  refine exec_four hc (l.length + 1) (stOf ⟨[], c0, c1, 0⟩) (fun hl => ?_) ⟨Nat.zero_le _, fun hl => ?_⟩
  · have h2 : 0 < l.length := hl
    exact checkC_zero hc h2
  · have := (checkC_inv hc).2 0
    show ((0 : Nat) : Int) ≤ c.emits.getD 0 0
    omega
end Vm
