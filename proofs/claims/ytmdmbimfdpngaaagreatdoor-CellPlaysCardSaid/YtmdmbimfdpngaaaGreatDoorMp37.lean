import Derived.Test.YtmdmbimfdpngaaaGreatDoorMp36
import Derived.Deep.RegionLaw
/-! forebayref06.Run: the two topmost values. -/
namespace Go.Proofs.YtmdmbimfdpngaaaGreatDoor
set_option linter.unusedSimpArgs false
set_option linter.unusedVariables false
open Go.RowKit Ga
set_option maxRecDepth 100000
theorem set_same_heap {W : World} {b j : Nat} {cur : Array Value} {t : TypeId} {y : Value} (hc : W.heap[b]? = some (.cells cur t)) (hy : cur[j]? = some y) (q : Nat) : (W.setCell ⟨b, j, none⟩ y).heap[q]? = W.heap[q]? := by
  by_cases hq : b = q
  · subst hq
    rw [set_self hc, hc]
    congr 2
    refine Array.ext_getElem? fun i => ?_
    rw [Array.getElem?_setIfInBounds]
    split
    · rename_i h
      subst h
      split
      · exact hy.symm
      · rename_i h
        rw [Array.getElem?_eq_none (by omega)] at hy
        cases hy
    · rfl
  · exact set_other hq
theorem RunAt.heap {w wr W : World} {b4 b5 b7 : Nat} {p q : Int} {vo vs : Value} {s : Vm.St} (h : RunAt w b4 b5 b7 p q wr vo vs s) (g : Grew w W) (hh : ∀ x : Nat, W.heap[x]? = wr.heap[x]?) : RunAt w b4 b5 b7 p q W vo vs s :=
  { h with g := g, c4 := (hh _).trans h.c4, c5 := (hh _).trans h.c5, c7 := (hh _).trans h.c7, o := h.o.same fun x _ => hh x, k := h.k.same fun x _ => hh x }
/-- one cell alone -/
theorem RunAt.setS1 {w wr : World} {b4 b5 b7 : Nat} {p q : Int} {vo : Value} {s : Vm.St} {b n cap j : Nat} (h : RunAt w b4 b5 b7 p q wr vo (.slice (some ⟨b, 0, none⟩) n cap) s) (hj : j < s.stack.length) (x y : Int) (hy : wr.cell? ⟨b, j * 2 + 1, none⟩ = some (.int .i64 y)) :
    RunAt w b4 b5 b7 p q (wr.setCell ⟨b, j * 2, none⟩ (.int .i64 x)) vo (.slice (some ⟨b, 0, none⟩) n cap) { s with stack := s.stack.set j (x, y) } := by
  obtain ⟨hbb, c, hc⟩ := h.k.block rfl
  refine (h.setS hj x y).heap (h.g.set hbb _) fun r => (set_same_heap (set_self hc) ?_ r).symm
  rw [cell_of hc] at hy
  rw [Array.getElem?_setIfInBounds, if_neg (by omega)]
  exact hy
/-- nought, then one -/
theorem RunAt.setOne {w W : World} {b4 b5 b7 : Nat} {p q : Int} {vo : Value} {s : Vm.St} {b n cap j : Nat} (h : RunAt w b4 b5 b7 p q W vo (.slice (some ⟨b, 0, none⟩) n cap) s) (hj : j < s.stack.length) :
    RunAt w b4 b5 b7 p q (((W.setCell ⟨b, j * 2, none⟩ (.int .i64 0)).setCell ⟨b, j * 2 + 1, none⟩ (.int .i64 0)).setCell ⟨b, j * 2, none⟩ (.int .i64 1)) vo (.slice (some ⟨b, 0, none⟩) n cap) { s with stack := s.stack.set j (1, 0) } := by
  have hr := h.k.rows encI_len
  obtain ⟨a', c', e1, _, hx⟩ := RowsAt.open2 (f := fun a : Val => Value.int .i64 a.1) (g := fun a : Val => Value.int .i64 a.2) hr
  cases e1
  obtain ⟨b', off, e2, hb, h0, h1⟩ := hx j hj
  cases e2
  simp only [Nat.zero_add] at h1
  obtain ⟨_, c, hc⟩ := h.k.block rfl
  rw [cell_of hc] at h1
  have hlt : j * 2 + 1 < c.size := (Array.getElem?_eq_some_iff.1 h1).1
  have h2 := (h.setS hj 0 0).setS1 (j := j) (by show j < (s.stack.set j _).length; rw [List.length_set]; exact hj) 1 0 (by
    rw [cell_of (set_self (set_self hc)), Array.getElem?_setIfInBounds, if_pos rfl, if_pos (by rw [Array.size_setIfInBounds]; exact hlt)])
  have h3 : (s.stack.set j ((0, 0) : Val)).set j (1, 0) = s.stack.set j (1, 0) := List.set_set ..
  exact h2.to rfl rfl rfl h3.symm

set_option maxHeartbeats 8000000 in
theorem op11_12 (l : List Val) (c : Vm.Cst) (s0 s : Vm.St) (w wr : World) (a : Option Addr) (cap b4 b5 b7 : Nat) (p q y : Int) (u : Nat → Value) (vo vs : Value) (K : Act → World → Prop) (Q : Exit → Act → World → Prop)
    (hv : ValsAt w (.slice a l.length cap) l) (hc : Vm.checkC l = some c) (hin : rightV (p, q) = true) (hR : RunAt w b4 b5 b7 p q wr vo vs s) (hA : Vm.At l c (p, q) s0 s) (hS : Vm.AllRight s)
    (u9 : u 9 = vo) (u10 : u 10 = vs) (u11 : u 11 = .int .i64 s.steps) (u12 : u 12 = .int .i64 s.pc) (hs0 : 0 ≤ s.steps ∧ s.steps ≤ 1000) (hout : s.out.length ≤ 1000)
    (hi : l[s.pc]? = some ((12, y) : Val)) (hK : ∀ (a' : Act) (w' : World), (∃ n, n < 60 - s.pc ∧ Next11 l c s0 w (.slice a l.length cap) b4 b5 b7 p q n a' w') → K a' w')
    (hX : ∀ (a' : Act) (w' : World), End11 l s0 w (.slice a l.length cap) b4 b5 b7 p q a' w' → Q (.exit 0) a' w') :
    Code.wp Tryz.prog ((Tryz.f57.body.bind firstLoop).getD .skip) (Exit.then K Q) (frame11 (.slice a l.length cap) b4 b5 b7 u) wr := by
  have hlt : s.pc < l.length := (List.getElem?_eq_some_iff.1 hi).1
  conv => arg 2; whnf
  unfold frame11
  rw [u9, u10, u11, u12]
  obtain ⟨b, off, rfl, hb, h0, h1⟩ := ((hv.grew hR.g).open2).elim fun a' h => h.elim fun c' h => by
    obtain ⟨e, -, hx⟩ := h
    cases e
    exact hx s.pc hlt
  have hl2 := hi
  rw [List.getElem?_eq_getElem hlt] at hl2
  have hl3 := Option.some.inj hl2
  rw [hl3] at h0 h1
  simp only at h0 h1
  have h24 := (Co.fits_parts (Vm.checkC_fits hc)).1
  have hra := Vm.right_parts' hc hi
  obtain ⟨ak, ck, rfl⟩ := own_sliceL hR.k
  have h8 := hA.len hc hlt
  have htk : ((12, y) : Val).1 ≠ 0 → Vm.takes ((12, y) : Val).1 ≤ s.stack.length := fun hx => (hA.next hc hi hx).1
  have HTK := Lib.hid htk
  have HR := Lib.hid hR
  have HA := Lib.hid hA
  have HS := Lib.hid hS
  have HI := Lib.hid hi
  have HK := Lib.hid hK
  have HX := Lib.hid hX
  have HC := Lib.hid hc
  clear hR hA hS hi hl2 hl3 hv hc u9 u10 u11 u12 hK hX htk
  have ht1 : 2 ≤ s.stack.length := Nat.le_trans (show 2 ≤ Vm.takes 12 by decide) (HTK.out (show (12 : Int) ≠ 0 by decide))
  obtain ⟨m, hm⟩ : ∃ m, s.stack.length = m + 2 := ⟨s.stack.length - 2, by omega⟩
  obtain ⟨bk, ck', hk', hck, hhk, kr0, kr1, kt0, kt1⟩ := ownI_two HR.out.k hm
  cases hk'
  have pk := Pre.mk hhk
  have h8' : m ≤ 6 := by omega
  have HM := Lib.hid hm
  have hrt := HS.out.top
  have hru := HS.out.pop.top
  have hrm := HR.out
  rw [hm] at hrm
  have HR := Lib.hid hrm
  clear hhk ht1 hrm
  generalize htt : Vm.top1 s = tt at *
  generalize huu : Vm.top1 (Vm.pop1 s) = uu at *
  have HTT := Lib.hid htt
  have HUU := Lib.hid huu
  have HRT := Lib.hid hrt
  have HRU := Lib.hid hru
  clear htt huu hrt hru
  obtain ⟨tx, ty⟩ := tt
  obtain ⟨rx, ry⟩ := uu
  simp only at kt0 kt1 kr0 kr1
  obtain ⟨_, cb, hcb⟩ := HR.out.k.block rfl
  have ks0 : ∀ (N : Nat) (R : Array Obj) (k : Nat), ((wr.drewN N).more R k).cell? ⟨bk, m * 2, none⟩ = some (.int .i64 rx) := fun N R k => (cell_of (grew_heap (by repeat (first | with_reducible exact Grew.refl _ | apply Grew.more | apply Grew.alloc | apply Grew.drew | apply Grew.drewN)) hcb)).trans ((cell_of hcb).symm.trans kr0)
  have ks1 : ∀ (N : Nat) (R : Array Obj) (k : Nat), ((wr.drewN N).more R k).cell? ⟨bk, m * 2 + 1, none⟩ = some (.int .i64 ry) := fun N R k => (cell_of (grew_heap (by repeat (first | with_reducible exact Grew.refl _ | apply Grew.more | apply Grew.alloc | apply Grew.drew | apply Grew.drewN)) hcb)).trans ((cell_of hcb).symm.trans kr1)
  have ks2 : ∀ (N : Nat) (R : Array Obj) (k : Nat), ((wr.drewN N).more R k).cell? ⟨bk, (m + 1) * 2, none⟩ = some (.int .i64 tx) := fun N R k => (cell_of (grew_heap (by repeat (first | with_reducible exact Grew.refl _ | apply Grew.more | apply Grew.alloc | apply Grew.drew | apply Grew.drewN)) hcb)).trans ((cell_of hcb).symm.trans kt0)
  have ks3 : ∀ (N : Nat) (R : Array Obj) (k : Nat), ((wr.drewN N).more R k).cell? ⟨bk, (m + 1) * 2 + 1, none⟩ = some (.int .i64 ty) := fun N R k => (cell_of (grew_heap (by repeat (first | with_reducible exact Grew.refl _ | apply Grew.more | apply Grew.alloc | apply Grew.drew | apply Grew.drewN)) hcb)).trans ((cell_of hcb).symm.trans kt1)
  have kf0 : ∀ (N : Nat) (R : Array Obj) (k : Nat) (j : Nat), ((wr.drewN N).more R k).frozen? ⟨bk, j, none⟩ = false := fun N R k j => frozen_of (grew_heap (by repeat (first | with_reducible exact Grew.refl _ | apply Grew.more | apply Grew.alloc | apply Grew.drew | apply Grew.drewN)) hcb)
  have kf1 : ∀ (N : Nat) (j : Nat), (wr.drewN N).frozen? ⟨bk, j, none⟩ = false := fun N j => frozen_of (grew_heap (by repeat (first | with_reducible exact Grew.refl _ | apply Grew.more | apply Grew.alloc | apply Grew.drew | apply Grew.drewN)) hcb)
  have kf2 : ∀ (j : Nat), wr.frozen? ⟨bk, j, none⟩ = false := fun j => frozen_of hcb
  clear hcb
  have hiw1 : IntKind.i64.wrap ((m : Int) + 2 - 2) = (m : Int) := by rw [IntWalk.i64_in _ (by omega)]; omega
  have hiw2 : IntKind.i64.wrap ((m : Int) + 2 - 1) = (m : Int) + 1 := by rw [IntWalk.i64_in _ (by omega)]; omega
  have hiw3 : (m : Int) < (m : Int) + 2 := by omega
  have hiw4 : (m : Int) + 1 < (m : Int) + 2 := by omega
  have hiw5 : IntKind.i64.wrap (m : Int) = (m : Int) := IntWalk.i64_in _ (by omega)
  have hiw6 : IntKind.i64.wrap ((m : Int) + 1) = (m : Int) + 1 := IntWalk.i64_in _ (by omega)
  have hiw7 : ((m : Int) + 1).toNat = m + 1 := by omega
  have hiw8 : (0 : Int) ≤ (m : Int) + 1 := by omega
  have hiw9 : (m : Int) + 1 ≤ (ck : Int) := by omega
  go_upto_region 6 with fail
  go_quiet (fail)
  clear h0 h1 hra
  go_upto_region 39 with fail
  have hne1 : m * 2 ≠ (m + 1) * 2 := by omega
  have hne2 : m * 2 + 1 ≠ (m + 1) * 2 := by omega
  have hne3 : m * 2 ≠ (m + 1) * 2 + 1 := by omega
  have hne4 : m * 2 + 1 ≠ (m + 1) * 2 + 1 := by omega
  refine wp_region_noPanic ?_
  go_region
  all_goals
    refine NoPanic.normal ?_
    go_wp2
    exact HK.out _ _ (Next11.step HC.out HA.out HS.out hin HI.out (by decide) rfl rfl (by show Value.int _ _ = Value.int _ _; go_num) ((((HR.out.grew (by repeat (first | with_reducible exact Grew.refl _ | apply Grew.more | apply Grew.alloc | apply Grew.drew | apply Grew.drewN))).setS (j := m) (by rw [HM.out]; omega) tx ty).setS (j := m + 1) (by show m + 1 < (s.stack.set m _).length; rw [List.length_set, HM.out]; omega) rx ry).to rfl rfl rfl (by show (Vm.effect _ _ _).stack = (s.stack.set m _).set (m + 1) _; rw [set_swap HM.out, ← HUU.out, ← HTT.out]; rfl)))

set_option maxHeartbeats 8000000 in
theorem op11_17n (l : List Val) (c : Vm.Cst) (s0 s : Vm.St) (w wr : World) (a : Option Addr) (cap b4 b5 b7 : Nat) (p q y : Int) (u : Nat → Value) (vo vs : Value) (K : Act → World → Prop) (Q : Exit → Act → World → Prop)
    (hv : ValsAt w (.slice a l.length cap) l) (hc : Vm.checkC l = some c) (hin : rightV (p, q) = true) (hR : RunAt w b4 b5 b7 p q wr vo vs s) (hA : Vm.At l c (p, q) s0 s) (hS : Vm.AllRight s)
    (u9 : u 9 = vo) (u10 : u 10 = vs) (u11 : u 11 = .int .i64 s.steps) (u12 : u 12 = .int .i64 s.pc) (hs0 : 0 ≤ s.steps ∧ s.steps ≤ 1000) (hout : s.out.length ≤ 1000)
    (hi : l[s.pc]? = some ((17, y) : Val)) (hK : ∀ (a' : Act) (w' : World), (∃ n, n < 60 - s.pc ∧ Next11 l c s0 w (.slice a l.length cap) b4 b5 b7 p q n a' w') → K a' w')
    (hz : ¬ (Vm.top1 (Vm.pop1 s)).1 < (Vm.top1 s).1)
    (hX : ∀ (a' : Act) (w' : World), End11 l s0 w (.slice a l.length cap) b4 b5 b7 p q a' w' → Q (.exit 0) a' w') :
    Code.wp Tryz.prog ((Tryz.f57.body.bind firstLoop).getD .skip) (Exit.then K Q) (frame11 (.slice a l.length cap) b4 b5 b7 u) wr := by
  have hlt : s.pc < l.length := (List.getElem?_eq_some_iff.1 hi).1
  conv => arg 2; whnf
  unfold frame11
  rw [u9, u10, u11, u12]
  obtain ⟨b, off, rfl, hb, h0, h1⟩ := ((hv.grew hR.g).open2).elim fun a' h => h.elim fun c' h => by
    obtain ⟨e, -, hx⟩ := h
    cases e
    exact hx s.pc hlt
  have hl2 := hi
  rw [List.getElem?_eq_getElem hlt] at hl2
  have hl3 := Option.some.inj hl2
  rw [hl3] at h0 h1
  simp only at h0 h1
  have h24 := (Co.fits_parts (Vm.checkC_fits hc)).1
  have hra := Vm.right_parts' hc hi
  obtain ⟨ak, ck, rfl⟩ := own_sliceL hR.k
  have h8 := hA.len hc hlt
  have htk : ((17, y) : Val).1 ≠ 0 → Vm.takes ((17, y) : Val).1 ≤ s.stack.length := fun hx => (hA.next hc hi hx).1
  have HTK := Lib.hid htk
  have HR := Lib.hid hR
  have HA := Lib.hid hA
  have HS := Lib.hid hS
  have HI := Lib.hid hi
  have HK := Lib.hid hK
  have HX := Lib.hid hX
  have HC := Lib.hid hc
  clear hR hA hS hi hl2 hl3 hv hc u9 u10 u11 u12 hK hX htk
  have ht1 : 2 ≤ s.stack.length := Nat.le_trans (show 2 ≤ Vm.takes 17 by decide) (HTK.out (show (17 : Int) ≠ 0 by decide))
  obtain ⟨m, hm⟩ : ∃ m, s.stack.length = m + 2 := ⟨s.stack.length - 2, by omega⟩
  obtain ⟨bk, ck', hk', hck, hhk, kr0, kr1, kt0, kt1⟩ := ownI_two HR.out.k hm
  cases hk'
  have pk := Pre.mk hhk
  have h8' : m ≤ 6 := by omega
  have HM := Lib.hid hm
  have hrt := HS.out.top
  have hru := HS.out.pop.top
  have hrm := HR.out
  rw [hm] at hrm
  have HR := Lib.hid hrm
  clear hhk ht1 hrm
  generalize htt : Vm.top1 s = tt at *
  generalize huu : Vm.top1 (Vm.pop1 s) = uu at *
  have HTT := Lib.hid htt
  have HUU := Lib.hid huu
  have HRT := Lib.hid hrt
  have HRU := Lib.hid hru
  clear htt huu hrt hru
  obtain ⟨tx, ty⟩ := tt
  obtain ⟨rx, ry⟩ := uu
  simp only at kt0 kt1 kr0 kr1
  obtain ⟨_, cb, hcb⟩ := HR.out.k.block rfl
  have ks0 : ∀ (N : Nat) (R : Array Obj) (k : Nat), ((wr.drewN N).more R k).cell? ⟨bk, m * 2, none⟩ = some (.int .i64 rx) := fun N R k => (cell_of (grew_heap (by repeat (first | with_reducible exact Grew.refl _ | apply Grew.more | apply Grew.alloc | apply Grew.drew | apply Grew.drewN)) hcb)).trans ((cell_of hcb).symm.trans kr0)
  have ks1 : ∀ (N : Nat) (R : Array Obj) (k : Nat), ((wr.drewN N).more R k).cell? ⟨bk, m * 2 + 1, none⟩ = some (.int .i64 ry) := fun N R k => (cell_of (grew_heap (by repeat (first | with_reducible exact Grew.refl _ | apply Grew.more | apply Grew.alloc | apply Grew.drew | apply Grew.drewN)) hcb)).trans ((cell_of hcb).symm.trans kr1)
  have ks2 : ∀ (N : Nat) (R : Array Obj) (k : Nat), ((wr.drewN N).more R k).cell? ⟨bk, (m + 1) * 2, none⟩ = some (.int .i64 tx) := fun N R k => (cell_of (grew_heap (by repeat (first | with_reducible exact Grew.refl _ | apply Grew.more | apply Grew.alloc | apply Grew.drew | apply Grew.drewN)) hcb)).trans ((cell_of hcb).symm.trans kt0)
  have ks3 : ∀ (N : Nat) (R : Array Obj) (k : Nat), ((wr.drewN N).more R k).cell? ⟨bk, (m + 1) * 2 + 1, none⟩ = some (.int .i64 ty) := fun N R k => (cell_of (grew_heap (by repeat (first | with_reducible exact Grew.refl _ | apply Grew.more | apply Grew.alloc | apply Grew.drew | apply Grew.drewN)) hcb)).trans ((cell_of hcb).symm.trans kt1)
  have kf0 : ∀ (N : Nat) (R : Array Obj) (k : Nat) (j : Nat), ((wr.drewN N).more R k).frozen? ⟨bk, j, none⟩ = false := fun N R k j => frozen_of (grew_heap (by repeat (first | with_reducible exact Grew.refl _ | apply Grew.more | apply Grew.alloc | apply Grew.drew | apply Grew.drewN)) hcb)
  have kf1 : ∀ (N : Nat) (j : Nat), (wr.drewN N).frozen? ⟨bk, j, none⟩ = false := fun N j => frozen_of (grew_heap (by repeat (first | with_reducible exact Grew.refl _ | apply Grew.more | apply Grew.alloc | apply Grew.drew | apply Grew.drewN)) hcb)
  have kf2 : ∀ (j : Nat), wr.frozen? ⟨bk, j, none⟩ = false := fun j => frozen_of hcb
  clear hcb
  have hiw1 : IntKind.i64.wrap ((m : Int) + 2 - 2) = (m : Int) := by rw [IntWalk.i64_in _ (by omega)]; omega
  have hiw2 : IntKind.i64.wrap ((m : Int) + 2 - 1) = (m : Int) + 1 := by rw [IntWalk.i64_in _ (by omega)]; omega
  have hiw3 : (m : Int) < (m : Int) + 2 := by omega
  have hiw4 : (m : Int) + 1 < (m : Int) + 2 := by omega
  have hiw5 : IntKind.i64.wrap (m : Int) = (m : Int) := IntWalk.i64_in _ (by omega)
  have hiw6 : IntKind.i64.wrap ((m : Int) + 1) = (m : Int) + 1 := IntWalk.i64_in _ (by omega)
  have hiw7 : ((m : Int) + 1).toNat = m + 1 := by omega
  have hiw8 : (0 : Int) ≤ (m : Int) + 1 := by omega
  have hiw9 : (m : Int) + 1 ≤ (ck : Int) := by omega
  have hcv : Vm.two 17 (rx, ry) (tx, ty) = (0, 0) := (Vm.two_ref HRU.out HRT.out).trans (by show (if rx < tx then (1 : Int) else 0, (0 : Int)) = _; rw [if_neg hz])
  have HCV := Lib.hid hcv
  clear hcv
  simp only at hz
  go_upto_region 6 with fail
  go_quiet (fail)
  clear h0 h1 hra
  go_upto_region 28 with fail
  go_quiet (fail)
  go_wp2
  exact HK.out _ _ (Next11.step HC.out HA.out HS.out hin HI.out (by decide) rfl rfl (by show Value.int _ _ = Value.int _ _; go_num) ((((HR.out.grew (by repeat (first | with_reducible exact Grew.refl _ | apply Grew.more | apply Grew.alloc | apply Grew.drew | apply Grew.drewN))).setS (j := m) (by rw [HM.out]; omega) 0 0).cutS (m := m + 1) (by show m + 1 ≤ (s.stack.set m _).length; rw [List.length_set, HM.out]; omega)).to rfl rfl rfl (by show (Vm.effect _ _ _).stack = (s.stack.set m _).take (m + 1); rw [set_two HM.out, ← HCV.out, ← HUU.out, ← HTT.out]; rfl)))

set_option maxHeartbeats 8000000 in
theorem op11_17y (l : List Val) (c : Vm.Cst) (s0 s : Vm.St) (w wr : World) (a : Option Addr) (cap b4 b5 b7 : Nat) (p q y : Int) (u : Nat → Value) (vo vs : Value) (K : Act → World → Prop) (Q : Exit → Act → World → Prop)
    (hv : ValsAt w (.slice a l.length cap) l) (hc : Vm.checkC l = some c) (hin : rightV (p, q) = true) (hR : RunAt w b4 b5 b7 p q wr vo vs s) (hA : Vm.At l c (p, q) s0 s) (hS : Vm.AllRight s)
    (u9 : u 9 = vo) (u10 : u 10 = vs) (u11 : u 11 = .int .i64 s.steps) (u12 : u 12 = .int .i64 s.pc) (hs0 : 0 ≤ s.steps ∧ s.steps ≤ 1000) (hout : s.out.length ≤ 1000)
    (hi : l[s.pc]? = some ((17, y) : Val)) (hK : ∀ (a' : Act) (w' : World), (∃ n, n < 60 - s.pc ∧ Next11 l c s0 w (.slice a l.length cap) b4 b5 b7 p q n a' w') → K a' w')
    (hz : (Vm.top1 (Vm.pop1 s)).1 < (Vm.top1 s).1)
    (hX : ∀ (a' : Act) (w' : World), End11 l s0 w (.slice a l.length cap) b4 b5 b7 p q a' w' → Q (.exit 0) a' w') :
    Code.wp Tryz.prog ((Tryz.f57.body.bind firstLoop).getD .skip) (Exit.then K Q) (frame11 (.slice a l.length cap) b4 b5 b7 u) wr := by
  have hlt : s.pc < l.length := (List.getElem?_eq_some_iff.1 hi).1
  conv => arg 2; whnf
  unfold frame11
  rw [u9, u10, u11, u12]
  obtain ⟨b, off, rfl, hb, h0, h1⟩ := ((hv.grew hR.g).open2).elim fun a' h => h.elim fun c' h => by
    obtain ⟨e, -, hx⟩ := h
    cases e
    exact hx s.pc hlt
  have hl2 := hi
  rw [List.getElem?_eq_getElem hlt] at hl2
  have hl3 := Option.some.inj hl2
  rw [hl3] at h0 h1
  simp only at h0 h1
  have h24 := (Co.fits_parts (Vm.checkC_fits hc)).1
  have hra := Vm.right_parts' hc hi
  obtain ⟨ak, ck, rfl⟩ := own_sliceL hR.k
  have h8 := hA.len hc hlt
  have htk : ((17, y) : Val).1 ≠ 0 → Vm.takes ((17, y) : Val).1 ≤ s.stack.length := fun hx => (hA.next hc hi hx).1
  have HTK := Lib.hid htk
  have HR := Lib.hid hR
  have HA := Lib.hid hA
  have HS := Lib.hid hS
  have HI := Lib.hid hi
  have HK := Lib.hid hK
  have HX := Lib.hid hX
  have HC := Lib.hid hc
  clear hR hA hS hi hl2 hl3 hv hc u9 u10 u11 u12 hK hX htk
  have ht1 : 2 ≤ s.stack.length := Nat.le_trans (show 2 ≤ Vm.takes 17 by decide) (HTK.out (show (17 : Int) ≠ 0 by decide))
  obtain ⟨m, hm⟩ : ∃ m, s.stack.length = m + 2 := ⟨s.stack.length - 2, by omega⟩
  obtain ⟨bk, ck', hk', hck, hhk, kr0, kr1, kt0, kt1⟩ := ownI_two HR.out.k hm
  cases hk'
  have pk := Pre.mk hhk
  have h8' : m ≤ 6 := by omega
  have HM := Lib.hid hm
  have hrt := HS.out.top
  have hru := HS.out.pop.top
  have hrm := HR.out
  rw [hm] at hrm
  have HR := Lib.hid hrm
  clear hhk ht1 hrm
  generalize htt : Vm.top1 s = tt at *
  generalize huu : Vm.top1 (Vm.pop1 s) = uu at *
  have HTT := Lib.hid htt
  have HUU := Lib.hid huu
  have HRT := Lib.hid hrt
  have HRU := Lib.hid hru
  clear htt huu hrt hru
  obtain ⟨tx, ty⟩ := tt
  obtain ⟨rx, ry⟩ := uu
  simp only at kt0 kt1 kr0 kr1
  obtain ⟨_, cb, hcb⟩ := HR.out.k.block rfl
  have ks0 : ∀ (N : Nat) (R : Array Obj) (k : Nat), ((wr.drewN N).more R k).cell? ⟨bk, m * 2, none⟩ = some (.int .i64 rx) := fun N R k => (cell_of (grew_heap (by repeat (first | with_reducible exact Grew.refl _ | apply Grew.more | apply Grew.alloc | apply Grew.drew | apply Grew.drewN)) hcb)).trans ((cell_of hcb).symm.trans kr0)
  have ks1 : ∀ (N : Nat) (R : Array Obj) (k : Nat), ((wr.drewN N).more R k).cell? ⟨bk, m * 2 + 1, none⟩ = some (.int .i64 ry) := fun N R k => (cell_of (grew_heap (by repeat (first | with_reducible exact Grew.refl _ | apply Grew.more | apply Grew.alloc | apply Grew.drew | apply Grew.drewN)) hcb)).trans ((cell_of hcb).symm.trans kr1)
  have ks2 : ∀ (N : Nat) (R : Array Obj) (k : Nat), ((wr.drewN N).more R k).cell? ⟨bk, (m + 1) * 2, none⟩ = some (.int .i64 tx) := fun N R k => (cell_of (grew_heap (by repeat (first | with_reducible exact Grew.refl _ | apply Grew.more | apply Grew.alloc | apply Grew.drew | apply Grew.drewN)) hcb)).trans ((cell_of hcb).symm.trans kt0)
  have ks3 : ∀ (N : Nat) (R : Array Obj) (k : Nat), ((wr.drewN N).more R k).cell? ⟨bk, (m + 1) * 2 + 1, none⟩ = some (.int .i64 ty) := fun N R k => (cell_of (grew_heap (by repeat (first | with_reducible exact Grew.refl _ | apply Grew.more | apply Grew.alloc | apply Grew.drew | apply Grew.drewN)) hcb)).trans ((cell_of hcb).symm.trans kt1)
  have kf0 : ∀ (N : Nat) (R : Array Obj) (k : Nat) (j : Nat), ((wr.drewN N).more R k).frozen? ⟨bk, j, none⟩ = false := fun N R k j => frozen_of (grew_heap (by repeat (first | with_reducible exact Grew.refl _ | apply Grew.more | apply Grew.alloc | apply Grew.drew | apply Grew.drewN)) hcb)
  have kf1 : ∀ (N : Nat) (j : Nat), (wr.drewN N).frozen? ⟨bk, j, none⟩ = false := fun N j => frozen_of (grew_heap (by repeat (first | with_reducible exact Grew.refl _ | apply Grew.more | apply Grew.alloc | apply Grew.drew | apply Grew.drewN)) hcb)
  have kf2 : ∀ (j : Nat), wr.frozen? ⟨bk, j, none⟩ = false := fun j => frozen_of hcb
  clear hcb
  have hiw1 : IntKind.i64.wrap ((m : Int) + 2 - 2) = (m : Int) := by rw [IntWalk.i64_in _ (by omega)]; omega
  have hiw2 : IntKind.i64.wrap ((m : Int) + 2 - 1) = (m : Int) + 1 := by rw [IntWalk.i64_in _ (by omega)]; omega
  have hiw3 : (m : Int) < (m : Int) + 2 := by omega
  have hiw4 : (m : Int) + 1 < (m : Int) + 2 := by omega
  have hiw5 : IntKind.i64.wrap (m : Int) = (m : Int) := IntWalk.i64_in _ (by omega)
  have hiw6 : IntKind.i64.wrap ((m : Int) + 1) = (m : Int) + 1 := IntWalk.i64_in _ (by omega)
  have hiw7 : ((m : Int) + 1).toNat = m + 1 := by omega
  have hiw8 : (0 : Int) ≤ (m : Int) + 1 := by omega
  have hiw9 : (m : Int) + 1 ≤ (ck : Int) := by omega
  have hcv : Vm.two 17 (rx, ry) (tx, ty) = (1, 0) := (Vm.two_ref HRU.out HRT.out).trans (by show (if rx < tx then (1 : Int) else 0, (0 : Int)) = _; rw [if_pos hz])
  have HCV := Lib.hid hcv
  clear hcv
  simp only at hz
  go_upto_region 6 with fail
  go_quiet (fail)
  clear h0 h1 hra
  go_upto_region 28 with fail
  go_quiet (fail)
  go_wp2
  exact HK.out _ _ (Next11.step HC.out HA.out HS.out hin HI.out (by decide) rfl rfl (by show Value.int _ _ = Value.int _ _; go_num) ((((HR.out.grew (by repeat (first | with_reducible exact Grew.refl _ | apply Grew.more | apply Grew.alloc | apply Grew.drew | apply Grew.drewN))).setOne (j := m) (by rw [HM.out]; omega)).cutS (m := m + 1) (by show m + 1 ≤ (s.stack.set m _).length; rw [List.length_set, HM.out]; omega)).to rfl rfl rfl (by show (Vm.effect _ _ _).stack = (s.stack.set m _).take (m + 1); rw [set_two HM.out, ← HCV.out, ← HUU.out, ← HTT.out]; rfl)))
end Go.Proofs.YtmdmbimfdpngaaaGreatDoor
