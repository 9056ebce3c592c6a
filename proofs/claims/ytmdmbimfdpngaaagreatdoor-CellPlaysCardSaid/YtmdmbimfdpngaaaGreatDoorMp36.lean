import Derived.Test.YtmdmbimfdpngaaaGreatDoorMp34
import Derived.Deep.RegionLaw
/-! forebayref06.Run: the two topmost values. -/
namespace Go.Proofs.YtmdmbimfdpngaaaGreatDoor
set_option linter.unusedSimpArgs false
set_option linter.unusedVariables false
open Go.RowKit Ga
set_option maxRecDepth 100000
theorem ownI_two {base : Nat} {e : TypeId} {w : World} {a : Option Addr} {c m : Nat} {s : Vm.St} (h : OwnAt base e 2 encI w (.slice a s.stack.length c) s.stack) (hm : s.stack.length = m + 2) :
    ∃ b c', Value.slice a s.stack.length c = .slice (some ⟨b, 0, none⟩) s.stack.length c' ∧ m + 2 ≤ c ∧ b < w.heap.size ∧ w.cell? ⟨b, m * 2, none⟩ = some (.int .i64 (Vm.top1 (Vm.pop1 s)).1) ∧ w.cell? ⟨b, m * 2 + 1, none⟩ = some (.int .i64 (Vm.top1 (Vm.pop1 s)).2) ∧ w.cell? ⟨b, (m + 1) * 2, none⟩ = some (.int .i64 (Vm.top1 s).1) ∧ w.cell? ⟨b, (m + 1) * 2 + 1, none⟩ = some (.int .i64 (Vm.top1 s).2) := by
  have hr := h.rows encI_len
  obtain ⟨a', c', e1, _, hx⟩ := RowsAt.open2 (f := fun a : Val => Value.int .i64 a.1) (g := fun a : Val => Value.int .i64 a.2) hr
  cases e1
  obtain ⟨b, off, e2, hb, h0, h1⟩ := hx m (by omega)
  obtain ⟨b', off', e3, hb', h2, h3⟩ := hx (m + 1) (by omega)
  rw [e2] at e3
  cases e3
  have htop : s.stack[m + 1]'(by omega) = Vm.top1 s := by
    unfold Vm.top1
    rw [List.getLastD_eq_getLast?, List.getLast?_eq_getElem?, show s.stack.length - 1 = m + 1 by omega, List.getElem?_eq_getElem (show m + 1 < s.stack.length by omega)]
    rfl
  have hsec : s.stack[m]'(by omega) = Vm.top1 (Vm.pop1 s) := by
    have hl : (Vm.pop1 s).stack.length = m + 1 := by show s.stack.dropLast.length = _; rw [List.length_dropLast]; omega
    unfold Vm.top1
    rw [List.getLastD_eq_getLast?, List.getLast?_eq_getElem?, show (Vm.pop1 s).stack.length - 1 = m by omega]
    show _ = (s.stack.dropLast[m]?).getD (0, 0)
    rw [List.getElem?_dropLast, if_pos (by omega), List.getElem?_eq_getElem (show m < s.stack.length by omega)]
    rfl
  rw [htop] at h2 h3
  rw [hsec] at h0 h1
  rcases h.form with ⟨h4, h5⟩ | ⟨b2, c2, h4, _, h6, _⟩
  · rw [h5] at hm; cases hm
  · cases h4
    cases e2
    simp only [Nat.zero_add] at h0 h1 h2 h3
    exact ⟨_, _, rfl, by omega, hb, h0, h1, h2, h3⟩
theorem set_two {s : Vm.St} {m : Nat} (hm : s.stack.length = m + 2) (v : Val) : (s.stack.set m v).take (m + 1) = (Vm.pop1 (Vm.pop1 s)).stack ++ [v] := by
  show _ = s.stack.dropLast.dropLast ++ [v]
  rw [List.dropLast_eq_take, List.dropLast_eq_take, List.length_take, List.take_take, List.take_set, show m + 1 = m + 1 from rfl]
  rw [show min (min (s.stack.length - 1) s.stack.length - 1) (s.stack.length - 1) = m by omega]
  rw [List.take_succ_eq_append_getElem (show m < s.stack.length by omega), List.set_append_right _ _ (by rw [List.length_take]; omega), List.length_take, show m - min m s.stack.length = 0 by omega]
  rfl
theorem set_swap {s : Vm.St} {m : Nat} (hm : s.stack.length = m + 2) (x y : Val) : (s.stack.set m x).set (m + 1) y = (Vm.pop1 (Vm.pop1 s)).stack ++ [x] ++ [y] := by
  rw [← set_two hm x]
  have hl : (s.stack.set m x).length = m + 1 + 1 := by rw [List.length_set, hm]
  generalize s.stack.set m x = t at *
  have h1 : t = t.take (m + 1) ++ [t[m + 1]'(by omega)] := by
    rw [← List.take_succ_eq_append_getElem (show m + 1 < t.length by omega)]
    exact (List.take_of_length_le (by omega)).symm
  conv => lhs; rw [h1]
  rw [List.set_append_right _ _ (by rw [List.length_take]; omega), List.length_take, show m + 1 - min (m + 1) t.length = 0 by omega]
  rfl

set_option maxHeartbeats 8000000 in
theorem op11_6 (l : List Val) (c : Vm.Cst) (s0 s : Vm.St) (w wr : World) (a : Option Addr) (cap b4 b5 b7 : Nat) (p q y : Int) (u : Nat → Value) (vo vs : Value) (K : Act → World → Prop) (Q : Exit → Act → World → Prop)
    (hv : ValsAt w (.slice a l.length cap) l) (hc : Vm.checkC l = some c) (hin : rightV (p, q) = true) (hR : RunAt w b4 b5 b7 p q wr vo vs s) (hA : Vm.At l c (p, q) s0 s) (hS : Vm.AllRight s)
    (u9 : u 9 = vo) (u10 : u 10 = vs) (u11 : u 11 = .int .i64 s.steps) (u12 : u 12 = .int .i64 s.pc) (hs0 : 0 ≤ s.steps ∧ s.steps ≤ 1000) (hout : s.out.length ≤ 1000)
    (hi : l[s.pc]? = some ((6, y) : Val)) (hK : ∀ (a' : Act) (w' : World), (∃ n, n < 60 - s.pc ∧ Next11 l c s0 w (.slice a l.length cap) b4 b5 b7 p q n a' w') → K a' w')
    (hX : ∀ (a' : Act) (w' : World), End11 l s0 w (.slice a l.length cap) b4 b5 b7 p q a' w' → Q (.exit 0) a' w') :
    Code.wp Tryz.prog ((Tryz.f57.body.bind firstLoop).getD .skip) (Exit.then K Q) (frame11 (.slice a l.length cap) b4 b5 b7 u) wr := by
  have hlt : s.pc < l.length := (List.getElem?_eq_some_iff.1 hi).1
  conv => arg 2; whnf
  unfold frame11
  rw [u9, u10, u11, u12]
  obtain ⟨b, off, rfl, hb, h0, h1⟩ := ((hv.grew hR.g).open2).elim fun a' h => h.elim fun c' h => by
    obtain ⟨e, -, hx⟩ := h
    cases e
    exact hx s.pc hlt
  have hl2 := hi
  rw [List.getElem?_eq_getElem hlt] at hl2
  have hl3 := Option.some.inj hl2
  rw [hl3] at h0 h1
  simp only at h0 h1
  have h24 := (Co.fits_parts (Vm.checkC_fits hc)).1
  have hra := Vm.right_parts' hc hi
  obtain ⟨ak, ck, rfl⟩ := own_sliceL hR.k
  have h8 := hA.len hc hlt
  have htk : ((6, y) : Val).1 ≠ 0 → Vm.takes ((6, y) : Val).1 ≤ s.stack.length := fun hx => (hA.next hc hi hx).1
  have HTK := Lib.hid htk
  have HR := Lib.hid hR
  have HA := Lib.hid hA
  have HS := Lib.hid hS
  have HI := Lib.hid hi
  have HK := Lib.hid hK
  have HX := Lib.hid hX
  have HC := Lib.hid hc
  clear hR hA hS hi hl2 hl3 hv hc u9 u10 u11 u12 hK hX htk
  have ht1 : 2 ≤ s.stack.length := Nat.le_trans (show 2 ≤ Vm.takes 6 by decide) (HTK.out (show (6 : Int) ≠ 0 by decide))
  obtain ⟨m, hm⟩ : ∃ m, s.stack.length = m + 2 := ⟨s.stack.length - 2, by omega⟩
  obtain ⟨bk, ck', hk', hck, hhk, kr0, kr1, kt0, kt1⟩ := ownI_two HR.out.k hm
  cases hk'
  have pk := Pre.mk hhk
  have h8' : m ≤ 6 := by omega
  have HM := Lib.hid hm
  have hrt := HS.out.top
  have hru := HS.out.pop.top
  have hrm := HR.out
  rw [hm] at hrm
  have HR := Lib.hid hrm
  clear hhk ht1 hrm
  generalize htt : Vm.top1 s = tt at *
  generalize huu : Vm.top1 (Vm.pop1 s) = uu at *
  have HTT := Lib.hid htt
  have HUU := Lib.hid huu
  have HRT := Lib.hid hrt
  have HRU := Lib.hid hru
  clear htt huu hrt hru
  obtain ⟨tx, ty⟩ := tt
  obtain ⟨rx, ry⟩ := uu
  simp only at kt0 kt1 kr0 kr1
  obtain ⟨_, cb, hcb⟩ := HR.out.k.block rfl
  have ks0 : ∀ (N : Nat) (R : Array Obj) (k : Nat), ((wr.drewN N).more R k).cell? ⟨bk, m * 2, none⟩ = some (.int .i64 rx) := fun N R k => (cell_of (grew_heap (by repeat (first | with_reducible exact Grew.refl _ | apply Grew.more | apply Grew.alloc | apply Grew.drew | apply Grew.drewN)) hcb)).trans ((cell_of hcb).symm.trans kr0)
  have ks1 : ∀ (N : Nat) (R : Array Obj) (k : Nat), ((wr.drewN N).more R k).cell? ⟨bk, m * 2 + 1, none⟩ = some (.int .i64 ry) := fun N R k => (cell_of (grew_heap (by repeat (first | with_reducible exact Grew.refl _ | apply Grew.more | apply Grew.alloc | apply Grew.drew | apply Grew.drewN)) hcb)).trans ((cell_of hcb).symm.trans kr1)
  have ks2 : ∀ (N : Nat) (R : Array Obj) (k : Nat), ((wr.drewN N).more R k).cell? ⟨bk, (m + 1) * 2, none⟩ = some (.int .i64 tx) := fun N R k => (cell_of (grew_heap (by repeat (first | with_reducible exact Grew.refl _ | apply Grew.more | apply Grew.alloc | apply Grew.drew | apply Grew.drewN)) hcb)).trans ((cell_of hcb).symm.trans kt0)
  have ks3 : ∀ (N : Nat) (R : Array Obj) (k : Nat), ((wr.drewN N).more R k).cell? ⟨bk, (m + 1) * 2 + 1, none⟩ = some (.int .i64 ty) := fun N R k => (cell_of (grew_heap (by repeat (first | with_reducible exact Grew.refl _ | apply Grew.more | apply Grew.alloc | apply Grew.drew | apply Grew.drewN)) hcb)).trans ((cell_of hcb).symm.trans kt1)
  have kf0 : ∀ (N : Nat) (R : Array Obj) (k : Nat) (j : Nat), ((wr.drewN N).more R k).frozen? ⟨bk, j, none⟩ = false := fun N R k j => frozen_of (grew_heap (by repeat (first | with_reducible exact Grew.refl _ | apply Grew.more | apply Grew.alloc | apply Grew.drew | apply Grew.drewN)) hcb)
  have kf1 : ∀ (N : Nat) (j : Nat), (wr.drewN N).frozen? ⟨bk, j, none⟩ = false := fun N j => frozen_of (grew_heap (by repeat (first | with_reducible exact Grew.refl _ | apply Grew.more | apply Grew.alloc | apply Grew.drew | apply Grew.drewN)) hcb)
  have kf2 : ∀ (j : Nat), wr.frozen? ⟨bk, j, none⟩ = false := fun j => frozen_of hcb
  clear hcb
  have hiw1 : IntKind.i64.wrap ((m : Int) + 2 - 2) = (m : Int) := by rw [IntWalk.i64_in _ (by omega)]; omega
  have hiw2 : IntKind.i64.wrap ((m : Int) + 2 - 1) = (m : Int) + 1 := by rw [IntWalk.i64_in _ (by omega)]; omega
  have hiw3 : (m : Int) < (m : Int) + 2 := by omega
  have hiw4 : (m : Int) + 1 < (m : Int) + 2 := by omega
  have hiw5 : IntKind.i64.wrap (m : Int) = (m : Int) := IntWalk.i64_in _ (by omega)
  have hiw6 : IntKind.i64.wrap ((m : Int) + 1) = (m : Int) + 1 := IntWalk.i64_in _ (by omega)
  have hiw7 : ((m : Int) + 1).toNat = m + 1 := by omega
  have hiw8 : (0 : Int) ≤ (m : Int) + 1 := by omega
  have hiw9 : (m : Int) + 1 ≤ (ck : Int) := by omega
  have hcv : Vm.two 6 (rx, ry) (tx, ty) = addV (rx, ry) (tx, ty) := (Vm.two_ref HRU.out HRT.out).trans rfl
  generalize hvv : addV (rx, ry) (tx, ty) = vx at *
  obtain ⟨vx, vy⟩ := vx
  have HCV := Lib.hid hcv
  have HCL := Lib.hid (fun (W : World) => show Calls Tryz.prog 84 #[.agg #[.int .i64 rx, .int .i64 ry], .agg #[.int .i64 tx, .int .i64 ty]] W (Gives (.agg #[.int .i64 vx, .int .i64 vy]) W) from by have h := refAdd_any (rx, ry) (tx, ty) W; rw [hvv] at h; exact h)
  clear hcv hvv
  go_upto_region 6 with fail
  go_quiet (fail)
  clear h0 h1 hra
  go_upto_region 22 with fail
  refine wp_region_noPanic ?_
  go_region_law (first | (go_simp; go_at_call 84; refine (HCL.out _).mono ?_; rintro e w' ⟨rfl, R3, n3, rfl⟩))
  all_goals
    refine NoPanic.normal ?_
    go_wp2
    exact HK.out _ _ (Next11.step HC.out HA.out HS.out hin HI.out (by decide) rfl rfl (by show Value.int _ _ = Value.int _ _; go_num) ((((HR.out.grew (by repeat (first | with_reducible exact Grew.refl _ | apply Grew.more | apply Grew.alloc | apply Grew.drew | apply Grew.drewN))).setS (j := m) (by rw [HM.out]; omega) vx vy).cutS (m := m + 1) (by show m + 1 ≤ (s.stack.set m _).length; rw [List.length_set, HM.out]; omega)).to rfl rfl rfl (by show (Vm.effect _ _ _).stack = (s.stack.set m _).take (m + 1); rw [set_two HM.out, ← HCV.out, ← HUU.out, ← HTT.out]; rfl)))

set_option maxHeartbeats 8000000 in
theorem op11_7 (l : List Val) (c : Vm.Cst) (s0 s : Vm.St) (w wr : World) (a : Option Addr) (cap b4 b5 b7 : Nat) (p q y : Int) (u : Nat → Value) (vo vs : Value) (K : Act → World → Prop) (Q : Exit → Act → World → Prop)
    (hv : ValsAt w (.slice a l.length cap) l) (hc : Vm.checkC l = some c) (hin : rightV (p, q) = true) (hR : RunAt w b4 b5 b7 p q wr vo vs s) (hA : Vm.At l c (p, q) s0 s) (hS : Vm.AllRight s)
    (u9 : u 9 = vo) (u10 : u 10 = vs) (u11 : u 11 = .int .i64 s.steps) (u12 : u 12 = .int .i64 s.pc) (hs0 : 0 ≤ s.steps ∧ s.steps ≤ 1000) (hout : s.out.length ≤ 1000)
    (hi : l[s.pc]? = some ((7, y) : Val)) (hK : ∀ (a' : Act) (w' : World), (∃ n, n < 60 - s.pc ∧ Next11 l c s0 w (.slice a l.length cap) b4 b5 b7 p q n a' w') → K a' w')
    (hX : ∀ (a' : Act) (w' : World), End11 l s0 w (.slice a l.length cap) b4 b5 b7 p q a' w' → Q (.exit 0) a' w') :
    Code.wp Tryz.prog ((Tryz.f57.body.bind firstLoop).getD .skip) (Exit.then K Q) (frame11 (.slice a l.length cap) b4 b5 b7 u) wr := by
  have hlt : s.pc < l.length := (List.getElem?_eq_some_iff.1 hi).1
  conv => arg 2; whnf
  unfold frame11
  rw [u9, u10, u11, u12]
  obtain ⟨b, off, rfl, hb, h0, h1⟩ := ((hv.grew hR.g).open2).elim fun a' h => h.elim fun c' h => by
    obtain ⟨e, -, hx⟩ := h
    cases e
    exact hx s.pc hlt
  have hl2 := hi
  rw [List.getElem?_eq_getElem hlt] at hl2
  have hl3 := Option.some.inj hl2
  rw [hl3] at h0 h1
  simp only at h0 h1
  have h24 := (Co.fits_parts (Vm.checkC_fits hc)).1
  have hra := Vm.right_parts' hc hi
  obtain ⟨ak, ck, rfl⟩ := own_sliceL hR.k
  have h8 := hA.len hc hlt
  have htk : ((7, y) : Val).1 ≠ 0 → Vm.takes ((7, y) : Val).1 ≤ s.stack.length := fun hx => (hA.next hc hi hx).1
  have HTK := Lib.hid htk
  have HR := Lib.hid hR
  have HA := Lib.hid hA
  have HS := Lib.hid hS
  have HI := Lib.hid hi
  have HK := Lib.hid hK
  have HX := Lib.hid hX
  have HC := Lib.hid hc
  clear hR hA hS hi hl2 hl3 hv hc u9 u10 u11 u12 hK hX htk
  have ht1 : 2 ≤ s.stack.length := Nat.le_trans (show 2 ≤ Vm.takes 7 by decide) (HTK.out (show (7 : Int) ≠ 0 by decide))
  obtain ⟨m, hm⟩ : ∃ m, s.stack.length = m + 2 := ⟨s.stack.length - 2, by omega⟩
  obtain ⟨bk, ck', hk', hck, hhk, kr0, kr1, kt0, kt1⟩ := ownI_two HR.out.k hm
  cases hk'
  have pk := Pre.mk hhk
  have h8' : m ≤ 6 := by omega
  have HM := Lib.hid hm
  have hrt := HS.out.top
  have hru := HS.out.pop.top
  have hrm := HR.out
  rw [hm] at hrm
  have HR := Lib.hid hrm
  clear hhk ht1 hrm
  generalize htt : Vm.top1 s = tt at *
  generalize huu : Vm.top1 (Vm.pop1 s) = uu at *
  have HTT := Lib.hid htt
  have HUU := Lib.hid huu
  have HRT := Lib.hid hrt
  have HRU := Lib.hid hru
  clear htt huu hrt hru
  obtain ⟨tx, ty⟩ := tt
  obtain ⟨rx, ry⟩ := uu
  simp only at kt0 kt1 kr0 kr1
  obtain ⟨_, cb, hcb⟩ := HR.out.k.block rfl
  have ks0 : ∀ (N : Nat) (R : Array Obj) (k : Nat), ((wr.drewN N).more R k).cell? ⟨bk, m * 2, none⟩ = some (.int .i64 rx) := fun N R k => (cell_of (grew_heap (by repeat (first | with_reducible exact Grew.refl _ | apply Grew.more | apply Grew.alloc | apply Grew.drew | apply Grew.drewN)) hcb)).trans ((cell_of hcb).symm.trans kr0)
  have ks1 : ∀ (N : Nat) (R : Array Obj) (k : Nat), ((wr.drewN N).more R k).cell? ⟨bk, m * 2 + 1, none⟩ = some (.int .i64 ry) := fun N R k => (cell_of (grew_heap (by repeat (first | with_reducible exact Grew.refl _ | apply Grew.more | apply Grew.alloc | apply Grew.drew | apply Grew.drewN)) hcb)).trans ((cell_of hcb).symm.trans kr1)
  have ks2 : ∀ (N : Nat) (R : Array Obj) (k : Nat), ((wr.drewN N).more R k).cell? ⟨bk, (m + 1) * 2, none⟩ = some (.int .i64 tx) := fun N R k => (cell_of (grew_heap (by repeat (first | with_reducible exact Grew.refl _ | apply Grew.more | apply Grew.alloc | apply Grew.drew | apply Grew.drewN)) hcb)).trans ((cell_of hcb).symm.trans kt0)
  have ks3 : ∀ (N : Nat) (R : Array Obj) (k : Nat), ((wr.drewN N).more R k).cell? ⟨bk, (m + 1) * 2 + 1, none⟩ = some (.int .i64 ty) := fun N R k => (cell_of (grew_heap (by repeat (first | with_reducible exact Grew.refl _ | apply Grew.more | apply Grew.alloc | apply Grew.drew | apply Grew.drewN)) hcb)).trans ((cell_of hcb).symm.trans kt1)
  have kf0 : ∀ (N : Nat) (R : Array Obj) (k : Nat) (j : Nat), ((wr.drewN N).more R k).frozen? ⟨bk, j, none⟩ = false := fun N R k j => frozen_of (grew_heap (by repeat (first | with_reducible exact Grew.refl _ | apply Grew.more | apply Grew.alloc | apply Grew.drew | apply Grew.drewN)) hcb)
  have kf1 : ∀ (N : Nat) (j : Nat), (wr.drewN N).frozen? ⟨bk, j, none⟩ = false := fun N j => frozen_of (grew_heap (by repeat (first | with_reducible exact Grew.refl _ | apply Grew.more | apply Grew.alloc | apply Grew.drew | apply Grew.drewN)) hcb)
  have kf2 : ∀ (j : Nat), wr.frozen? ⟨bk, j, none⟩ = false := fun j => frozen_of hcb
  clear hcb
  have hiw1 : IntKind.i64.wrap ((m : Int) + 2 - 2) = (m : Int) := by rw [IntWalk.i64_in _ (by omega)]; omega
  have hiw2 : IntKind.i64.wrap ((m : Int) + 2 - 1) = (m : Int) + 1 := by rw [IntWalk.i64_in _ (by omega)]; omega
  have hiw3 : (m : Int) < (m : Int) + 2 := by omega
  have hiw4 : (m : Int) + 1 < (m : Int) + 2 := by omega
  have hiw5 : IntKind.i64.wrap (m : Int) = (m : Int) := IntWalk.i64_in _ (by omega)
  have hiw6 : IntKind.i64.wrap ((m : Int) + 1) = (m : Int) + 1 := IntWalk.i64_in _ (by omega)
  have hiw7 : ((m : Int) + 1).toNat = m + 1 := by omega
  have hiw8 : (0 : Int) ≤ (m : Int) + 1 := by omega
  have hiw9 : (m : Int) + 1 ≤ (ck : Int) := by omega
  have hcv : Vm.two 7 (rx, ry) (tx, ty) = subV (rx, ry) (tx, ty) := (Vm.two_ref HRU.out HRT.out).trans rfl
  generalize hvv : subV (rx, ry) (tx, ty) = vx at *
  obtain ⟨vx, vy⟩ := vx
  have HCV := Lib.hid hcv
  have HCL := Lib.hid (fun (W : World) => show Calls Tryz.prog 85 #[.agg #[.int .i64 rx, .int .i64 ry], .agg #[.int .i64 tx, .int .i64 ty]] W (Gives (.agg #[.int .i64 vx, .int .i64 vy]) W) from by have h := refSub_any (rx, ry) (tx, ty) W; rw [hvv] at h; exact h)
  clear hcv hvv
  go_upto_region 6 with fail
  go_quiet (fail)
  clear h0 h1 hra
  go_upto_region 24 with fail
  refine wp_region_noPanic ?_
  go_region_law (first | (go_simp; go_at_call 85; refine (HCL.out _).mono ?_; rintro e w' ⟨rfl, R3, n3, rfl⟩))
  all_goals
    refine NoPanic.normal ?_
    go_wp2
    exact HK.out _ _ (Next11.step HC.out HA.out HS.out hin HI.out (by decide) rfl rfl (by show Value.int _ _ = Value.int _ _; go_num) ((((HR.out.grew (by repeat (first | with_reducible exact Grew.refl _ | apply Grew.more | apply Grew.alloc | apply Grew.drew | apply Grew.drewN))).setS (j := m) (by rw [HM.out]; omega) vx vy).cutS (m := m + 1) (by show m + 1 ≤ (s.stack.set m _).length; rw [List.length_set, HM.out]; omega)).to rfl rfl rfl (by show (Vm.effect _ _ _).stack = (s.stack.set m _).take (m + 1); rw [set_two HM.out, ← HCV.out, ← HUU.out, ← HTT.out]; rfl)))

set_option maxHeartbeats 8000000 in
theorem op11_8 (l : List Val) (c : Vm.Cst) (s0 s : Vm.St) (w wr : World) (a : Option Addr) (cap b4 b5 b7 : Nat) (p q y : Int) (u : Nat → Value) (vo vs : Value) (K : Act → World → Prop) (Q : Exit → Act → World → Prop)
    (hv : ValsAt w (.slice a l.length cap) l) (hc : Vm.checkC l = some c) (hin : rightV (p, q) = true) (hR : RunAt w b4 b5 b7 p q wr vo vs s) (hA : Vm.At l c (p, q) s0 s) (hS : Vm.AllRight s)
    (u9 : u 9 = vo) (u10 : u 10 = vs) (u11 : u 11 = .int .i64 s.steps) (u12 : u 12 = .int .i64 s.pc) (hs0 : 0 ≤ s.steps ∧ s.steps ≤ 1000) (hout : s.out.length ≤ 1000)
    (hi : l[s.pc]? = some ((8, y) : Val)) (hK : ∀ (a' : Act) (w' : World), (∃ n, n < 60 - s.pc ∧ Next11 l c s0 w (.slice a l.length cap) b4 b5 b7 p q n a' w') → K a' w')
    (hX : ∀ (a' : Act) (w' : World), End11 l s0 w (.slice a l.length cap) b4 b5 b7 p q a' w' → Q (.exit 0) a' w') :
    Code.wp Tryz.prog ((Tryz.f57.body.bind firstLoop).getD .skip) (Exit.then K Q) (frame11 (.slice a l.length cap) b4 b5 b7 u) wr := by
  have hlt : s.pc < l.length := (List.getElem?_eq_some_iff.1 hi).1
  conv => arg 2; whnf
  unfold frame11
  rw [u9, u10, u11, u12]
  obtain ⟨b, off, rfl, hb, h0, h1⟩ := ((hv.grew hR.g).open2).elim fun a' h => h.elim fun c' h => by
    obtain ⟨e, -, hx⟩ := h
    cases e
    exact hx s.pc hlt
  have hl2 := hi
  rw [List.getElem?_eq_getElem hlt] at hl2
  have hl3 := Option.some.inj hl2
  rw [hl3] at h0 h1
  simp only at h0 h1
  have h24 := (Co.fits_parts (Vm.checkC_fits hc)).1
  have hra := Vm.right_parts' hc hi
  obtain ⟨ak, ck, rfl⟩ := own_sliceL hR.k
  have h8 := hA.len hc hlt
  have htk : ((8, y) : Val).1 ≠ 0 → Vm.takes ((8, y) : Val).1 ≤ s.stack.length := fun hx => (hA.next hc hi hx).1
  have HTK := Lib.hid htk
  have HR := Lib.hid hR
  have HA := Lib.hid hA
  have HS := Lib.hid hS
  have HI := Lib.hid hi
  have HK := Lib.hid hK
  have HX := Lib.hid hX
  have HC := Lib.hid hc
  clear hR hA hS hi hl2 hl3 hv hc u9 u10 u11 u12 hK hX htk
  have ht1 : 2 ≤ s.stack.length := Nat.le_trans (show 2 ≤ Vm.takes 8 by decide) (HTK.out (show (8 : Int) ≠ 0 by decide))
  obtain ⟨m, hm⟩ : ∃ m, s.stack.length = m + 2 := ⟨s.stack.length - 2, by omega⟩
  obtain ⟨bk, ck', hk', hck, hhk, kr0, kr1, kt0, kt1⟩ := ownI_two HR.out.k hm
  cases hk'
  have pk := Pre.mk hhk
  have h8' : m ≤ 6 := by omega
  have HM := Lib.hid hm
  have hrt := HS.out.top
  have hru := HS.out.pop.top
  have hrm := HR.out
  rw [hm] at hrm
  have HR := Lib.hid hrm
  clear hhk ht1 hrm
  generalize htt : Vm.top1 s = tt at *
  generalize huu : Vm.top1 (Vm.pop1 s) = uu at *
  have HTT := Lib.hid htt
  have HUU := Lib.hid huu
  have HRT := Lib.hid hrt
  have HRU := Lib.hid hru
  clear htt huu hrt hru
  obtain ⟨tx, ty⟩ := tt
  obtain ⟨rx, ry⟩ := uu
  simp only at kt0 kt1 kr0 kr1
  obtain ⟨_, cb, hcb⟩ := HR.out.k.block rfl
  have ks0 : ∀ (N : Nat) (R : Array Obj) (k : Nat), ((wr.drewN N).more R k).cell? ⟨bk, m * 2, none⟩ = some (.int .i64 rx) := fun N R k => (cell_of (grew_heap (by repeat (first | with_reducible exact Grew.refl _ | apply Grew.more | apply Grew.alloc | apply Grew.drew | apply Grew.drewN)) hcb)).trans ((cell_of hcb).symm.trans kr0)
  have ks1 : ∀ (N : Nat) (R : Array Obj) (k : Nat), ((wr.drewN N).more R k).cell? ⟨bk, m * 2 + 1, none⟩ = some (.int .i64 ry) := fun N R k => (cell_of (grew_heap (by repeat (first | with_reducible exact Grew.refl _ | apply Grew.more | apply Grew.alloc | apply Grew.drew | apply Grew.drewN)) hcb)).trans ((cell_of hcb).symm.trans kr1)
  have ks2 : ∀ (N : Nat) (R : Array Obj) (k : Nat), ((wr.drewN N).more R k).cell? ⟨bk, (m + 1) * 2, none⟩ = some (.int .i64 tx) := fun N R k => (cell_of (grew_heap (by repeat (first | with_reducible exact Grew.refl _ | apply Grew.more | apply Grew.alloc | apply Grew.drew | apply Grew.drewN)) hcb)).trans ((cell_of hcb).symm.trans kt0)
  have ks3 : ∀ (N : Nat) (R : Array Obj) (k : Nat), ((wr.drewN N).more R k).cell? ⟨bk, (m + 1) * 2 + 1, none⟩ = some (.int .i64 ty) := fun N R k => (cell_of (grew_heap (by repeat (first | with_reducible exact Grew.refl _ | apply Grew.more | apply Grew.alloc | apply Grew.drew | apply Grew.drewN)) hcb)).trans ((cell_of hcb).symm.trans kt1)
  have kf0 : ∀ (N : Nat) (R : Array Obj) (k : Nat) (j : Nat), ((wr.drewN N).more R k).frozen? ⟨bk, j, none⟩ = false := fun N R k j => frozen_of (grew_heap (by repeat (first | with_reducible exact Grew.refl _ | apply Grew.more | apply Grew.alloc | apply Grew.drew | apply Grew.drewN)) hcb)
  have kf1 : ∀ (N : Nat) (j : Nat), (wr.drewN N).frozen? ⟨bk, j, none⟩ = false := fun N j => frozen_of (grew_heap (by repeat (first | with_reducible exact Grew.refl _ | apply Grew.more | apply Grew.alloc | apply Grew.drew | apply Grew.drewN)) hcb)
  have kf2 : ∀ (j : Nat), wr.frozen? ⟨bk, j, none⟩ = false := fun j => frozen_of hcb
  clear hcb
  have hiw1 : IntKind.i64.wrap ((m : Int) + 2 - 2) = (m : Int) := by rw [IntWalk.i64_in _ (by omega)]; omega
  have hiw2 : IntKind.i64.wrap ((m : Int) + 2 - 1) = (m : Int) + 1 := by rw [IntWalk.i64_in _ (by omega)]; omega
  have hiw3 : (m : Int) < (m : Int) + 2 := by omega
  have hiw4 : (m : Int) + 1 < (m : Int) + 2 := by omega
  have hiw5 : IntKind.i64.wrap (m : Int) = (m : Int) := IntWalk.i64_in _ (by omega)
  have hiw6 : IntKind.i64.wrap ((m : Int) + 1) = (m : Int) + 1 := IntWalk.i64_in _ (by omega)
  have hiw7 : ((m : Int) + 1).toNat = m + 1 := by omega
  have hiw8 : (0 : Int) ≤ (m : Int) + 1 := by omega
  have hiw9 : (m : Int) + 1 ≤ (ck : Int) := by omega
  have hcv : Vm.two 8 (rx, ry) (tx, ty) = mulV (rx, ry) (tx, ty) := (Vm.two_ref HRU.out HRT.out).trans rfl
  generalize hvv : mulV (rx, ry) (tx, ty) = vx at *
  obtain ⟨vx, vy⟩ := vx
  have HCV := Lib.hid hcv
  have HCL := Lib.hid (fun (W : World) => show Calls Tryz.prog 86 #[.agg #[.int .i64 rx, .int .i64 ry], .agg #[.int .i64 tx, .int .i64 ty]] W (Gives (.agg #[.int .i64 vx, .int .i64 vy]) W) from by have h := refMul_any (rx, ry) (tx, ty) W; rw [hvv] at h; exact h)
  clear hcv hvv
  go_upto_region 6 with fail
  go_quiet (fail)
  clear h0 h1 hra
  go_upto_region 26 with fail
  refine wp_region_noPanic ?_
  go_region_law (first | (go_simp; go_at_call 86; refine (HCL.out _).mono ?_; rintro e w' ⟨rfl, R3, n3, rfl⟩))
  all_goals
    refine NoPanic.normal ?_
    go_wp2
    exact HK.out _ _ (Next11.step HC.out HA.out HS.out hin HI.out (by decide) rfl rfl (by show Value.int _ _ = Value.int _ _; go_num) ((((HR.out.grew (by repeat (first | with_reducible exact Grew.refl _ | apply Grew.more | apply Grew.alloc | apply Grew.drew | apply Grew.drewN))).setS (j := m) (by rw [HM.out]; omega) vx vy).cutS (m := m + 1) (by show m + 1 ≤ (s.stack.set m _).length; rw [List.length_set, HM.out]; omega)).to rfl rfl rfl (by show (Vm.effect _ _ _).stack = (s.stack.set m _).take (m + 1); rw [set_two HM.out, ← HCV.out, ← HUU.out, ← HTT.out]; rfl)))
end Go.Proofs.YtmdmbimfdpngaaaGreatDoor
