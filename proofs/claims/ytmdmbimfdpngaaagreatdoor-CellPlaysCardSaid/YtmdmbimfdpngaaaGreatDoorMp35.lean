import Derived.Test.YtmdmbimfdpngaaaGreatDoorMp34
import Derived.Deep.RegionLaw
/-! forebayref06.Run: a cell is written. -/
namespace Go.Proofs.YtmdmbimfdpngaaaGreatDoor
set_option linter.unusedSimpArgs false
set_option linter.unusedVariables false
open Go.RowKit Ga
set_option maxRecDepth 100000

set_option maxHeartbeats 8000000 in
theorem op11_50 (l : List Val) (c : Vm.Cst) (s0 s : Vm.St) (w wr : World) (a : Option Addr) (cap b4 b5 b7 : Nat) (p q : Int) (u : Nat → Value) (vo vs : Value) (K : Act → World → Prop) (Q : Exit → Act → World → Prop)
    (hv : ValsAt w (.slice a l.length cap) l) (hc : Vm.checkC l = some c) (hin : rightV (p, q) = true) (hR : RunAt w b4 b5 b7 p q wr vo vs s) (hA : Vm.At l c (p, q) s0 s) (hS : Vm.AllRight s)
    (u9 : u 9 = vo) (u10 : u 10 = vs) (u11 : u 11 = .int .i64 s.steps) (u12 : u 12 = .int .i64 s.pc) (hs0 : 0 ≤ s.steps ∧ s.steps ≤ 1000) (hout : s.out.length ≤ 1000)
    (hi : l[s.pc]? = some ((5, 0) : Val)) (hK : ∀ (a' : Act) (w' : World), (∃ n, n < 60 - s.pc ∧ Next11 l c s0 w (.slice a l.length cap) b4 b5 b7 p q n a' w') → K a' w')
    (hX : ∀ (a' : Act) (w' : World), End11 l s0 w (.slice a l.length cap) b4 b5 b7 p q a' w' → Q (.exit 0) a' w') :
    Code.wp Tryz.prog ((Tryz.f57.body.bind firstLoop).getD .skip) (Exit.then K Q) (frame11 (.slice a l.length cap) b4 b5 b7 u) wr := by
  have hlt : s.pc < l.length := (List.getElem?_eq_some_iff.1 hi).1
  conv => arg 2; whnf
  unfold frame11
  rw [u9, u10, u11, u12]
  obtain ⟨b, off, rfl, hb, h0, h1⟩ := ((hv.grew hR.g).open2).elim fun a' h => h.elim fun c' h => by
    obtain ⟨e, -, hx⟩ := h
    cases e
    exact hx s.pc hlt
  have hl2 := hi
  rw [List.getElem?_eq_getElem hlt] at hl2
  have hl3 := Option.some.inj hl2
  rw [hl3] at h0 h1
  simp only at h0 h1
  have h24 := (Co.fits_parts (Vm.checkC_fits hc)).1
  have hra := Vm.right_parts' hc hi
  obtain ⟨ak, ck, rfl⟩ := own_sliceL hR.k
  have h8 := hA.len hc hlt
  have htk : ((5, 0) : Val).1 ≠ 0 → Vm.takes ((5, 0) : Val).1 ≤ s.stack.length := fun hx => (hA.next hc hi hx).1
  have HTK := Lib.hid htk
  have HR := Lib.hid hR
  have HA := Lib.hid hA
  have HS := Lib.hid hS
  have HI := Lib.hid hi
  have HK := Lib.hid hK
  have HX := Lib.hid hX
  have HC := Lib.hid hc
  clear hR hA hS hi hl2 hl3 hv hc u9 u10 u11 u12 hK hX htk
  have ht1 : 1 ≤ s.stack.length := Nat.le_trans (show 1 ≤ Vm.takes 5 by decide) (HTK.out (show (5 : Int) ≠ 0 by decide))
  obtain ⟨m, hm⟩ : ∃ m, s.stack.length = m + 1 := ⟨s.stack.length - 1, by omega⟩
  obtain ⟨bk, ck', hk', hck, hhk, kt0, kt1, hspl⟩ := ownI_last HR.out.k hm
  cases hk'
  have pk := Pre.mk hhk
  have hdl : s.stack.dropLast = s.stack.take m := by rw [List.dropLast_eq_take, hm]; rfl
  have HDL := Lib.hid hdl
  have h8' : m ≤ 7 := by omega
  have HM := Lib.hid hm
  have hrm := HR.out
  rw [hm] at hrm
  have HR := Lib.hid hrm
  clear hdl hhk ht1 hrm
  generalize htt : Vm.top1 s = tt at *
  have HTT := Lib.hid htt
  have HSPL := Lib.hid hspl
  clear htt hspl
  obtain ⟨tx, ty⟩ := tt
  simp only at kt0 kt1
  have k50 := cell_of (o := 0) HR.out.c5
  have k51 := cell_of (o := 1) HR.out.c5
  have k52 := cell_of (o := 2) HR.out.c5
  have k53 := cell_of (o := 3) HR.out.c5
  simp at k50 k51 k52 k53
  have p5 := Pre.mk (heap_lt HR.out.c5)
  have f50 := frozen_of (o := 0) HR.out.c5
  have f51 := frozen_of (o := 1) HR.out.c5
  have f52 := frozen_of (o := 2) HR.out.c5
  have f53 := frozen_of (o := 3) HR.out.c5
  go_upto_region 6 with fail
  go_quiet (fail)
  clear h0 h1 hra
  go_wp2
  exact HK.out _ _ (Next11.step HC.out HA.out HS.out hin HI.out (by decide) rfl rfl (by show Value.int _ _ = Value.int _ _; go_num) ((((HR.out.grew (by repeat (first | with_reducible exact Grew.refl _ | apply Grew.more | apply Grew.alloc | apply Grew.drew | apply Grew.drewN))).cell0 tx ty).cutS (m := m) (by show m ≤ s.stack.length; rw [HM.out]; omega)).to rfl (by first | rfl | exact HTT.out) (by first | rfl | exact HTT.out) HDL.out))

set_option maxHeartbeats 8000000 in
theorem op11_51 (l : List Val) (c : Vm.Cst) (s0 s : Vm.St) (w wr : World) (a : Option Addr) (cap b4 b5 b7 : Nat) (p q : Int) (u : Nat → Value) (vo vs : Value) (K : Act → World → Prop) (Q : Exit → Act → World → Prop)
    (hv : ValsAt w (.slice a l.length cap) l) (hc : Vm.checkC l = some c) (hin : rightV (p, q) = true) (hR : RunAt w b4 b5 b7 p q wr vo vs s) (hA : Vm.At l c (p, q) s0 s) (hS : Vm.AllRight s)
    (u9 : u 9 = vo) (u10 : u 10 = vs) (u11 : u 11 = .int .i64 s.steps) (u12 : u 12 = .int .i64 s.pc) (hs0 : 0 ≤ s.steps ∧ s.steps ≤ 1000) (hout : s.out.length ≤ 1000)
    (hi : l[s.pc]? = some ((5, 1) : Val)) (hK : ∀ (a' : Act) (w' : World), (∃ n, n < 60 - s.pc ∧ Next11 l c s0 w (.slice a l.length cap) b4 b5 b7 p q n a' w') → K a' w')
    (hX : ∀ (a' : Act) (w' : World), End11 l s0 w (.slice a l.length cap) b4 b5 b7 p q a' w' → Q (.exit 0) a' w') :
    Code.wp Tryz.prog ((Tryz.f57.body.bind firstLoop).getD .skip) (Exit.then K Q) (frame11 (.slice a l.length cap) b4 b5 b7 u) wr := by
  have hlt : s.pc < l.length := (List.getElem?_eq_some_iff.1 hi).1
  conv => arg 2; whnf
  unfold frame11
  rw [u9, u10, u11, u12]
  obtain ⟨b, off, rfl, hb, h0, h1⟩ := ((hv.grew hR.g).open2).elim fun a' h => h.elim fun c' h => by
    obtain ⟨e, -, hx⟩ := h
    cases e
    exact hx s.pc hlt
  have hl2 := hi
  rw [List.getElem?_eq_getElem hlt] at hl2
  have hl3 := Option.some.inj hl2
  rw [hl3] at h0 h1
  simp only at h0 h1
  have h24 := (Co.fits_parts (Vm.checkC_fits hc)).1
  have hra := Vm.right_parts' hc hi
  obtain ⟨ak, ck, rfl⟩ := own_sliceL hR.k
  have h8 := hA.len hc hlt
  have htk : ((5, 1) : Val).1 ≠ 0 → Vm.takes ((5, 1) : Val).1 ≤ s.stack.length := fun hx => (hA.next hc hi hx).1
  have HTK := Lib.hid htk
  have HR := Lib.hid hR
  have HA := Lib.hid hA
  have HS := Lib.hid hS
  have HI := Lib.hid hi
  have HK := Lib.hid hK
  have HX := Lib.hid hX
  have HC := Lib.hid hc
  clear hR hA hS hi hl2 hl3 hv hc u9 u10 u11 u12 hK hX htk
  have ht1 : 1 ≤ s.stack.length := Nat.le_trans (show 1 ≤ Vm.takes 5 by decide) (HTK.out (show (5 : Int) ≠ 0 by decide))
  obtain ⟨m, hm⟩ : ∃ m, s.stack.length = m + 1 := ⟨s.stack.length - 1, by omega⟩
  obtain ⟨bk, ck', hk', hck, hhk, kt0, kt1, hspl⟩ := ownI_last HR.out.k hm
  cases hk'
  have pk := Pre.mk hhk
  have hdl : s.stack.dropLast = s.stack.take m := by rw [List.dropLast_eq_take, hm]; rfl
  have HDL := Lib.hid hdl
  have h8' : m ≤ 7 := by omega
  have HM := Lib.hid hm
  have hrm := HR.out
  rw [hm] at hrm
  have HR := Lib.hid hrm
  clear hdl hhk ht1 hrm
  generalize htt : Vm.top1 s = tt at *
  have HTT := Lib.hid htt
  have HSPL := Lib.hid hspl
  clear htt hspl
  obtain ⟨tx, ty⟩ := tt
  simp only at kt0 kt1
  have k50 := cell_of (o := 0) HR.out.c5
  have k51 := cell_of (o := 1) HR.out.c5
  have k52 := cell_of (o := 2) HR.out.c5
  have k53 := cell_of (o := 3) HR.out.c5
  simp at k50 k51 k52 k53
  have p5 := Pre.mk (heap_lt HR.out.c5)
  have f50 := frozen_of (o := 0) HR.out.c5
  have f51 := frozen_of (o := 1) HR.out.c5
  have f52 := frozen_of (o := 2) HR.out.c5
  have f53 := frozen_of (o := 3) HR.out.c5
  go_upto_region 6 with fail
  go_quiet (fail)
  clear h0 h1 hra
  go_wp2
  exact HK.out _ _ (Next11.step HC.out HA.out HS.out hin HI.out (by decide) rfl rfl (by show Value.int _ _ = Value.int _ _; go_num) ((((HR.out.grew (by repeat (first | with_reducible exact Grew.refl _ | apply Grew.more | apply Grew.alloc | apply Grew.drew | apply Grew.drewN))).cell1 tx ty).cutS (m := m) (by show m ≤ s.stack.length; rw [HM.out]; omega)).to rfl (by first | rfl | exact HTT.out) (by first | rfl | exact HTT.out) HDL.out))
end Go.Proofs.YtmdmbimfdpngaaaGreatDoor

/-! forebayref06.Run: a value of the stack is reckoned anew. -/
namespace Go.Proofs.YtmdmbimfdpngaaaGreatDoor
set_option linter.unusedSimpArgs false
set_option linter.unusedVariables false
open Go.RowKit Ga
set_option maxRecDepth 100000
theorem set_top {s : Vm.St} {m : Nat} (hm : s.stack.length = m + 1) (v : Val) : s.stack.set m v = s.stack.dropLast ++ [v] := by
  have h1 : s.stack = s.stack.take m ++ [s.stack[m]'(by omega)] := by
    rw [← List.take_succ_eq_append_getElem (show m < s.stack.length by omega)]
    exact (List.take_of_length_le (by omega)).symm
  have h2 : s.stack.dropLast = s.stack.take m := by rw [List.dropLast_eq_take, hm]; rfl
  rw [h2]
  conv => lhs; rw [h1]
  rw [List.set_append_right _ _ (by rw [List.length_take]; omega), List.length_take, show m - min m s.stack.length = 0 by omega]
  rfl

set_option maxHeartbeats 8000000 in
theorem op11_9 (l : List Val) (c : Vm.Cst) (s0 s : Vm.St) (w wr : World) (a : Option Addr) (cap b4 b5 b7 : Nat) (p q y : Int) (u : Nat → Value) (vo vs : Value) (K : Act → World → Prop) (Q : Exit → Act → World → Prop)
    (hv : ValsAt w (.slice a l.length cap) l) (hc : Vm.checkC l = some c) (hin : rightV (p, q) = true) (hR : RunAt w b4 b5 b7 p q wr vo vs s) (hA : Vm.At l c (p, q) s0 s) (hS : Vm.AllRight s)
    (u9 : u 9 = vo) (u10 : u 10 = vs) (u11 : u 11 = .int .i64 s.steps) (u12 : u 12 = .int .i64 s.pc) (hs0 : 0 ≤ s.steps ∧ s.steps ≤ 1000) (hout : s.out.length ≤ 1000)
    (hi : l[s.pc]? = some ((9, y) : Val)) (hK : ∀ (a' : Act) (w' : World), (∃ n, n < 60 - s.pc ∧ Next11 l c s0 w (.slice a l.length cap) b4 b5 b7 p q n a' w') → K a' w')
    (hX : ∀ (a' : Act) (w' : World), End11 l s0 w (.slice a l.length cap) b4 b5 b7 p q a' w' → Q (.exit 0) a' w') :
    Code.wp Tryz.prog ((Tryz.f57.body.bind firstLoop).getD .skip) (Exit.then K Q) (frame11 (.slice a l.length cap) b4 b5 b7 u) wr := by
  have hlt : s.pc < l.length := (List.getElem?_eq_some_iff.1 hi).1
  conv => arg 2; whnf
  unfold frame11
  rw [u9, u10, u11, u12]
  obtain ⟨b, off, rfl, hb, h0, h1⟩ := ((hv.grew hR.g).open2).elim fun a' h => h.elim fun c' h => by
    obtain ⟨e, -, hx⟩ := h
    cases e
    exact hx s.pc hlt
  have hl2 := hi
  rw [List.getElem?_eq_getElem hlt] at hl2
  have hl3 := Option.some.inj hl2
  rw [hl3] at h0 h1
  simp only at h0 h1
  have h24 := (Co.fits_parts (Vm.checkC_fits hc)).1
  have hra := Vm.right_parts' hc hi
  obtain ⟨ak, ck, rfl⟩ := own_sliceL hR.k
  have h8 := hA.len hc hlt
  have htk : ((9, y) : Val).1 ≠ 0 → Vm.takes ((9, y) : Val).1 ≤ s.stack.length := fun hx => (hA.next hc hi hx).1
  have HTK := Lib.hid htk
  have HR := Lib.hid hR
  have HA := Lib.hid hA
  have HS := Lib.hid hS
  have HI := Lib.hid hi
  have HK := Lib.hid hK
  have HX := Lib.hid hX
  have HC := Lib.hid hc
  clear hR hA hS hi hl2 hl3 hv hc u9 u10 u11 u12 hK hX htk
  have ht1 : 1 ≤ s.stack.length := Nat.le_trans (show 1 ≤ Vm.takes 9 by decide) (HTK.out (show (9 : Int) ≠ 0 by decide))
  obtain ⟨m, hm⟩ : ∃ m, s.stack.length = m + 1 := ⟨s.stack.length - 1, by omega⟩
  obtain ⟨bk, ck', hk', hck, hhk, kt0, kt1, hspl⟩ := ownI_last HR.out.k hm
  cases hk'
  have pk := Pre.mk hhk
  have hdl : s.stack.dropLast = s.stack.take m := by rw [List.dropLast_eq_take, hm]; rfl
  have HDL := Lib.hid hdl
  have h8' : m ≤ 7 := by omega
  have HM := Lib.hid hm
  have hrm := HR.out
  rw [hm] at hrm
  have HR := Lib.hid hrm
  clear hdl hhk ht1 hrm
  generalize htt : Vm.top1 s = tt at *
  have HTT := Lib.hid htt
  have HSPL := Lib.hid hspl
  clear htt hspl
  obtain ⟨tx, ty⟩ := tt
  simp only at kt0 kt1
  have hcv : conjV (Vm.top1 s) = (into tx, into (wrap64 (-ty))) := by
    have hrt := HS.out.top
    rw [HTT.out] at hrt
    have hb := into_range ty
    have h2 := (Vm.right_parts hrt).2
    simp only at h2
    rw [h2] at hb
    rw [HTT.out, Vm.conj_ref hrt, IntWalk.wrap64_in (-ty) (by omega)]
  have HCV := Lib.hid hcv
  clear hcv
  have hfz0 := frozen_of (o := m * 2) (HR.out.k.block rfl).2.choose_spec
  have hfz1 := frozen_of (o := m * 2 + 1) (HR.out.k.block rfl).2.choose_spec
  obtain ⟨_, cb, hcb⟩ := HR.out.k.block rfl
  have HS0 := Lib.hid (fun (W' : World) (g : Grew wr W') => (cell_of (o := m * 2) (grew_heap g hcb)).trans ((cell_of hcb).symm.trans kt0))
  have HS1 := Lib.hid (fun (W' : World) (g : Grew wr W') => (cell_of (o := m * 2 + 1) (grew_heap g hcb)).trans ((cell_of hcb).symm.trans kt1))
  have HS2 := Lib.hid (fun (W' : World) (g : Grew wr W') => frozen_of (o := m * 2) (grew_heap g hcb))
  have HS3 := Lib.hid (fun (W' : World) (g : Grew wr W') => frozen_of (o := m * 2 + 1) (grew_heap g hcb))
  clear hcb
  go_upto_region 6 with fail
  go_quiet (fail)
  clear h0 h1 hra
  go_upto_region 33 with fail
  have ks0 : ∀ (N : Nat) (R : Array Obj) (k : Nat), ((wr.drewN N).more R k).cell? ⟨bk, m * 2, none⟩ = some (.int .i64 tx) := fun N R k => HS0.out _ (by repeat (first | with_reducible exact Grew.refl _ | apply Grew.more | apply Grew.alloc | apply Grew.drew | apply Grew.drewN))
  have ks1 : ∀ (N : Nat) (R : Array Obj) (k : Nat), ((wr.drewN N).more R k).cell? ⟨bk, m * 2 + 1, none⟩ = some (.int .i64 ty) := fun N R k => HS1.out _ (by repeat (first | with_reducible exact Grew.refl _ | apply Grew.more | apply Grew.alloc | apply Grew.drew | apply Grew.drewN))
  have kf0 : ∀ (N : Nat) (R : Array Obj) (k : Nat), ((wr.drewN N).more R k).frozen? ⟨bk, m * 2, none⟩ = false := fun N R k => HS2.out _ (by repeat (first | with_reducible exact Grew.refl _ | apply Grew.more | apply Grew.alloc | apply Grew.drew | apply Grew.drewN))
  have kf1 : ∀ (N : Nat) (R : Array Obj) (k : Nat), ((wr.drewN N).more R k).frozen? ⟨bk, m * 2 + 1, none⟩ = false := fun N R k => HS3.out _ (by repeat (first | with_reducible exact Grew.refl _ | apply Grew.more | apply Grew.alloc | apply Grew.drew | apply Grew.drewN))
  have hiw1 : IntKind.i64.wrap ((m : Int) + 1 - 1) = (m : Int) := by rw [IntWalk.i64_in _ (by omega)]; omega
  have hiw2 : IntKind.i64.wrap (m : Int) = (m : Int) := IntWalk.i64_in _ (by omega)
  have hiw3 : (m : Int) < (m : Int) + 1 := by omega
  refine wp_region_noPanic ?_
  go_region_law (first | (go_simp; go_at_call 70; refine (refOf_any _ _ _).mono ?_; rintro e w' ⟨rfl, R3, n3, rfl⟩))
  all_goals
    refine NoPanic.normal ?_
    go_wp2
    exact HK.out _ _ (Next11.step HC.out HA.out HS.out hin HI.out (by decide) rfl rfl (by show Value.int _ _ = Value.int _ _; go_num) (((HR.out.grew (by repeat (first | with_reducible exact Grew.refl _ | apply Grew.more | apply Grew.alloc | apply Grew.drew | apply Grew.drewN))).setS (j := m) (by rw [HM.out]; omega) _ _).to rfl rfl rfl (by show (Vm.effect _ _ _).stack = s.stack.set m _; rw [set_top HM.out]; exact congrArg (fun v => s.stack.dropLast ++ [v]) HCV.out)))

set_option maxHeartbeats 8000000 in
theorem op11_10 (l : List Val) (c : Vm.Cst) (s0 s : Vm.St) (w wr : World) (a : Option Addr) (cap b4 b5 b7 : Nat) (p q y : Int) (u : Nat → Value) (vo vs : Value) (K : Act → World → Prop) (Q : Exit → Act → World → Prop)
    (hv : ValsAt w (.slice a l.length cap) l) (hc : Vm.checkC l = some c) (hin : rightV (p, q) = true) (hR : RunAt w b4 b5 b7 p q wr vo vs s) (hA : Vm.At l c (p, q) s0 s) (hS : Vm.AllRight s)
    (u9 : u 9 = vo) (u10 : u 10 = vs) (u11 : u 11 = .int .i64 s.steps) (u12 : u 12 = .int .i64 s.pc) (hs0 : 0 ≤ s.steps ∧ s.steps ≤ 1000) (hout : s.out.length ≤ 1000)
    (hi : l[s.pc]? = some ((10, y) : Val)) (hK : ∀ (a' : Act) (w' : World), (∃ n, n < 60 - s.pc ∧ Next11 l c s0 w (.slice a l.length cap) b4 b5 b7 p q n a' w') → K a' w')
    (hX : ∀ (a' : Act) (w' : World), End11 l s0 w (.slice a l.length cap) b4 b5 b7 p q a' w' → Q (.exit 0) a' w') :
    Code.wp Tryz.prog ((Tryz.f57.body.bind firstLoop).getD .skip) (Exit.then K Q) (frame11 (.slice a l.length cap) b4 b5 b7 u) wr := by
  have hlt : s.pc < l.length := (List.getElem?_eq_some_iff.1 hi).1
  conv => arg 2; whnf
  unfold frame11
  rw [u9, u10, u11, u12]
  obtain ⟨b, off, rfl, hb, h0, h1⟩ := ((hv.grew hR.g).open2).elim fun a' h => h.elim fun c' h => by
    obtain ⟨e, -, hx⟩ := h
    cases e
    exact hx s.pc hlt
  have hl2 := hi
  rw [List.getElem?_eq_getElem hlt] at hl2
  have hl3 := Option.some.inj hl2
  rw [hl3] at h0 h1
  simp only at h0 h1
  have h24 := (Co.fits_parts (Vm.checkC_fits hc)).1
  have hra := Vm.right_parts' hc hi
  obtain ⟨ak, ck, rfl⟩ := own_sliceL hR.k
  have h8 := hA.len hc hlt
  have htk : ((10, y) : Val).1 ≠ 0 → Vm.takes ((10, y) : Val).1 ≤ s.stack.length := fun hx => (hA.next hc hi hx).1
  have HTK := Lib.hid htk
  have HR := Lib.hid hR
  have HA := Lib.hid hA
  have HS := Lib.hid hS
  have HI := Lib.hid hi
  have HK := Lib.hid hK
  have HX := Lib.hid hX
  have HC := Lib.hid hc
  clear hR hA hS hi hl2 hl3 hv hc u9 u10 u11 u12 hK hX htk
  have ht1 : 1 ≤ s.stack.length := Nat.le_trans (show 1 ≤ Vm.takes 10 by decide) (HTK.out (show (10 : Int) ≠ 0 by decide))
  obtain ⟨m, hm⟩ : ∃ m, s.stack.length = m + 1 := ⟨s.stack.length - 1, by omega⟩
  obtain ⟨bk, ck', hk', hck, hhk, kt0, kt1, hspl⟩ := ownI_last HR.out.k hm
  cases hk'
  have pk := Pre.mk hhk
  have hdl : s.stack.dropLast = s.stack.take m := by rw [List.dropLast_eq_take, hm]; rfl
  have HDL := Lib.hid hdl
  have h8' : m ≤ 7 := by omega
  have HM := Lib.hid hm
  have hrm := HR.out
  rw [hm] at hrm
  have HR := Lib.hid hrm
  clear hdl hhk ht1 hrm
  generalize htt : Vm.top1 s = tt at *
  have HTT := Lib.hid htt
  have HSPL := Lib.hid hspl
  clear htt hspl
  obtain ⟨tx, ty⟩ := tt
  simp only at kt0 kt1
  have hcv : turnV (Vm.top1 s) = (into (wrap64 (-ty)), into tx) := by
    have hrt := HS.out.top
    rw [HTT.out] at hrt
    have hb := into_range ty
    have h2 := (Vm.right_parts hrt).2
    simp only at h2
    rw [h2] at hb
    rw [HTT.out, Vm.turn_ref hrt, IntWalk.wrap64_in (-ty) (by omega)]
  have HCV := Lib.hid hcv
  clear hcv
  have hfz0 := frozen_of (o := m * 2) (HR.out.k.block rfl).2.choose_spec
  have hfz1 := frozen_of (o := m * 2 + 1) (HR.out.k.block rfl).2.choose_spec
  obtain ⟨_, cb, hcb⟩ := HR.out.k.block rfl
  have HS0 := Lib.hid (fun (W' : World) (g : Grew wr W') => (cell_of (o := m * 2) (grew_heap g hcb)).trans ((cell_of hcb).symm.trans kt0))
  have HS1 := Lib.hid (fun (W' : World) (g : Grew wr W') => (cell_of (o := m * 2 + 1) (grew_heap g hcb)).trans ((cell_of hcb).symm.trans kt1))
  have HS2 := Lib.hid (fun (W' : World) (g : Grew wr W') => frozen_of (o := m * 2) (grew_heap g hcb))
  have HS3 := Lib.hid (fun (W' : World) (g : Grew wr W') => frozen_of (o := m * 2 + 1) (grew_heap g hcb))
  clear hcb
  go_upto_region 6 with fail
  go_quiet (fail)
  clear h0 h1 hra
  go_upto_region 35 with fail
  have ks0 : ∀ (N : Nat) (R : Array Obj) (k : Nat), ((wr.drewN N).more R k).cell? ⟨bk, m * 2, none⟩ = some (.int .i64 tx) := fun N R k => HS0.out _ (by repeat (first | with_reducible exact Grew.refl _ | apply Grew.more | apply Grew.alloc | apply Grew.drew | apply Grew.drewN))
  have ks1 : ∀ (N : Nat) (R : Array Obj) (k : Nat), ((wr.drewN N).more R k).cell? ⟨bk, m * 2 + 1, none⟩ = some (.int .i64 ty) := fun N R k => HS1.out _ (by repeat (first | with_reducible exact Grew.refl _ | apply Grew.more | apply Grew.alloc | apply Grew.drew | apply Grew.drewN))
  have kf0 : ∀ (N : Nat) (R : Array Obj) (k : Nat), ((wr.drewN N).more R k).frozen? ⟨bk, m * 2, none⟩ = false := fun N R k => HS2.out _ (by repeat (first | with_reducible exact Grew.refl _ | apply Grew.more | apply Grew.alloc | apply Grew.drew | apply Grew.drewN))
  have kf1 : ∀ (N : Nat) (R : Array Obj) (k : Nat), ((wr.drewN N).more R k).frozen? ⟨bk, m * 2 + 1, none⟩ = false := fun N R k => HS3.out _ (by repeat (first | with_reducible exact Grew.refl _ | apply Grew.more | apply Grew.alloc | apply Grew.drew | apply Grew.drewN))
  have hiw1 : IntKind.i64.wrap ((m : Int) + 1 - 1) = (m : Int) := by rw [IntWalk.i64_in _ (by omega)]; omega
  have hiw2 : IntKind.i64.wrap (m : Int) = (m : Int) := IntWalk.i64_in _ (by omega)
  have hiw3 : (m : Int) < (m : Int) + 1 := by omega
  refine wp_region_noPanic ?_
  go_region_law (first | (go_simp; go_at_call 70; refine (refOf_any _ _ _).mono ?_; rintro e w' ⟨rfl, R3, n3, rfl⟩))
  all_goals
    refine NoPanic.normal ?_
    go_wp2
    exact HK.out _ _ (Next11.step HC.out HA.out HS.out hin HI.out (by decide) rfl rfl (by show Value.int _ _ = Value.int _ _; go_num) (((HR.out.grew (by repeat (first | with_reducible exact Grew.refl _ | apply Grew.more | apply Grew.alloc | apply Grew.drew | apply Grew.drewN))).setS (j := m) (by rw [HM.out]; omega) _ _).to rfl rfl rfl (by show (Vm.effect _ _ _).stack = s.stack.set m _; rw [set_top HM.out]; exact congrArg (fun v => s.stack.dropLast ++ [v]) HCV.out)))
end Go.Proofs.YtmdmbimfdpngaaaGreatDoor
