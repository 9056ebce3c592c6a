import Derived.Test.YtiocdmfmghanmaaGreatDoorMg44
/-! forebayref06.Run: a jump where the top is zero; where it ends. -/
namespace Go.Proofs.YtiocdmfmghanmaaGreatDoor
set_option linter.unusedSimpArgs false
set_option linter.unusedVariables false
open Go.RowKit Ga
set_option maxRecDepth 100000

set_option maxHeartbeats 8000000 in
theorem op11_15z (l : List Val) (c : Vm.Cst) (s0 s : Vm.St) (w wr : World) (a : Option Addr) (cap b4 b5 b7 : Nat) (p q y : Int) (u : Nat → Value) (vo vs : Value) (K : Act → World → Prop) (Q : Exit → Act → World → Prop)
    (hv : ValsAt w (.slice a l.length cap) l) (hc : Vm.checkC l = some c) (hin : rightV (p, q) = true) (hR : RunAt w b4 b5 b7 p q wr vo vs s) (hA : Vm.At l c (p, q) s0 s) (hS : Vm.AllRight s)
    (u9 : u 9 = vo) (u10 : u 10 = vs) (u11 : u 11 = .int .i64 s.steps) (u12 : u 12 = .int .i64 s.pc) (hs0 : 0 ≤ s.steps ∧ s.steps ≤ 1000) (hout : s.out.length ≤ 1000)
    (hi : l[s.pc]? = some ((15, y) : Val)) (hK : ∀ (a' : Act) (w' : World), (∃ n, n < 60 - s.pc ∧ Next11 l c s0 w (.slice a l.length cap) b4 b5 b7 p q n a' w') → K a' w')
    (hz : Vm.top1 s = (0, 0))
    (hX : ∀ (a' : Act) (w' : World), End11 l s0 w (.slice a l.length cap) b4 b5 b7 p q a' w' → Q (.exit 0) a' w') :
    Code.wp Tryz.prog ((Tryz.f11.body.bind firstLoop).getD .skip) (Exit.then K Q) (frame11 (.slice a l.length cap) b4 b5 b7 u) wr := by
  have hlt : s.pc < l.length := (List.getElem?_eq_some_iff.1 hi).1
  conv => arg 2; whnf
  unfold frame11
  rw [u9, u10, u11, u12]
  obtain ⟨b, off, rfl, hb, h0, h1⟩ := ((hv.grew hR.g).open2).elim fun a' h => h.elim fun c' h => by
    obtain ⟨e, -, hx⟩ := h
    cases e
    exact hx s.pc hlt
  have hl2 := hi
  rw [List.getElem?_eq_getElem hlt] at hl2
  have hl3 := Option.some.inj hl2
  rw [hl3] at h0 h1
  simp only at h0 h1
  have h24 := (Co.fits_parts (Vm.checkC_fits hc)).1
  have hra := Vm.right_parts' hc hi
  obtain ⟨ak, ck, rfl⟩ := own_sliceL hR.k
  have h8 := hA.len hc hlt
  have htk : ((15, y) : Val).1 ≠ 0 → Vm.takes ((15, y) : Val).1 ≤ s.stack.length := fun hx => (hA.next hc hi hx).1
  have HTK := Lib.hid htk
  have HR := Lib.hid hR
  have HA := Lib.hid hA
  have HS := Lib.hid hS
  have HI := Lib.hid hi
  have HK := Lib.hid hK
  have HX := Lib.hid hX
  have HC := Lib.hid hc
  clear hR hA hS hi hl2 hl3 hv hc u9 u10 u11 u12 hK hX htk
  have hy := hra.2.2.2.2.1 (.inl rfl)
  have hzr := Vm.zero_ref HS.out.top
  have hzz : zeroV (Vm.top1 (Vm.fetch s)) = true := by show zeroV (Vm.top1 s) = true; rw [hzr]; exact decide_eq_true hz
  have HZ := Lib.hid hzz
  clear hzr hzz
  have ht1 : 1 ≤ s.stack.length := Nat.le_trans (show 1 ≤ Vm.takes 15 by decide) (HTK.out (show (15 : Int) ≠ 0 by decide))
  obtain ⟨m, hm⟩ : ∃ m, s.stack.length = m + 1 := ⟨s.stack.length - 1, by omega⟩
  obtain ⟨bk, ck', hk', hck, hhk, kt0, kt1, hspl⟩ := ownI_last HR.out.k hm
  cases hk'
  have pk := Pre.mk hhk
  have hdl : s.stack.dropLast = s.stack.take m := by rw [List.dropLast_eq_take, hm]; rfl
  have HDL := Lib.hid hdl
  have h8' : m ≤ 7 := by omega
  have HM := Lib.hid hm
  have hrm := HR.out
  rw [hm] at hrm
  have HR := Lib.hid hrm
  clear hdl hhk ht1 hrm
  generalize htt : Vm.top1 s = tt at *
  have HTT := Lib.hid htt
  have HSPL := Lib.hid hspl
  clear htt hspl
  obtain ⟨tx, ty⟩ := tt
  simp only at kt0 kt1
  simp only [Prod.mk.injEq] at hz
  obtain ⟨rfl, rfl⟩ := hz
  have hq := run_eql_val 0 0 0 0 true (by decide)
  go_upto_region 6 with fail
  go_quiet (fail)
  clear h0 h1 hra
  go_wp2
  exact HK.out _ _ (Next11.step HC.out HA.out HS.out hin HI.out (by decide) rfl rfl (by rw [Vm.eff15, if_pos HZ.out]; show Value.int _ _ = Value.int _ ((s.pc + 1 + y.toNat : Nat) : Int); go_num) (((HR.out.cutS (m := m) (by rw [HM.out]; omega)).grew (by repeat (first | with_reducible exact Grew.refl _ | apply Grew.more | apply Grew.alloc | apply Grew.drew | apply Grew.drewN))).to (by rw [Vm.eff15, if_pos HZ.out]; rfl) (by rw [Vm.eff15, if_pos HZ.out]; rfl) (by rw [Vm.eff15, if_pos HZ.out]; rfl) (by rw [Vm.eff15, if_pos HZ.out]; exact HDL.out)))

set_option maxHeartbeats 8000000 in
theorem op11_15n (l : List Val) (c : Vm.Cst) (s0 s : Vm.St) (w wr : World) (a : Option Addr) (cap b4 b5 b7 : Nat) (p q y : Int) (u : Nat → Value) (vo vs : Value) (K : Act → World → Prop) (Q : Exit → Act → World → Prop)
    (hv : ValsAt w (.slice a l.length cap) l) (hc : Vm.checkC l = some c) (hin : rightV (p, q) = true) (hR : RunAt w b4 b5 b7 p q wr vo vs s) (hA : Vm.At l c (p, q) s0 s) (hS : Vm.AllRight s)
    (u9 : u 9 = vo) (u10 : u 10 = vs) (u11 : u 11 = .int .i64 s.steps) (u12 : u 12 = .int .i64 s.pc) (hs0 : 0 ≤ s.steps ∧ s.steps ≤ 1000) (hout : s.out.length ≤ 1000)
    (hi : l[s.pc]? = some ((15, y) : Val)) (hK : ∀ (a' : Act) (w' : World), (∃ n, n < 60 - s.pc ∧ Next11 l c s0 w (.slice a l.length cap) b4 b5 b7 p q n a' w') → K a' w')
    (hz : Vm.top1 s ≠ (0, 0))
    (hX : ∀ (a' : Act) (w' : World), End11 l s0 w (.slice a l.length cap) b4 b5 b7 p q a' w' → Q (.exit 0) a' w') :
    Code.wp Tryz.prog ((Tryz.f11.body.bind firstLoop).getD .skip) (Exit.then K Q) (frame11 (.slice a l.length cap) b4 b5 b7 u) wr := by
  have hlt : s.pc < l.length := (List.getElem?_eq_some_iff.1 hi).1
  conv => arg 2; whnf
  unfold frame11
  rw [u9, u10, u11, u12]
  obtain ⟨b, off, rfl, hb, h0, h1⟩ := ((hv.grew hR.g).open2).elim fun a' h => h.elim fun c' h => by
    obtain ⟨e, -, hx⟩ := h
    cases e
    exact hx s.pc hlt
  have hl2 := hi
  rw [List.getElem?_eq_getElem hlt] at hl2
  have hl3 := Option.some.inj hl2
  rw [hl3] at h0 h1
  simp only at h0 h1
  have h24 := (Co.fits_parts (Vm.checkC_fits hc)).1
  have hra := Vm.right_parts' hc hi
  obtain ⟨ak, ck, rfl⟩ := own_sliceL hR.k
  have h8 := hA.len hc hlt
  have htk : ((15, y) : Val).1 ≠ 0 → Vm.takes ((15, y) : Val).1 ≤ s.stack.length := fun hx => (hA.next hc hi hx).1
  have HTK := Lib.hid htk
  have HR := Lib.hid hR
  have HA := Lib.hid hA
  have HS := Lib.hid hS
  have HI := Lib.hid hi
  have HK := Lib.hid hK
  have HX := Lib.hid hX
  have HC := Lib.hid hc
  clear hR hA hS hi hl2 hl3 hv hc u9 u10 u11 u12 hK hX htk
  have hy := hra.2.2.2.2.1 (.inl rfl)
  have hzr := Vm.zero_ref HS.out.top
  have hzz : ¬ zeroV (Vm.top1 (Vm.fetch s)) = true := by show ¬ zeroV (Vm.top1 s) = true; rw [hzr]; simpa using hz
  have HZ := Lib.hid hzz
  clear hzr hzz
  have ht1 : 1 ≤ s.stack.length := Nat.le_trans (show 1 ≤ Vm.takes 15 by decide) (HTK.out (show (15 : Int) ≠ 0 by decide))
  obtain ⟨m, hm⟩ : ∃ m, s.stack.length = m + 1 := ⟨s.stack.length - 1, by omega⟩
  obtain ⟨bk, ck', hk', hck, hhk, kt0, kt1, hspl⟩ := ownI_last HR.out.k hm
  cases hk'
  have pk := Pre.mk hhk
  have hdl : s.stack.dropLast = s.stack.take m := by rw [List.dropLast_eq_take, hm]; rfl
  have HDL := Lib.hid hdl
  have h8' : m ≤ 7 := by omega
  have HM := Lib.hid hm
  have hrm := HR.out
  rw [hm] at hrm
  have HR := Lib.hid hrm
  clear hdl hhk ht1 hrm
  generalize htt : Vm.top1 s = tt at *
  have HTT := Lib.hid htt
  have HSPL := Lib.hid hspl
  clear htt hspl
  obtain ⟨tx, ty⟩ := tt
  simp only at kt0 kt1
  have hq := run_eql_val tx ty 0 0 false (by
    symm
    simp only [Bool.and_eq_false_iff, decide_eq_false_iff_not]
    simp only [ne_eq, Prod.mk.injEq] at hz
    omega)
  clear hz
  go_upto_region 6 with fail
  go_quiet (fail)
  clear h0 h1 hra
  go_wp2
  exact HK.out _ _ (Next11.step HC.out HA.out HS.out hin HI.out (by decide) rfl rfl (by rw [Vm.eff15, if_neg HZ.out]; show Value.int _ _ = Value.int _ _; go_num) (((HR.out.cutS (m := m) (by rw [HM.out]; omega)).grew (by repeat (first | with_reducible exact Grew.refl _ | apply Grew.more | apply Grew.alloc | apply Grew.drew | apply Grew.drewN))).to (by rw [Vm.eff15, if_neg HZ.out]; rfl) (by rw [Vm.eff15, if_neg HZ.out]; rfl) (by rw [Vm.eff15, if_neg HZ.out]; rfl) (by rw [Vm.eff15, if_neg HZ.out]; exact HDL.out)))

set_option maxHeartbeats 8000000 in
theorem op11_0 (l : List Val) (c : Vm.Cst) (s0 s : Vm.St) (w wr : World) (a : Option Addr) (cap b4 b5 b7 : Nat) (p q y : Int) (u : Nat → Value) (vo vs : Value) (K : Act → World → Prop) (Q : Exit → Act → World → Prop)
    (hv : ValsAt w (.slice a l.length cap) l) (hc : Vm.checkC l = some c) (hin : rightV (p, q) = true) (hR : RunAt w b4 b5 b7 p q wr vo vs s) (hA : Vm.At l c (p, q) s0 s) (hS : Vm.AllRight s)
    (u9 : u 9 = vo) (u10 : u 10 = vs) (u11 : u 11 = .int .i64 s.steps) (u12 : u 12 = .int .i64 s.pc) (hs0 : 0 ≤ s.steps ∧ s.steps ≤ 1000) (hout : s.out.length ≤ 1000)
    (hi : l[s.pc]? = some ((0, y) : Val)) (hK : ∀ (a' : Act) (w' : World), (∃ n, n < 60 - s.pc ∧ Next11 l c s0 w (.slice a l.length cap) b4 b5 b7 p q n a' w') → K a' w')
    (hX : ∀ (a' : Act) (w' : World), End11 l s0 w (.slice a l.length cap) b4 b5 b7 p q a' w' → Q (.exit 0) a' w') :
    Code.wp Tryz.prog ((Tryz.f11.body.bind firstLoop).getD .skip) (Exit.then K Q) (frame11 (.slice a l.length cap) b4 b5 b7 u) wr := by
  have hlt : s.pc < l.length := (List.getElem?_eq_some_iff.1 hi).1
  conv => arg 2; whnf
  unfold frame11
  rw [u9, u10, u11, u12]
  obtain ⟨b, off, rfl, hb, h0, h1⟩ := ((hv.grew hR.g).open2).elim fun a' h => h.elim fun c' h => by
    obtain ⟨e, -, hx⟩ := h
    cases e
    exact hx s.pc hlt
  have hl2 := hi
  rw [List.getElem?_eq_getElem hlt] at hl2
  have hl3 := Option.some.inj hl2
  rw [hl3] at h0 h1
  simp only at h0 h1
  have h24 := (Co.fits_parts (Vm.checkC_fits hc)).1
  have hra := Vm.right_parts' hc hi
  obtain ⟨ak, ck, rfl⟩ := own_sliceL hR.k
  have h8 := hA.len hc hlt
  have htk : ((0, y) : Val).1 ≠ 0 → Vm.takes ((0, y) : Val).1 ≤ s.stack.length := fun hx => (hA.next hc hi hx).1
  have HTK := Lib.hid htk
  have HR := Lib.hid hR
  have HA := Lib.hid hA
  have HS := Lib.hid hS
  have HI := Lib.hid hi
  have HK := Lib.hid hK
  have HX := Lib.hid hX
  have HC := Lib.hid hc
  clear hR hA hS hi hl2 hl3 hv hc u9 u10 u11 u12 hK hX htk
  go_upto_region 6 with fail
  go_quiet (fail)
  clear h0 h1 hra
  go_wp2
  refine HX.out _ _ (End11.mk (Vm.fetch s) _ rfl rfl ((HR.out.grew (by repeat (first | with_reducible exact Grew.refl _ | apply Grew.more | apply Grew.alloc | apply Grew.drew | apply Grew.drewN))).to rfl rfl rfl rfl) ?_)
  rw [← HA.out.dn, Vm.done_halt HI.out rfl]
  exact ⟨rfl, rfl, rfl, rfl⟩

set_option maxHeartbeats 8000000 in
theorem op11_end (l : List Val) (c : Vm.Cst) (s0 s : Vm.St) (w wr : World) (a : Option Addr) (cap b4 b5 b7 : Nat) (p q : Int) (u : Nat → Value) (vo vs : Value) (K : Act → World → Prop) (Q : Exit → Act → World → Prop)
    (hv : ValsAt w (.slice a l.length cap) l) (hc : Vm.checkC l = some c) (hin : rightV (p, q) = true) (hR : RunAt w b4 b5 b7 p q wr vo vs s) (hA : Vm.At l c (p, q) s0 s) (hS : Vm.AllRight s)
    (u9 : u 9 = vo) (u10 : u 10 = vs) (u11 : u 11 = .int .i64 s.steps) (u12 : u 12 = .int .i64 s.pc) (hs0 : 0 ≤ s.steps ∧ s.steps ≤ 1000) (hout : s.out.length ≤ 1000)
    (hge : l.length ≤ s.pc) (hK : ∀ (a' : Act) (w' : World), (∃ n, n < 60 - s.pc ∧ Next11 l c s0 w (.slice a l.length cap) b4 b5 b7 p q n a' w') → K a' w')
    (hX : ∀ (a' : Act) (w' : World), End11 l s0 w (.slice a l.length cap) b4 b5 b7 p q a' w' → Q (.exit 0) a' w') :
    Code.wp Tryz.prog ((Tryz.f11.body.bind firstLoop).getD .skip) (Exit.then K Q) (frame11 (.slice a l.length cap) b4 b5 b7 u) wr := by
  conv => arg 2; whnf
  unfold frame11
  rw [u9, u10, u11, u12]
  have h48 := hA.pc
  have h24 := (Co.fits_parts (Vm.checkC_fits hc)).1
  have HR := Lib.hid hR
  have HA := Lib.hid hA
  have HX := Lib.hid hX
  clear hR hA hS hv hc u9 u10 u11 u12 hK hX
  go_wp2
  refine HX.out _ _ (End11.mk s _ rfl rfl (HR.out.grew (by repeat (first | with_reducible exact Grew.refl _ | apply Grew.more | apply Grew.alloc | apply Grew.drew | apply Grew.drewN))) ?_)
  rw [← HA.out.dn, Vm.done_none hge]
  exact ⟨rfl, rfl, rfl, rfl⟩
end Go.Proofs.YtiocdmfmghanmaaGreatDoor
