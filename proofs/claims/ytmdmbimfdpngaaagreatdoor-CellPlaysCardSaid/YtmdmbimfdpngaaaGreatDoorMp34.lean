import Derived.Test.YtmdmbimfdpngaaaGreatDoorMp32
/-! forebayref06.Run: operations at the top of the stack. -/
namespace Go.Proofs.YtmdmbimfdpngaaaGreatDoor
set_option linter.unusedSimpArgs false
set_option linter.unusedVariables false
open Go.RowKit Ga
set_option maxRecDepth 100000
theorem ownI_last {base : Nat} {e : TypeId} {w : World} {a : Option Addr} {c m : Nat} {s : Vm.St} (h : OwnAt base e 2 encI w (.slice a s.stack.length c) s.stack) (hm : s.stack.length = m + 1) :
    ∃ b c', Value.slice a s.stack.length c = .slice (some ⟨b, 0, none⟩) s.stack.length c' ∧ m + 1 ≤ c ∧ b < w.heap.size ∧ w.cell? ⟨b, m * 2, none⟩ = some (.int .i64 (Vm.top1 s).1) ∧ w.cell? ⟨b, m * 2 + 1, none⟩ = some (.int .i64 (Vm.top1 s).2) ∧ s.stack.take m ++ [Vm.top1 s] = s.stack := by
  have hr := h.rows encI_len
  obtain ⟨a', c', e1, _, hx⟩ := RowsAt.open2 (f := fun a : Val => Value.int .i64 a.1) (g := fun a : Val => Value.int .i64 a.2) hr
  cases e1
  obtain ⟨b, off, e2, hb, h0, h1⟩ := hx m (by omega)
  have htop : s.stack[m]'(by omega) = Vm.top1 s := by
    unfold Vm.top1
    rw [List.getLastD_eq_getLast?, List.getLast?_eq_getElem?, show s.stack.length - 1 = m by omega, List.getElem?_eq_getElem (show m < s.stack.length by omega)]
    rfl
  rw [htop] at h0 h1
  rcases h.form with ⟨h2, h3⟩ | ⟨b2, c2, h2, _, h4, _⟩
  · rw [h3] at hm; cases hm
  · cases h2
    cases e2
    simp at h0 h1
    refine ⟨_, _, rfl, by omega, hb, h0, h1, ?_⟩
    rw [← htop, ← List.take_succ_eq_append_getElem (show m < s.stack.length by omega)]
    exact List.take_of_length_le (by omega)

set_option maxHeartbeats 8000000 in
theorem op11_13 (l : List Val) (c : Vm.Cst) (s0 s : Vm.St) (w wr : World) (a : Option Addr) (cap b4 b5 b7 : Nat) (p q y : Int) (u : Nat → Value) (vo vs : Value) (K : Act → World → Prop) (Q : Exit → Act → World → Prop)
    (hv : ValsAt w (.slice a l.length cap) l) (hc : Vm.checkC l = some c) (hin : rightV (p, q) = true) (hR : RunAt w b4 b5 b7 p q wr vo vs s) (hA : Vm.At l c (p, q) s0 s) (hS : Vm.AllRight s)
    (u9 : u 9 = vo) (u10 : u 10 = vs) (u11 : u 11 = .int .i64 s.steps) (u12 : u 12 = .int .i64 s.pc) (hs0 : 0 ≤ s.steps ∧ s.steps ≤ 1000) (hout : s.out.length ≤ 1000)
    (hi : l[s.pc]? = some ((13, y) : Val)) (hK : ∀ (a' : Act) (w' : World), (∃ n, n < 60 - s.pc ∧ Next11 l c s0 w (.slice a l.length cap) b4 b5 b7 p q n a' w') → K a' w')
    (hX : ∀ (a' : Act) (w' : World), End11 l s0 w (.slice a l.length cap) b4 b5 b7 p q a' w' → Q (.exit 0) a' w') :
    Code.wp Tryz.prog ((Tryz.f57.body.bind firstLoop).getD .skip) (Exit.then K Q) (frame11 (.slice a l.length cap) b4 b5 b7 u) wr := by
  have hlt : s.pc < l.length := (List.getElem?_eq_some_iff.1 hi).1
  conv => arg 2; whnf
  unfold frame11
  rw [u9, u10, u11, u12]
  obtain ⟨b, off, rfl, hb, h0, h1⟩ := ((hv.grew hR.g).open2).elim fun a' h => h.elim fun c' h => by
    obtain ⟨e, -, hx⟩ := h
    cases e
    exact hx s.pc hlt
  have hl2 := hi
  rw [List.getElem?_eq_getElem hlt] at hl2
  have hl3 := Option.some.inj hl2
  rw [hl3] at h0 h1
  simp only at h0 h1
  have h24 := (Co.fits_parts (Vm.checkC_fits hc)).1
  have hra := Vm.right_parts' hc hi
  obtain ⟨ak, ck, rfl⟩ := own_sliceL hR.k
  have h8 := hA.len hc hlt
  have htk : ((13, y) : Val).1 ≠ 0 → Vm.takes ((13, y) : Val).1 ≤ s.stack.length := fun hx => (hA.next hc hi hx).1
  have HTK := Lib.hid htk
  have HR := Lib.hid hR
  have HA := Lib.hid hA
  have HS := Lib.hid hS
  have HI := Lib.hid hi
  have HK := Lib.hid hK
  have HX := Lib.hid hX
  have HC := Lib.hid hc
  clear hR hA hS hi hl2 hl3 hv hc u9 u10 u11 u12 hK hX htk
  have ht1 : 1 ≤ s.stack.length := Nat.le_trans (show 1 ≤ Vm.takes 13 by decide) (HTK.out (show (13 : Int) ≠ 0 by decide))
  obtain ⟨m, hm⟩ : ∃ m, s.stack.length = m + 1 := ⟨s.stack.length - 1, by omega⟩
  obtain ⟨bk, ck', hk', hck, hhk, kt0, kt1, hspl⟩ := ownI_last HR.out.k hm
  cases hk'
  have pk := Pre.mk hhk
  have hdl : s.stack.dropLast = s.stack.take m := by rw [List.dropLast_eq_take, hm]; rfl
  have HDL := Lib.hid hdl
  have h8' : m ≤ 7 := by omega
  have HM := Lib.hid hm
  have hrm := HR.out
  rw [hm] at hrm
  have HR := Lib.hid hrm
  clear hdl hhk ht1 hrm
  generalize htt : Vm.top1 s = tt at *
  have HTT := Lib.hid htt
  have HSPL := Lib.hid hspl
  clear htt hspl
  obtain ⟨tx, ty⟩ := tt
  simp only at kt0 kt1
  go_upto_region 6 with fail
  go_quiet (fail)
  clear h0 h1 hra
  go_wp2
  exact HK.out _ _ (Next11.step HC.out HA.out HS.out hin HI.out (by decide) rfl rfl (by show Value.int _ _ = Value.int _ _; go_num) (((HR.out.cutS (m := m) (by rw [HM.out]; omega)).grew (by repeat (first | with_reducible exact Grew.refl _ | apply Grew.more | apply Grew.alloc | apply Grew.drew | apply Grew.drewN))).to rfl rfl rfl HDL.out))

set_option maxHeartbeats 8000000 in
theorem op11_11 (l : List Val) (c : Vm.Cst) (s0 s : Vm.St) (w wr : World) (a : Option Addr) (cap b4 b5 b7 : Nat) (p q y : Int) (u : Nat → Value) (vo vs : Value) (K : Act → World → Prop) (Q : Exit → Act → World → Prop)
    (hv : ValsAt w (.slice a l.length cap) l) (hc : Vm.checkC l = some c) (hin : rightV (p, q) = true) (hR : RunAt w b4 b5 b7 p q wr vo vs s) (hA : Vm.At l c (p, q) s0 s) (hS : Vm.AllRight s)
    (u9 : u 9 = vo) (u10 : u 10 = vs) (u11 : u 11 = .int .i64 s.steps) (u12 : u 12 = .int .i64 s.pc) (hs0 : 0 ≤ s.steps ∧ s.steps ≤ 1000) (hout : s.out.length ≤ 1000)
    (hi : l[s.pc]? = some ((11, y) : Val)) (hK : ∀ (a' : Act) (w' : World), (∃ n, n < 60 - s.pc ∧ Next11 l c s0 w (.slice a l.length cap) b4 b5 b7 p q n a' w') → K a' w')
    (hX : ∀ (a' : Act) (w' : World), End11 l s0 w (.slice a l.length cap) b4 b5 b7 p q a' w' → Q (.exit 0) a' w') :
    Code.wp Tryz.prog ((Tryz.f57.body.bind firstLoop).getD .skip) (Exit.then K Q) (frame11 (.slice a l.length cap) b4 b5 b7 u) wr := by
  have hlt : s.pc < l.length := (List.getElem?_eq_some_iff.1 hi).1
  conv => arg 2; whnf
  unfold frame11
  rw [u9, u10, u11, u12]
  obtain ⟨b, off, rfl, hb, h0, h1⟩ := ((hv.grew hR.g).open2).elim fun a' h => h.elim fun c' h => by
    obtain ⟨e, -, hx⟩ := h
    cases e
    exact hx s.pc hlt
  have hl2 := hi
  rw [List.getElem?_eq_getElem hlt] at hl2
  have hl3 := Option.some.inj hl2
  rw [hl3] at h0 h1
  simp only at h0 h1
  have h24 := (Co.fits_parts (Vm.checkC_fits hc)).1
  have hra := Vm.right_parts' hc hi
  obtain ⟨ak, ck, rfl⟩ := own_sliceL hR.k
  have h8 := hA.len hc hlt
  have htk : ((11, y) : Val).1 ≠ 0 → Vm.takes ((11, y) : Val).1 ≤ s.stack.length := fun hx => (hA.next hc hi hx).1
  have HTK := Lib.hid htk
  have HR := Lib.hid hR
  have HA := Lib.hid hA
  have HS := Lib.hid hS
  have HI := Lib.hid hi
  have HK := Lib.hid hK
  have HX := Lib.hid hX
  have HC := Lib.hid hc
  clear hR hA hS hi hl2 hl3 hv hc u9 u10 u11 u12 hK hX htk
  have ht1 : 1 ≤ s.stack.length := Nat.le_trans (show 1 ≤ Vm.takes 11 by decide) (HTK.out (show (11 : Int) ≠ 0 by decide))
  obtain ⟨m, hm⟩ : ∃ m, s.stack.length = m + 1 := ⟨s.stack.length - 1, by omega⟩
  obtain ⟨bk, ck', hk', hck, hhk, kt0, kt1, hspl⟩ := ownI_last HR.out.k hm
  cases hk'
  have pk := Pre.mk hhk
  have hdl : s.stack.dropLast = s.stack.take m := by rw [List.dropLast_eq_take, hm]; rfl
  have HDL := Lib.hid hdl
  have h8' : m ≤ 7 := by omega
  have HM := Lib.hid hm
  have hrm := HR.out
  rw [hm] at hrm
  have HR := Lib.hid hrm
  clear hdl hhk ht1 hrm
  generalize htt : Vm.top1 s = tt at *
  have HTT := Lib.hid htt
  have HSPL := Lib.hid hspl
  clear htt hspl
  obtain ⟨tx, ty⟩ := tt
  simp only at kt0 kt1
  go_upto_region 6 with fail
  go_quiet (fail)
  clear h0 h1 hra
  go_wp2_with (at_builtin; refine wpList_ownK (w0 := w) (v := Value.slice (some ⟨bk, 0, none⟩) (m + 1) ck) rfl (.tmp 197) (.tmp 203) 108 _ _ _ _ [((tx, ty) : Val)] rfl Tryz.underlying108 infoVal rfl (by decide) encI_len encI_one rfl (HR.out.k.grew (by repeat (first | with_reducible exact Grew.refl _ | apply Grew.more | apply Grew.alloc | apply Grew.drew | apply Grew.drewN))) (HR.out.g.trans (by repeat (first | with_reducible exact Grew.refl _ | apply Grew.more | apply Grew.alloc | apply Grew.drew | apply Grew.drewN))) rfl (enc_new _ _ _ _ _ (by simp [go_sem]) rfl) (by simp; omega) (by decide) (by simp) ?_; intro v9 W9 hA9; obtain ⟨a9, c9, rfl⟩ := own_slice1 hA9.2.1; rw [HM.out] at hA9; (have HA9 := Lib.hid hA9); clear hA9)
  refine HK.out _ _ (Next11.step HC.out HA.out HS.out hin HI.out (by decide) rfl rfl (by show Value.int _ _ = Value.int _ _; go_num) ((HR.out.pushS (by repeat (first | with_reducible exact Grew.refl _ | apply Grew.more | apply Grew.alloc | apply Grew.drew | apply Grew.drewN)) HA9.out).to rfl rfl rfl ?_))
  show s.stack.dropLast ++ [Vm.top1 s] ++ [Vm.top1 s] = s.stack ++ [(tx, ty)]
  rw [HDL.out, HTT.out, HSPL.out]

set_option maxHeartbeats 8000000 in
theorem op11_14 (l : List Val) (c : Vm.Cst) (s0 s : Vm.St) (w wr : World) (a : Option Addr) (cap b4 b5 b7 : Nat) (p q y : Int) (u : Nat → Value) (vo vs : Value) (K : Act → World → Prop) (Q : Exit → Act → World → Prop)
    (hv : ValsAt w (.slice a l.length cap) l) (hc : Vm.checkC l = some c) (hin : rightV (p, q) = true) (hR : RunAt w b4 b5 b7 p q wr vo vs s) (hA : Vm.At l c (p, q) s0 s) (hS : Vm.AllRight s)
    (u9 : u 9 = vo) (u10 : u 10 = vs) (u11 : u 11 = .int .i64 s.steps) (u12 : u 12 = .int .i64 s.pc) (hs0 : 0 ≤ s.steps ∧ s.steps ≤ 1000) (hout : s.out.length ≤ 1000)
    (hi : l[s.pc]? = some ((14, y) : Val)) (hK : ∀ (a' : Act) (w' : World), (∃ n, n < 60 - s.pc ∧ Next11 l c s0 w (.slice a l.length cap) b4 b5 b7 p q n a' w') → K a' w')
    (hX : ∀ (a' : Act) (w' : World), End11 l s0 w (.slice a l.length cap) b4 b5 b7 p q a' w' → Q (.exit 0) a' w') :
    Code.wp Tryz.prog ((Tryz.f57.body.bind firstLoop).getD .skip) (Exit.then K Q) (frame11 (.slice a l.length cap) b4 b5 b7 u) wr := by
  have hlt : s.pc < l.length := (List.getElem?_eq_some_iff.1 hi).1
  conv => arg 2; whnf
  unfold frame11
  rw [u9, u10, u11, u12]
  obtain ⟨b, off, rfl, hb, h0, h1⟩ := ((hv.grew hR.g).open2).elim fun a' h => h.elim fun c' h => by
    obtain ⟨e, -, hx⟩ := h
    cases e
    exact hx s.pc hlt
  have hl2 := hi
  rw [List.getElem?_eq_getElem hlt] at hl2
  have hl3 := Option.some.inj hl2
  rw [hl3] at h0 h1
  simp only at h0 h1
  have h24 := (Co.fits_parts (Vm.checkC_fits hc)).1
  have hra := Vm.right_parts' hc hi
  obtain ⟨ak, ck, rfl⟩ := own_sliceL hR.k
  have h8 := hA.len hc hlt
  have htk : ((14, y) : Val).1 ≠ 0 → Vm.takes ((14, y) : Val).1 ≤ s.stack.length := fun hx => (hA.next hc hi hx).1
  have HTK := Lib.hid htk
  have HR := Lib.hid hR
  have HA := Lib.hid hA
  have HS := Lib.hid hS
  have HI := Lib.hid hi
  have HK := Lib.hid hK
  have HX := Lib.hid hX
  have HC := Lib.hid hc
  clear hR hA hS hi hl2 hl3 hv hc u9 u10 u11 u12 hK hX htk
  have ht1 : 1 ≤ s.stack.length := Nat.le_trans (show 1 ≤ Vm.takes 14 by decide) (HTK.out (show (14 : Int) ≠ 0 by decide))
  obtain ⟨m, hm⟩ : ∃ m, s.stack.length = m + 1 := ⟨s.stack.length - 1, by omega⟩
  obtain ⟨bk, ck', hk', hck, hhk, kt0, kt1, hspl⟩ := ownI_last HR.out.k hm
  cases hk'
  have pk := Pre.mk hhk
  have hdl : s.stack.dropLast = s.stack.take m := by rw [List.dropLast_eq_take, hm]; rfl
  have HDL := Lib.hid hdl
  have h8' : m ≤ 7 := by omega
  have HM := Lib.hid hm
  have hrm := HR.out
  rw [hm] at hrm
  have HR := Lib.hid hrm
  clear hdl hhk ht1 hrm
  generalize htt : Vm.top1 s = tt at *
  have HTT := Lib.hid htt
  have HSPL := Lib.hid hspl
  clear htt hspl
  obtain ⟨tx, ty⟩ := tt
  simp only at kt0 kt1
  obtain ⟨ao, co, rfl⟩ := own_sliceL HR.out.o
  go_upto_region 6 with fail
  go_quiet (fail)
  clear h0 h1 hra
  go_wp2_with (at_builtin; refine wpList_ownK (w0 := w) (v := Value.slice ao s.out.length co) rfl (.tmp 227) (.tmp 233) 108 _ _ _ _ [((tx, ty) : Val)] rfl Tryz.underlying108 infoVal rfl (by decide) encI_len encI_one rfl (HR.out.o.grew (by repeat (first | with_reducible exact Grew.refl _ | apply Grew.more | apply Grew.alloc | apply Grew.drew | apply Grew.drewN))) (HR.out.g.trans (by repeat (first | with_reducible exact Grew.refl _ | apply Grew.more | apply Grew.alloc | apply Grew.drew | apply Grew.drewN))) rfl (enc_new _ _ _ _ _ (by simp [go_sem]) rfl) (by simp; omega) (by decide) (by simp) ?_; intro v9 W9 hA9; obtain ⟨a9, c9, rfl⟩ := own_slice1 hA9.2.1; (have HA9 := Lib.hid hA9); clear hA9)
  refine HK.out _ _ (Next11.step HC.out HA.out HS.out hin HI.out (by decide) rfl rfl (by show Value.int _ _ = Value.int _ _; go_num) (((HR.out.pushO (by repeat (first | with_reducible exact Grew.refl _ | apply Grew.more | apply Grew.alloc | apply Grew.drew | apply Grew.drewN)) HA9.out).cutS (m := m) (by show m ≤ s.stack.length; rw [HM.out]; omega)).to ?_ rfl rfl HDL.out))
  show s.out ++ [Vm.top1 s] = s.out ++ [(tx, ty)]
  rw [HTT.out]
end Go.Proofs.YtmdmbimfdpngaaaGreatDoor

/-! forebayref06.Run: a jump where the top is zero; where it ends. -/
namespace Go.Proofs.YtmdmbimfdpngaaaGreatDoor
set_option linter.unusedSimpArgs false
set_option linter.unusedVariables false
open Go.RowKit Ga
set_option maxRecDepth 100000

set_option maxHeartbeats 8000000 in
theorem op11_15z (l : List Val) (c : Vm.Cst) (s0 s : Vm.St) (w wr : World) (a : Option Addr) (cap b4 b5 b7 : Nat) (p q y : Int) (u : Nat → Value) (vo vs : Value) (K : Act → World → Prop) (Q : Exit → Act → World → Prop)
    (hv : ValsAt w (.slice a l.length cap) l) (hc : Vm.checkC l = some c) (hin : rightV (p, q) = true) (hR : RunAt w b4 b5 b7 p q wr vo vs s) (hA : Vm.At l c (p, q) s0 s) (hS : Vm.AllRight s)
    (u9 : u 9 = vo) (u10 : u 10 = vs) (u11 : u 11 = .int .i64 s.steps) (u12 : u 12 = .int .i64 s.pc) (hs0 : 0 ≤ s.steps ∧ s.steps ≤ 1000) (hout : s.out.length ≤ 1000)
    (hi : l[s.pc]? = some ((15, y) : Val)) (hK : ∀ (a' : Act) (w' : World), (∃ n, n < 60 - s.pc ∧ Next11 l c s0 w (.slice a l.length cap) b4 b5 b7 p q n a' w') → K a' w')
    (hz : Vm.top1 s = (0, 0))
    (hX : ∀ (a' : Act) (w' : World), End11 l s0 w (.slice a l.length cap) b4 b5 b7 p q a' w' → Q (.exit 0) a' w') :
    Code.wp Tryz.prog ((Tryz.f57.body.bind firstLoop).getD .skip) (Exit.then K Q) (frame11 (.slice a l.length cap) b4 b5 b7 u) wr := by
  have hlt : s.pc < l.length := (List.getElem?_eq_some_iff.1 hi).1
  conv => arg 2; whnf
  unfold frame11
  rw [u9, u10, u11, u12]
  obtain ⟨b, off, rfl, hb, h0, h1⟩ := ((hv.grew hR.g).open2).elim fun a' h => h.elim fun c' h => by
    obtain ⟨e, -, hx⟩ := h
    cases e
    exact hx s.pc hlt
  have hl2 := hi
  rw [List.getElem?_eq_getElem hlt] at hl2
  have hl3 := Option.some.inj hl2
  rw [hl3] at h0 h1
  simp only at h0 h1
  have h24 := (Co.fits_parts (Vm.checkC_fits hc)).1
  have hra := Vm.right_parts' hc hi
  obtain ⟨ak, ck, rfl⟩ := own_sliceL hR.k
  have h8 := hA.len hc hlt
  have htk : ((15, y) : Val).1 ≠ 0 → Vm.takes ((15, y) : Val).1 ≤ s.stack.length := fun hx => (hA.next hc hi hx).1
  have HTK := Lib.hid htk
  have HR := Lib.hid hR
  have HA := Lib.hid hA
  have HS := Lib.hid hS
  have HI := Lib.hid hi
  have HK := Lib.hid hK
  have HX := Lib.hid hX
  have HC := Lib.hid hc
  clear hR hA hS hi hl2 hl3 hv hc u9 u10 u11 u12 hK hX htk
  have hy := hra.2.2.2.2.1 (.inl rfl)
  have hzr := Vm.zero_ref HS.out.top
  have hzz : zeroV (Vm.top1 (Vm.fetch s)) = true := by show zeroV (Vm.top1 s) = true; rw [hzr]; exact decide_eq_true hz
  have HZ := Lib.hid hzz
  clear hzr hzz
  have ht1 : 1 ≤ s.stack.length := Nat.le_trans (show 1 ≤ Vm.takes 15 by decide) (HTK.out (show (15 : Int) ≠ 0 by decide))
  obtain ⟨m, hm⟩ : ∃ m, s.stack.length = m + 1 := ⟨s.stack.length - 1, by omega⟩
  obtain ⟨bk, ck', hk', hck, hhk, kt0, kt1, hspl⟩ := ownI_last HR.out.k hm
  cases hk'
  have pk := Pre.mk hhk
  have hdl : s.stack.dropLast = s.stack.take m := by rw [List.dropLast_eq_take, hm]; rfl
  have HDL := Lib.hid hdl
  have h8' : m ≤ 7 := by omega
  have HM := Lib.hid hm
  have hrm := HR.out
  rw [hm] at hrm
  have HR := Lib.hid hrm
  clear hdl hhk ht1 hrm
  generalize htt : Vm.top1 s = tt at *
  have HTT := Lib.hid htt
  have HSPL := Lib.hid hspl
  clear htt hspl
  obtain ⟨tx, ty⟩ := tt
  simp only at kt0 kt1
  simp only [Prod.mk.injEq] at hz
  obtain ⟨rfl, rfl⟩ := hz
  have hq := run_eql_val 0 0 0 0 true (by decide)
  go_upto_region 6 with fail
  go_quiet (fail)
  clear h0 h1 hra
  go_wp2
  exact HK.out _ _ (Next11.step HC.out HA.out HS.out hin HI.out (by decide) rfl rfl (by rw [Vm.eff15, if_pos HZ.out]; show Value.int _ _ = Value.int _ ((s.pc + 1 + y.toNat : Nat) : Int); go_num) (((HR.out.cutS (m := m) (by rw [HM.out]; omega)).grew (by repeat (first | with_reducible exact Grew.refl _ | apply Grew.more | apply Grew.alloc | apply Grew.drew | apply Grew.drewN))).to (by rw [Vm.eff15, if_pos HZ.out]; rfl) (by rw [Vm.eff15, if_pos HZ.out]; rfl) (by rw [Vm.eff15, if_pos HZ.out]; rfl) (by rw [Vm.eff15, if_pos HZ.out]; exact HDL.out)))

set_option maxHeartbeats 8000000 in
theorem op11_15n (l : List Val) (c : Vm.Cst) (s0 s : Vm.St) (w wr : World) (a : Option Addr) (cap b4 b5 b7 : Nat) (p q y : Int) (u : Nat → Value) (vo vs : Value) (K : Act → World → Prop) (Q : Exit → Act → World → Prop)
    (hv : ValsAt w (.slice a l.length cap) l) (hc : Vm.checkC l = some c) (hin : rightV (p, q) = true) (hR : RunAt w b4 b5 b7 p q wr vo vs s) (hA : Vm.At l c (p, q) s0 s) (hS : Vm.AllRight s)
    (u9 : u 9 = vo) (u10 : u 10 = vs) (u11 : u 11 = .int .i64 s.steps) (u12 : u 12 = .int .i64 s.pc) (hs0 : 0 ≤ s.steps ∧ s.steps ≤ 1000) (hout : s.out.length ≤ 1000)
    (hi : l[s.pc]? = some ((15, y) : Val)) (hK : ∀ (a' : Act) (w' : World), (∃ n, n < 60 - s.pc ∧ Next11 l c s0 w (.slice a l.length cap) b4 b5 b7 p q n a' w') → K a' w')
    (hz : Vm.top1 s ≠ (0, 0))
    (hX : ∀ (a' : Act) (w' : World), End11 l s0 w (.slice a l.length cap) b4 b5 b7 p q a' w' → Q (.exit 0) a' w') :
    Code.wp Tryz.prog ((Tryz.f57.body.bind firstLoop).getD .skip) (Exit.then K Q) (frame11 (.slice a l.length cap) b4 b5 b7 u) wr := by
  have hlt : s.pc < l.length := (List.getElem?_eq_some_iff.1 hi).1
  conv => arg 2; whnf
  unfold frame11
  rw [u9, u10, u11, u12]
  obtain ⟨b, off, rfl, hb, h0, h1⟩ := ((hv.grew hR.g).open2).elim fun a' h => h.elim fun c' h => by
    obtain ⟨e, -, hx⟩ := h
    cases e
    exact hx s.pc hlt
  have hl2 := hi
  rw [List.getElem?_eq_getElem hlt] at hl2
  have hl3 := Option.some.inj hl2
  rw [hl3] at h0 h1
  simp only at h0 h1
  have h24 := (Co.fits_parts (Vm.checkC_fits hc)).1
  have hra := Vm.right_parts' hc hi
  obtain ⟨ak, ck, rfl⟩ := own_sliceL hR.k
  have h8 := hA.len hc hlt
  have htk : ((15, y) : Val).1 ≠ 0 → Vm.takes ((15, y) : Val).1 ≤ s.stack.length := fun hx => (hA.next hc hi hx).1
  have HTK := Lib.hid htk
  have HR := Lib.hid hR
  have HA := Lib.hid hA
  have HS := Lib.hid hS
  have HI := Lib.hid hi
  have HK := Lib.hid hK
  have HX := Lib.hid hX
  have HC := Lib.hid hc
  clear hR hA hS hi hl2 hl3 hv hc u9 u10 u11 u12 hK hX htk
  have hy := hra.2.2.2.2.1 (.inl rfl)
  have hzr := Vm.zero_ref HS.out.top
  have hzz : ¬ zeroV (Vm.top1 (Vm.fetch s)) = true := by show ¬ zeroV (Vm.top1 s) = true; rw [hzr]; simpa using hz
  have HZ := Lib.hid hzz
  clear hzr hzz
  have ht1 : 1 ≤ s.stack.length := Nat.le_trans (show 1 ≤ Vm.takes 15 by decide) (HTK.out (show (15 : Int) ≠ 0 by decide))
  obtain ⟨m, hm⟩ : ∃ m, s.stack.length = m + 1 := ⟨s.stack.length - 1, by omega⟩
  obtain ⟨bk, ck', hk', hck, hhk, kt0, kt1, hspl⟩ := ownI_last HR.out.k hm
  cases hk'
  have pk := Pre.mk hhk
  have hdl : s.stack.dropLast = s.stack.take m := by rw [List.dropLast_eq_take, hm]; rfl
  have HDL := Lib.hid hdl
  have h8' : m ≤ 7 := by omega
  have HM := Lib.hid hm
  have hrm := HR.out
  rw [hm] at hrm
  have HR := Lib.hid hrm
  clear hdl hhk ht1 hrm
  generalize htt : Vm.top1 s = tt at *
  have HTT := Lib.hid htt
  have HSPL := Lib.hid hspl
  clear htt hspl
  obtain ⟨tx, ty⟩ := tt
  simp only at kt0 kt1
  have hq := run_eql_val tx ty 0 0 false (by
    symm
    simp only [Bool.and_eq_false_iff, decide_eq_false_iff_not]
    simp only [ne_eq, Prod.mk.injEq] at hz
    omega)
  clear hz
  go_upto_region 6 with fail
  go_quiet (fail)
  clear h0 h1 hra
  go_wp2
  exact HK.out _ _ (Next11.step HC.out HA.out HS.out hin HI.out (by decide) rfl rfl (by rw [Vm.eff15, if_neg HZ.out]; show Value.int _ _ = Value.int _ _; go_num) (((HR.out.cutS (m := m) (by rw [HM.out]; omega)).grew (by repeat (first | with_reducible exact Grew.refl _ | apply Grew.more | apply Grew.alloc | apply Grew.drew | apply Grew.drewN))).to (by rw [Vm.eff15, if_neg HZ.out]; rfl) (by rw [Vm.eff15, if_neg HZ.out]; rfl) (by rw [Vm.eff15, if_neg HZ.out]; rfl) (by rw [Vm.eff15, if_neg HZ.out]; exact HDL.out)))

set_option maxHeartbeats 8000000 in
theorem op11_0 (l : List Val) (c : Vm.Cst) (s0 s : Vm.St) (w wr : World) (a : Option Addr) (cap b4 b5 b7 : Nat) (p q y : Int) (u : Nat → Value) (vo vs : Value) (K : Act → World → Prop) (Q : Exit → Act → World → Prop)
    (hv : ValsAt w (.slice a l.length cap) l) (hc : Vm.checkC l = some c) (hin : rightV (p, q) = true) (hR : RunAt w b4 b5 b7 p q wr vo vs s) (hA : Vm.At l c (p, q) s0 s) (hS : Vm.AllRight s)
    (u9 : u 9 = vo) (u10 : u 10 = vs) (u11 : u 11 = .int .i64 s.steps) (u12 : u 12 = .int .i64 s.pc) (hs0 : 0 ≤ s.steps ∧ s.steps ≤ 1000) (hout : s.out.length ≤ 1000)
    (hi : l[s.pc]? = some ((0, y) : Val)) (hK : ∀ (a' : Act) (w' : World), (∃ n, n < 60 - s.pc ∧ Next11 l c s0 w (.slice a l.length cap) b4 b5 b7 p q n a' w') → K a' w')
    (hX : ∀ (a' : Act) (w' : World), End11 l s0 w (.slice a l.length cap) b4 b5 b7 p q a' w' → Q (.exit 0) a' w') :
    Code.wp Tryz.prog ((Tryz.f57.body.bind firstLoop).getD .skip) (Exit.then K Q) (frame11 (.slice a l.length cap) b4 b5 b7 u) wr := by
  have hlt : s.pc < l.length := (List.getElem?_eq_some_iff.1 hi).1
  conv => arg 2; whnf
  unfold frame11
  rw [u9, u10, u11, u12]
  obtain ⟨b, off, rfl, hb, h0, h1⟩ := ((hv.grew hR.g).open2).elim fun a' h => h.elim fun c' h => by
    obtain ⟨e, -, hx⟩ := h
    cases e
    exact hx s.pc hlt
  have hl2 := hi
  rw [List.getElem?_eq_getElem hlt] at hl2
  have hl3 := Option.some.inj hl2
  rw [hl3] at h0 h1
  simp only at h0 h1
  have h24 := (Co.fits_parts (Vm.checkC_fits hc)).1
  have hra := Vm.right_parts' hc hi
  obtain ⟨ak, ck, rfl⟩ := own_sliceL hR.k
  have h8 := hA.len hc hlt
  have htk : ((0, y) : Val).1 ≠ 0 → Vm.takes ((0, y) : Val).1 ≤ s.stack.length := fun hx => (hA.next hc hi hx).1
  have HTK := Lib.hid htk
  have HR := Lib.hid hR
  have HA := Lib.hid hA
  have HS := Lib.hid hS
  have HI := Lib.hid hi
  have HK := Lib.hid hK
  have HX := Lib.hid hX
  have HC := Lib.hid hc
  clear hR hA hS hi hl2 hl3 hv hc u9 u10 u11 u12 hK hX htk
  go_upto_region 6 with fail
  go_quiet (fail)
  clear h0 h1 hra
  go_wp2
  refine HX.out _ _ (End11.mk (Vm.fetch s) _ rfl rfl ((HR.out.grew (by repeat (first | with_reducible exact Grew.refl _ | apply Grew.more | apply Grew.alloc | apply Grew.drew | apply Grew.drewN))).to rfl rfl rfl rfl) ?_)
  rw [← HA.out.dn, Vm.done_halt HI.out rfl]
  exact ⟨rfl, rfl, rfl, rfl⟩

set_option maxHeartbeats 8000000 in
theorem op11_end (l : List Val) (c : Vm.Cst) (s0 s : Vm.St) (w wr : World) (a : Option Addr) (cap b4 b5 b7 : Nat) (p q : Int) (u : Nat → Value) (vo vs : Value) (K : Act → World → Prop) (Q : Exit → Act → World → Prop)
    (hv : ValsAt w (.slice a l.length cap) l) (hc : Vm.checkC l = some c) (hin : rightV (p, q) = true) (hR : RunAt w b4 b5 b7 p q wr vo vs s) (hA : Vm.At l c (p, q) s0 s) (hS : Vm.AllRight s)
    (u9 : u 9 = vo) (u10 : u 10 = vs) (u11 : u 11 = .int .i64 s.steps) (u12 : u 12 = .int .i64 s.pc) (hs0 : 0 ≤ s.steps ∧ s.steps ≤ 1000) (hout : s.out.length ≤ 1000)
    (hge : l.length ≤ s.pc) (hK : ∀ (a' : Act) (w' : World), (∃ n, n < 60 - s.pc ∧ Next11 l c s0 w (.slice a l.length cap) b4 b5 b7 p q n a' w') → K a' w')
    (hX : ∀ (a' : Act) (w' : World), End11 l s0 w (.slice a l.length cap) b4 b5 b7 p q a' w' → Q (.exit 0) a' w') :
    Code.wp Tryz.prog ((Tryz.f57.body.bind firstLoop).getD .skip) (Exit.then K Q) (frame11 (.slice a l.length cap) b4 b5 b7 u) wr := by
  conv => arg 2; whnf
  unfold frame11
  rw [u9, u10, u11, u12]
  have h48 := hA.pc
  have h24 := (Co.fits_parts (Vm.checkC_fits hc)).1
  have HR := Lib.hid hR
  have HA := Lib.hid hA
  have HX := Lib.hid hX
  clear hR hA hS hv hc u9 u10 u11 u12 hK hX
  go_wp2
  refine HX.out _ _ (End11.mk s _ rfl rfl (HR.out.grew (by repeat (first | with_reducible exact Grew.refl _ | apply Grew.more | apply Grew.alloc | apply Grew.drew | apply Grew.drewN))) ?_)
  rw [← HA.out.dn, Vm.done_none hge]
  exact ⟨rfl, rfl, rfl, rfl⟩
end Go.Proofs.YtmdmbimfdpngaaaGreatDoor
