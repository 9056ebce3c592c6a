import Derived.Test.YtmdmbimfdpngaaaGreatDoorMp32
/-! forebayref06.Run: operations that push. -/
namespace Go.Proofs.YtmdmbimfdpngaaaGreatDoor
set_option linter.unusedSimpArgs false
set_option linter.unusedVariables false
open Go.RowKit Ga
set_option maxRecDepth 100000

set_option maxHeartbeats 8000000 in
theorem op11_1 (l : List Val) (c : Vm.Cst) (s0 s : Vm.St) (w wr : World) (a : Option Addr) (cap b4 b5 b7 : Nat) (p q y : Int) (u : Nat → Value) (vo vs : Value) (K : Act → World → Prop) (Q : Exit → Act → World → Prop)
    (hv : ValsAt w (.slice a l.length cap) l) (hc : Vm.checkC l = some c) (hin : rightV (p, q) = true) (hR : RunAt w b4 b5 b7 p q wr vo vs s) (hA : Vm.At l c (p, q) s0 s) (hS : Vm.AllRight s)
    (u9 : u 9 = vo) (u10 : u 10 = vs) (u11 : u 11 = .int .i64 s.steps) (u12 : u 12 = .int .i64 s.pc) (hs0 : 0 ≤ s.steps ∧ s.steps ≤ 1000) (hout : s.out.length ≤ 1000)
    (hi : l[s.pc]? = some ((1, y) : Val)) (hK : ∀ (a' : Act) (w' : World), (∃ n, n < 60 - s.pc ∧ Next11 l c s0 w (.slice a l.length cap) b4 b5 b7 p q n a' w') → K a' w')
    (hX : ∀ (a' : Act) (w' : World), End11 l s0 w (.slice a l.length cap) b4 b5 b7 p q a' w' → Q (.exit 0) a' w') :
    Code.wp Tryz.prog ((Tryz.f57.body.bind firstLoop).getD .skip) (Exit.then K Q) (frame11 (.slice a l.length cap) b4 b5 b7 u) wr := by
  have hlt : s.pc < l.length := (List.getElem?_eq_some_iff.1 hi).1
  conv => arg 2; whnf
  unfold frame11
  rw [u9, u10, u11, u12]
  obtain ⟨b, off, rfl, hb, h0, h1⟩ := ((hv.grew hR.g).open2).elim fun a' h => h.elim fun c' h => by
    obtain ⟨e, -, hx⟩ := h
    cases e
    exact hx s.pc hlt
  have hl2 := hi
  rw [List.getElem?_eq_getElem hlt] at hl2
  have hl3 := Option.some.inj hl2
  rw [hl3] at h0 h1
  simp only at h0 h1
  have h24 := (Co.fits_parts (Vm.checkC_fits hc)).1
  have hra := Vm.right_parts' hc hi
  obtain ⟨ak, ck, rfl⟩ := own_sliceL hR.k
  have h8 := hA.len hc hlt
  have htk : ((1, y) : Val).1 ≠ 0 → Vm.takes ((1, y) : Val).1 ≤ s.stack.length := fun hx => (hA.next hc hi hx).1
  have HTK := Lib.hid htk
  have HR := Lib.hid hR
  have HA := Lib.hid hA
  have HS := Lib.hid hS
  have HI := Lib.hid hi
  have HK := Lib.hid hK
  have HX := Lib.hid hX
  have HC := Lib.hid hc
  clear hR hA hS hi hl2 hl3 hv hc u9 u10 u11 u12 hK hX htk
  go_upto_region 6 with fail
  go_quiet (fail)
  clear h0 h1 hra
  go_wp2_with (at_builtin; refine wpList_ownK (w0 := w) (v := Value.slice ak s.stack.length ck) rfl (.tmp 43) (.tmp 46) 108 _ _ _ _ [((y, 0) : Val)] rfl Tryz.underlying108 infoVal rfl (by decide) encI_len encI_one rfl (HR.out.k.grew (by repeat (first | with_reducible exact Grew.refl _ | apply Grew.more | apply Grew.alloc | apply Grew.drew | apply Grew.drewN))) (HR.out.g.trans (by repeat (first | with_reducible exact Grew.refl _ | apply Grew.more | apply Grew.alloc | apply Grew.drew | apply Grew.drewN))) rfl (enc_new _ _ _ _ _ (by simp [go_sem]) rfl) (by simp; omega) (by decide) (by simp) ?_; intro v9 W9 hA9; obtain ⟨a9, c9, rfl⟩ := own_slice1 hA9.2.1; (have HA9 := Lib.hid hA9); clear hA9)
  exact HK.out _ _ (Next11.step HC.out HA.out HS.out hin HI.out (by decide) rfl rfl (by first | rfl | (show Value.int _ _ = Value.int _ _; go_num)) ((HR.out.pushS (by repeat (first | with_reducible exact Grew.refl _ | apply Grew.more | apply Grew.alloc | apply Grew.drew | apply Grew.drewN)) HA9.out).to rfl rfl rfl rfl))

set_option maxHeartbeats 8000000 in
theorem op11_2 (l : List Val) (c : Vm.Cst) (s0 s : Vm.St) (w wr : World) (a : Option Addr) (cap b4 b5 b7 : Nat) (p q y : Int) (u : Nat → Value) (vo vs : Value) (K : Act → World → Prop) (Q : Exit → Act → World → Prop)
    (hv : ValsAt w (.slice a l.length cap) l) (hc : Vm.checkC l = some c) (hin : rightV (p, q) = true) (hR : RunAt w b4 b5 b7 p q wr vo vs s) (hA : Vm.At l c (p, q) s0 s) (hS : Vm.AllRight s)
    (u9 : u 9 = vo) (u10 : u 10 = vs) (u11 : u 11 = .int .i64 s.steps) (u12 : u 12 = .int .i64 s.pc) (hs0 : 0 ≤ s.steps ∧ s.steps ≤ 1000) (hout : s.out.length ≤ 1000)
    (hi : l[s.pc]? = some ((2, y) : Val)) (hK : ∀ (a' : Act) (w' : World), (∃ n, n < 60 - s.pc ∧ Next11 l c s0 w (.slice a l.length cap) b4 b5 b7 p q n a' w') → K a' w')
    (hX : ∀ (a' : Act) (w' : World), End11 l s0 w (.slice a l.length cap) b4 b5 b7 p q a' w' → Q (.exit 0) a' w') :
    Code.wp Tryz.prog ((Tryz.f57.body.bind firstLoop).getD .skip) (Exit.then K Q) (frame11 (.slice a l.length cap) b4 b5 b7 u) wr := by
  have hlt : s.pc < l.length := (List.getElem?_eq_some_iff.1 hi).1
  conv => arg 2; whnf
  unfold frame11
  rw [u9, u10, u11, u12]
  obtain ⟨b, off, rfl, hb, h0, h1⟩ := ((hv.grew hR.g).open2).elim fun a' h => h.elim fun c' h => by
    obtain ⟨e, -, hx⟩ := h
    cases e
    exact hx s.pc hlt
  have hl2 := hi
  rw [List.getElem?_eq_getElem hlt] at hl2
  have hl3 := Option.some.inj hl2
  rw [hl3] at h0 h1
  simp only at h0 h1
  have h24 := (Co.fits_parts (Vm.checkC_fits hc)).1
  have hra := Vm.right_parts' hc hi
  obtain ⟨ak, ck, rfl⟩ := own_sliceL hR.k
  have h8 := hA.len hc hlt
  have htk : ((2, y) : Val).1 ≠ 0 → Vm.takes ((2, y) : Val).1 ≤ s.stack.length := fun hx => (hA.next hc hi hx).1
  have HTK := Lib.hid htk
  have HR := Lib.hid hR
  have HA := Lib.hid hA
  have HS := Lib.hid hS
  have HI := Lib.hid hi
  have HK := Lib.hid hK
  have HX := Lib.hid hX
  have HC := Lib.hid hc
  clear hR hA hS hi hl2 hl3 hv hc u9 u10 u11 u12 hK hX htk
  go_upto_region 6 with fail
  go_quiet (fail)
  clear h0 h1 hra
  go_wp2_with (at_builtin; refine wpList_ownK (w0 := w) (v := Value.slice ak s.stack.length ck) rfl (.tmp 50) (.tmp 53) 108 _ _ _ _ [((0, y) : Val)] rfl Tryz.underlying108 infoVal rfl (by decide) encI_len encI_one rfl (HR.out.k.grew (by repeat (first | with_reducible exact Grew.refl _ | apply Grew.more | apply Grew.alloc | apply Grew.drew | apply Grew.drewN))) (HR.out.g.trans (by repeat (first | with_reducible exact Grew.refl _ | apply Grew.more | apply Grew.alloc | apply Grew.drew | apply Grew.drewN))) rfl (enc_new _ _ _ _ _ (by simp [go_sem]) rfl) (by simp; omega) (by decide) (by simp) ?_; intro v9 W9 hA9; obtain ⟨a9, c9, rfl⟩ := own_slice1 hA9.2.1; (have HA9 := Lib.hid hA9); clear hA9)
  exact HK.out _ _ (Next11.step HC.out HA.out HS.out hin HI.out (by decide) rfl rfl (by first | rfl | (show Value.int _ _ = Value.int _ _; go_num)) ((HR.out.pushS (by repeat (first | with_reducible exact Grew.refl _ | apply Grew.more | apply Grew.alloc | apply Grew.drew | apply Grew.drewN)) HA9.out).to rfl rfl rfl rfl))

set_option maxHeartbeats 8000000 in
theorem op11_3 (l : List Val) (c : Vm.Cst) (s0 s : Vm.St) (w wr : World) (a : Option Addr) (cap b4 b5 b7 : Nat) (p q y : Int) (u : Nat → Value) (vo vs : Value) (K : Act → World → Prop) (Q : Exit → Act → World → Prop)
    (hv : ValsAt w (.slice a l.length cap) l) (hc : Vm.checkC l = some c) (hin : rightV (p, q) = true) (hR : RunAt w b4 b5 b7 p q wr vo vs s) (hA : Vm.At l c (p, q) s0 s) (hS : Vm.AllRight s)
    (u9 : u 9 = vo) (u10 : u 10 = vs) (u11 : u 11 = .int .i64 s.steps) (u12 : u 12 = .int .i64 s.pc) (hs0 : 0 ≤ s.steps ∧ s.steps ≤ 1000) (hout : s.out.length ≤ 1000)
    (hi : l[s.pc]? = some ((3, y) : Val)) (hK : ∀ (a' : Act) (w' : World), (∃ n, n < 60 - s.pc ∧ Next11 l c s0 w (.slice a l.length cap) b4 b5 b7 p q n a' w') → K a' w')
    (hX : ∀ (a' : Act) (w' : World), End11 l s0 w (.slice a l.length cap) b4 b5 b7 p q a' w' → Q (.exit 0) a' w') :
    Code.wp Tryz.prog ((Tryz.f57.body.bind firstLoop).getD .skip) (Exit.then K Q) (frame11 (.slice a l.length cap) b4 b5 b7 u) wr := by
  have hlt : s.pc < l.length := (List.getElem?_eq_some_iff.1 hi).1
  conv => arg 2; whnf
  unfold frame11
  rw [u9, u10, u11, u12]
  obtain ⟨b, off, rfl, hb, h0, h1⟩ := ((hv.grew hR.g).open2).elim fun a' h => h.elim fun c' h => by
    obtain ⟨e, -, hx⟩ := h
    cases e
    exact hx s.pc hlt
  have hl2 := hi
  rw [List.getElem?_eq_getElem hlt] at hl2
  have hl3 := Option.some.inj hl2
  rw [hl3] at h0 h1
  simp only at h0 h1
  have h24 := (Co.fits_parts (Vm.checkC_fits hc)).1
  have hra := Vm.right_parts' hc hi
  obtain ⟨ak, ck, rfl⟩ := own_sliceL hR.k
  have h8 := hA.len hc hlt
  have htk : ((3, y) : Val).1 ≠ 0 → Vm.takes ((3, y) : Val).1 ≤ s.stack.length := fun hx => (hA.next hc hi hx).1
  have HTK := Lib.hid htk
  have HR := Lib.hid hR
  have HA := Lib.hid hA
  have HS := Lib.hid hS
  have HI := Lib.hid hi
  have HK := Lib.hid hK
  have HX := Lib.hid hX
  have HC := Lib.hid hc
  have k40 := cell_of (o := 0) HR.out.c4
  have k41 := cell_of (o := 1) HR.out.c4
  simp at k40 k41
  have p4 := Pre.mk (heap_lt HR.out.c4)
  clear hR hA hS hi hl2 hl3 hv hc u9 u10 u11 u12 hK hX htk
  go_upto_region 6 with fail
  go_quiet (fail)
  clear h0 h1 hra
  go_wp2_with (at_builtin; refine wpList_ownK (w0 := w) (v := Value.slice ak s.stack.length ck) rfl (.tmp 57) (.tmp 59) 108 _ _ _ _ [((p, q) : Val)] rfl Tryz.underlying108 infoVal rfl (by decide) encI_len encI_one rfl (HR.out.k.grew (by repeat (first | with_reducible exact Grew.refl _ | apply Grew.more | apply Grew.alloc | apply Grew.drew | apply Grew.drewN))) (HR.out.g.trans (by repeat (first | with_reducible exact Grew.refl _ | apply Grew.more | apply Grew.alloc | apply Grew.drew | apply Grew.drewN))) rfl (enc_new _ _ _ _ _ (by simp [go_sem]) rfl) (by simp; omega) (by decide) (by simp) ?_; intro v9 W9 hA9; obtain ⟨a9, c9, rfl⟩ := own_slice1 hA9.2.1; (have HA9 := Lib.hid hA9); clear hA9)
  exact HK.out _ _ (Next11.step HC.out HA.out HS.out hin HI.out (by decide) rfl rfl (by first | rfl | (show Value.int _ _ = Value.int _ _; go_num)) ((HR.out.pushS (by repeat (first | with_reducible exact Grew.refl _ | apply Grew.more | apply Grew.alloc | apply Grew.drew | apply Grew.drewN)) HA9.out).to rfl rfl rfl rfl))

set_option maxHeartbeats 8000000 in
theorem op11_40 (l : List Val) (c : Vm.Cst) (s0 s : Vm.St) (w wr : World) (a : Option Addr) (cap b4 b5 b7 : Nat) (p q : Int) (u : Nat → Value) (vo vs : Value) (K : Act → World → Prop) (Q : Exit → Act → World → Prop)
    (hv : ValsAt w (.slice a l.length cap) l) (hc : Vm.checkC l = some c) (hin : rightV (p, q) = true) (hR : RunAt w b4 b5 b7 p q wr vo vs s) (hA : Vm.At l c (p, q) s0 s) (hS : Vm.AllRight s)
    (u9 : u 9 = vo) (u10 : u 10 = vs) (u11 : u 11 = .int .i64 s.steps) (u12 : u 12 = .int .i64 s.pc) (hs0 : 0 ≤ s.steps ∧ s.steps ≤ 1000) (hout : s.out.length ≤ 1000)
    (hi : l[s.pc]? = some ((4, 0) : Val)) (hK : ∀ (a' : Act) (w' : World), (∃ n, n < 60 - s.pc ∧ Next11 l c s0 w (.slice a l.length cap) b4 b5 b7 p q n a' w') → K a' w')
    (hX : ∀ (a' : Act) (w' : World), End11 l s0 w (.slice a l.length cap) b4 b5 b7 p q a' w' → Q (.exit 0) a' w') :
    Code.wp Tryz.prog ((Tryz.f57.body.bind firstLoop).getD .skip) (Exit.then K Q) (frame11 (.slice a l.length cap) b4 b5 b7 u) wr := by
  have hlt : s.pc < l.length := (List.getElem?_eq_some_iff.1 hi).1
  conv => arg 2; whnf
  unfold frame11
  rw [u9, u10, u11, u12]
  obtain ⟨b, off, rfl, hb, h0, h1⟩ := ((hv.grew hR.g).open2).elim fun a' h => h.elim fun c' h => by
    obtain ⟨e, -, hx⟩ := h
    cases e
    exact hx s.pc hlt
  have hl2 := hi
  rw [List.getElem?_eq_getElem hlt] at hl2
  have hl3 := Option.some.inj hl2
  rw [hl3] at h0 h1
  simp only at h0 h1
  have h24 := (Co.fits_parts (Vm.checkC_fits hc)).1
  have hra := Vm.right_parts' hc hi
  obtain ⟨ak, ck, rfl⟩ := own_sliceL hR.k
  have h8 := hA.len hc hlt
  have htk : ((4, 0) : Val).1 ≠ 0 → Vm.takes ((4, 0) : Val).1 ≤ s.stack.length := fun hx => (hA.next hc hi hx).1
  have HTK := Lib.hid htk
  have HR := Lib.hid hR
  have HA := Lib.hid hA
  have HS := Lib.hid hS
  have HI := Lib.hid hi
  have HK := Lib.hid hK
  have HX := Lib.hid hX
  have HC := Lib.hid hc
  have k50 := cell_of (o := 0) HR.out.c5
  have k51 := cell_of (o := 1) HR.out.c5
  have k52 := cell_of (o := 2) HR.out.c5
  have k53 := cell_of (o := 3) HR.out.c5
  simp at k50 k51 k52 k53
  have p5 := Pre.mk (heap_lt HR.out.c5)
  clear hR hA hS hi hl2 hl3 hv hc u9 u10 u11 u12 hK hX htk
  go_upto_region 6 with fail
  go_quiet (fail)
  clear h0 h1 hra
  go_wp2_with (at_builtin; refine wpList_ownK (w0 := w) (v := Value.slice ak s.stack.length ck) rfl (.tmp 63) (.tmp 67) 108 _ _ _ _ [((s.c0.1, s.c0.2) : Val)] rfl Tryz.underlying108 infoVal rfl (by decide) encI_len encI_one rfl (HR.out.k.grew (by repeat (first | with_reducible exact Grew.refl _ | apply Grew.more | apply Grew.alloc | apply Grew.drew | apply Grew.drewN))) (HR.out.g.trans (by repeat (first | with_reducible exact Grew.refl _ | apply Grew.more | apply Grew.alloc | apply Grew.drew | apply Grew.drewN))) rfl (enc_new _ _ _ _ _ (by simp [go_sem]) rfl) (by simp; omega) (by decide) (by simp) ?_; intro v9 W9 hA9; obtain ⟨a9, c9, rfl⟩ := own_slice1 hA9.2.1; (have HA9 := Lib.hid hA9); clear hA9)
  exact HK.out _ _ (Next11.step HC.out HA.out HS.out hin HI.out (by decide) rfl rfl (by first | rfl | (show Value.int _ _ = Value.int _ _; go_num)) ((HR.out.pushS (by repeat (first | with_reducible exact Grew.refl _ | apply Grew.more | apply Grew.alloc | apply Grew.drew | apply Grew.drewN)) HA9.out).to rfl rfl rfl rfl))

set_option maxHeartbeats 8000000 in
theorem op11_41 (l : List Val) (c : Vm.Cst) (s0 s : Vm.St) (w wr : World) (a : Option Addr) (cap b4 b5 b7 : Nat) (p q : Int) (u : Nat → Value) (vo vs : Value) (K : Act → World → Prop) (Q : Exit → Act → World → Prop)
    (hv : ValsAt w (.slice a l.length cap) l) (hc : Vm.checkC l = some c) (hin : rightV (p, q) = true) (hR : RunAt w b4 b5 b7 p q wr vo vs s) (hA : Vm.At l c (p, q) s0 s) (hS : Vm.AllRight s)
    (u9 : u 9 = vo) (u10 : u 10 = vs) (u11 : u 11 = .int .i64 s.steps) (u12 : u 12 = .int .i64 s.pc) (hs0 : 0 ≤ s.steps ∧ s.steps ≤ 1000) (hout : s.out.length ≤ 1000)
    (hi : l[s.pc]? = some ((4, 1) : Val)) (hK : ∀ (a' : Act) (w' : World), (∃ n, n < 60 - s.pc ∧ Next11 l c s0 w (.slice a l.length cap) b4 b5 b7 p q n a' w') → K a' w')
    (hX : ∀ (a' : Act) (w' : World), End11 l s0 w (.slice a l.length cap) b4 b5 b7 p q a' w' → Q (.exit 0) a' w') :
    Code.wp Tryz.prog ((Tryz.f57.body.bind firstLoop).getD .skip) (Exit.then K Q) (frame11 (.slice a l.length cap) b4 b5 b7 u) wr := by
  have hlt : s.pc < l.length := (List.getElem?_eq_some_iff.1 hi).1
  conv => arg 2; whnf
  unfold frame11
  rw [u9, u10, u11, u12]
  obtain ⟨b, off, rfl, hb, h0, h1⟩ := ((hv.grew hR.g).open2).elim fun a' h => h.elim fun c' h => by
    obtain ⟨e, -, hx⟩ := h
    cases e
    exact hx s.pc hlt
  have hl2 := hi
  rw [List.getElem?_eq_getElem hlt] at hl2
  have hl3 := Option.some.inj hl2
  rw [hl3] at h0 h1
  simp only at h0 h1
  have h24 := (Co.fits_parts (Vm.checkC_fits hc)).1
  have hra := Vm.right_parts' hc hi
  obtain ⟨ak, ck, rfl⟩ := own_sliceL hR.k
  have h8 := hA.len hc hlt
  have htk : ((4, 1) : Val).1 ≠ 0 → Vm.takes ((4, 1) : Val).1 ≤ s.stack.length := fun hx => (hA.next hc hi hx).1
  have HTK := Lib.hid htk
  have HR := Lib.hid hR
  have HA := Lib.hid hA
  have HS := Lib.hid hS
  have HI := Lib.hid hi
  have HK := Lib.hid hK
  have HX := Lib.hid hX
  have HC := Lib.hid hc
  have k50 := cell_of (o := 0) HR.out.c5
  have k51 := cell_of (o := 1) HR.out.c5
  have k52 := cell_of (o := 2) HR.out.c5
  have k53 := cell_of (o := 3) HR.out.c5
  simp at k50 k51 k52 k53
  have p5 := Pre.mk (heap_lt HR.out.c5)
  clear hR hA hS hi hl2 hl3 hv hc u9 u10 u11 u12 hK hX htk
  go_upto_region 6 with fail
  go_quiet (fail)
  clear h0 h1 hra
  go_wp2_with (at_builtin; refine wpList_ownK (w0 := w) (v := Value.slice ak s.stack.length ck) rfl (.tmp 63) (.tmp 67) 108 _ _ _ _ [((s.c1.1, s.c1.2) : Val)] rfl Tryz.underlying108 infoVal rfl (by decide) encI_len encI_one rfl (HR.out.k.grew (by repeat (first | with_reducible exact Grew.refl _ | apply Grew.more | apply Grew.alloc | apply Grew.drew | apply Grew.drewN))) (HR.out.g.trans (by repeat (first | with_reducible exact Grew.refl _ | apply Grew.more | apply Grew.alloc | apply Grew.drew | apply Grew.drewN))) rfl (enc_new _ _ _ _ _ (by simp [go_sem]) rfl) (by simp; omega) (by decide) (by simp) ?_; intro v9 W9 hA9; obtain ⟨a9, c9, rfl⟩ := own_slice1 hA9.2.1; (have HA9 := Lib.hid hA9); clear hA9)
  exact HK.out _ _ (Next11.step HC.out HA.out HS.out hin HI.out (by decide) rfl rfl (by first | rfl | (show Value.int _ _ = Value.int _ _; go_num)) ((HR.out.pushS (by repeat (first | with_reducible exact Grew.refl _ | apply Grew.more | apply Grew.alloc | apply Grew.drew | apply Grew.drewN)) HA9.out).to rfl rfl rfl rfl))

set_option maxHeartbeats 8000000 in
theorem op11_16 (l : List Val) (c : Vm.Cst) (s0 s : Vm.St) (w wr : World) (a : Option Addr) (cap b4 b5 b7 : Nat) (p q y : Int) (u : Nat → Value) (vo vs : Value) (K : Act → World → Prop) (Q : Exit → Act → World → Prop)
    (hv : ValsAt w (.slice a l.length cap) l) (hc : Vm.checkC l = some c) (hin : rightV (p, q) = true) (hR : RunAt w b4 b5 b7 p q wr vo vs s) (hA : Vm.At l c (p, q) s0 s) (hS : Vm.AllRight s)
    (u9 : u 9 = vo) (u10 : u 10 = vs) (u11 : u 11 = .int .i64 s.steps) (u12 : u 12 = .int .i64 s.pc) (hs0 : 0 ≤ s.steps ∧ s.steps ≤ 1000) (hout : s.out.length ≤ 1000)
    (hi : l[s.pc]? = some ((16, y) : Val)) (hK : ∀ (a' : Act) (w' : World), (∃ n, n < 60 - s.pc ∧ Next11 l c s0 w (.slice a l.length cap) b4 b5 b7 p q n a' w') → K a' w')
    (hX : ∀ (a' : Act) (w' : World), End11 l s0 w (.slice a l.length cap) b4 b5 b7 p q a' w' → Q (.exit 0) a' w') :
    Code.wp Tryz.prog ((Tryz.f57.body.bind firstLoop).getD .skip) (Exit.then K Q) (frame11 (.slice a l.length cap) b4 b5 b7 u) wr := by
  have hlt : s.pc < l.length := (List.getElem?_eq_some_iff.1 hi).1
  conv => arg 2; whnf
  unfold frame11
  rw [u9, u10, u11, u12]
  obtain ⟨b, off, rfl, hb, h0, h1⟩ := ((hv.grew hR.g).open2).elim fun a' h => h.elim fun c' h => by
    obtain ⟨e, -, hx⟩ := h
    cases e
    exact hx s.pc hlt
  have hl2 := hi
  rw [List.getElem?_eq_getElem hlt] at hl2
  have hl3 := Option.some.inj hl2
  rw [hl3] at h0 h1
  simp only at h0 h1
  have h24 := (Co.fits_parts (Vm.checkC_fits hc)).1
  have hra := Vm.right_parts' hc hi
  obtain ⟨ak, ck, rfl⟩ := own_sliceL hR.k
  have h8 := hA.len hc hlt
  have htk : ((16, y) : Val).1 ≠ 0 → Vm.takes ((16, y) : Val).1 ≤ s.stack.length := fun hx => (hA.next hc hi hx).1
  have HTK := Lib.hid htk
  have HR := Lib.hid hR
  have HA := Lib.hid hA
  have HS := Lib.hid hS
  have HI := Lib.hid hi
  have HK := Lib.hid hK
  have HX := Lib.hid hX
  have HC := Lib.hid hc
  clear hR hA hS hi hl2 hl3 hv hc u9 u10 u11 u12 hK hX htk
  have hy := hra.2.2.2.2.1 (.inr rfl)
  go_upto_region 6 with fail
  go_quiet (fail)
  clear h0 h1 hra
  go_wp2
  exact HK.out _ _ (Next11.step HC.out HA.out HS.out hin HI.out (by decide) rfl rfl (by show Value.int _ _ = Value.int _ ((s.pc + 1 + y.toNat : Nat) : Int); go_num) ((HR.out.grew (by repeat (first | with_reducible exact Grew.refl _ | apply Grew.more | apply Grew.alloc | apply Grew.drew | apply Grew.drewN))).to rfl rfl rfl rfl))
end Go.Proofs.YtmdmbimfdpngaaaGreatDoor
