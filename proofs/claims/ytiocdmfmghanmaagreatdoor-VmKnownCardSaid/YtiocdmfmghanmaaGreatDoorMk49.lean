import Derived.Test.YtiocdmfmghanmaaGreatDoorMk46
import Derived.Test.YtiocdmfmghanmaaGreatDoorMk48
import Derived.Deep.DeepCutAuto
import Derived.Deep.CutBlock
import Derived.Deep.LoopGhost
import Derived.Deep.RegionLaw
import Derived.Deep.RegionHeld3
import Derived.Deep.QuietTactic
import Derived.BigQuiet
/-! VmKnown, walked. -/
namespace Go.Proofs.YtiocdmfmghanmaaGreatDoor
set_option linter.unusedSimpArgs false
set_option linter.unusedVariables false
open Go.RowKit Ga
set_option maxRecDepth 100000

def frame5 (u : Nat → Value) : Act := { tmps := #[u 0, u 1, u 2, u 3, u 4, u 5, u 6, u 7, u 8, u 9, u 10, u 11, u 12, u 13, u 14, u 15, u 16, u 17, u 18, u 19, u 20, u 21, u 22, u 23, u 24, u 25, u 26, u 27, u 28, u 29, u 30, u 31, u 32, u 33, u 34, u 35, u 36, u 37, u 38, u 39, u 40, u 41, u 42, u 43, u 44, u 45, u 46, u 47, u 48, u 49, u 50, u 51, u 52, u 53, u 54, u 55, u 56, u 57, u 58, u 59, u 60, u 61, u 62, u 63, u 64, u 65, u 66, u 67, u 68, u 69, u 70, u 71, u 72, u 73, u 74, u 75, u 76, u 77, u 78, u 79, u 80, u 81, u 82, u 83, u 84, u 85, u 86, u 87, u 88, u 89, u 90, u 91, u 92, u 93, u 94, u 95, u 96, u 97, u 98, u 99, u 100, u 101, u 102, u 103, u 104, u 105, u 106, u 107, u 108, u 109, u 110, u 111, u 112, u 113, u 114, u 115, u 116, u 117, u 118, u 119, u 120, u 121, u 122, u 123, u 124, u 125, u 126, u 127, u 128, u 129, u 130, u 131, u 132, u 133], defers := [] }
theorem frame5_eq (u : Nat → Value) : frame5 u = { tmps := ((List.range 134).map u).toArray, defers := [] } := rfl
theorem frame5_of (a : Act) (h : a.tmps.size = 134) (hd : a.defers = []) : a = frame5 (fun i => a.tmps.getD i undef) := by
  obtain ⟨t, d⟩ := a
  simp only at h hd
  subst hd
  rw [frame5_eq]
  congr 1
  refine Array.ext_getElem? fun i => ?_
  have h9 : ∀ (l : List Value) (i : Nat), l.toArray[i]? = l[i]? := fun l i => List.getElem?_toArray ..
  rw [h9 ((List.range 134).map _) i, List.getElem?_map]
  by_cases hi : i < 134
  · rw [List.getElem?_range hi, Option.map_some, Array.getD_eq_getD_getElem?, Array.getElem?_eq_getElem (by omega)]
    rfl
  · rw [Array.getElem?_eq_none (by omega), List.getElem?_eq_none (by simp; omega)]
    rfl
/-- an entry: a text whose program puts out its value -/
def Known (p q r s : Int) (e : Ent) : Prop := ∃ (txt : List UInt8) (prg : List Val) (k : Int), e.1 = ⟨txt.toArray⟩ ∧ txt.length ≤ 1000000 ∧ Co.parseI txt = (prg, 0) ∧ Vm.safe prg = true ∧ Vm.each prg ⟨[], (0, 0), (r, s), 0⟩ [(p, q)] = ⟨[e.2], (0, 0), (r, s), k⟩
theorem kp_parse {l : List Val} {txt : List UInt8} (h : Co.textI l = txt) (hf : Co.fitsI l = true) : Co.parseI txt = (l, 0) := by rw [← h]; exact Co.parse_text hf
theorem known5 {p q r s : Int} (ha : rightV (p, q) = true) (hb : rightV (r, s) = true) : ∀ i ∈ ins5, Known p q r s (ent5 p q r s i) := by
  have hw : IntKind.i64.wrap (-q) = -q := by
    have h2 := (Vm.right_parts ha).2
    simp only at h2
    have hb := into_range q
    rw [h2] at hb
    exact IntWalk.i64_in _ (by omega)
  intro i hi
  simp only [ins5, List.mem_cons, List.not_mem_nil, or_false] at hi
  rcases hi with rfl | rfl | rfl | rfl | rfl
  · exact ⟨ks0.data.toList, Vm.kp0, 4, rfl, by decide, kp_parse (by decide +kernel) (by decide), Vm.kp0_safe, Vm.kp0_each ha hb⟩
  · exact ⟨ks1.data.toList, Vm.kp1, 4, rfl, by decide, kp_parse (by decide +kernel) (by decide), Vm.kp1_safe, Vm.kp1_each ha hb⟩
  · exact ⟨ks2.data.toList, Vm.kp2, 5, rfl, by decide, kp_parse (by decide +kernel) (by decide), Vm.kp2_safe, Vm.kp2_each ha hb⟩
  · refine ⟨ks3.data.toList, Vm.kp3, 3, rfl, by decide, kp_parse (by decide +kernel) (by decide), Vm.kp3_safe, ?_⟩
    rw [Vm.kp3_each ha, ← hw]
    rfl
  · refine ⟨ks4.data.toList, Vm.kp4, 4, rfl, by decide, kp_parse (by decide +kernel) (by decide), Vm.kp4_safe, ?_⟩
    rw [Vm.kp4_each ha, ← hw]
    rfl
theorem str_inv (key : Value) (kl : Lit) (h : keyOf Tryz.prog 9 key = some kl) : ∃ x : ByteArray, key = .string x := by
  obtain ⟨x, h1, _⟩ := WideMaps.string_of_keyOf Tryz.underlying9 h
  exact ⟨x, h1⟩
def pairV (c : Int × Int) : Value := .agg #[.int .i64 c.1, .int .i64 c.2]
theorem pair_inv (v : Value) (y : DataW Unit × List MemPlace) (h : effR v = some y) : ∃ c : Int × Int, v = pairV c := by
  cases v with
  | agg c =>
    obtain ⟨c⟩ := c
    have h2 : effV c = some y := h
    unfold effV at h2
    split at h2
    · exact ⟨(_, _), rfl⟩
    · cases h2
  | _ => cases h
/-- what has come up is one of the entries -/
theorem StrD.one {D : DataW Unit} {S : List Ent} (h : StrD D S) {x : ByteArray} {c : Int × Int} {kl : Lit} {y : DataW Unit × List MemPlace} (hk : keyOf Tryz.prog 9 (.string x) = some kl) (hh : Maps.has D kl = true) (hR : effR (pairV c) = some y) (hat : ∀ zd, D.atKey kl zd = y.1) : (x, c) ∈ S := by
  obtain ⟨p, hp, rfl⟩ := h.has kl hh
  have hx : x.size ≤ maxLen := by
    obtain ⟨s, e, _, h3⟩ := WideMaps.string_of_keyOf Tryz.underlying9 hk
    cases e
    exact h3
  have h1 : x = p.1 := by
    rw [key_str x hx] at hk
    exact klOf_inj (Option.some.inj hk)
  have h2 : y = (effDat c, []) := (Option.some.inj hR).symm
  have h3 := (hat (.agg [])).symm.trans (h.at' p hp _)
  rw [h2] at h3
  have h4 : c = p.2 := by
    obtain ⟨c1, c2⟩ := c
    obtain ⟨k, p1, p2⟩ := p
    unfold effDat at h3
    simp at h3
    rw [h3.1, h3.2]
  rw [h1, h4]
  exact hp
theorem ranges_b {W : World} {b r n : Nat} {D : DataW Unit} {left : Lit → Bool} {cnt : Nat} (h : W.ranges Tryz.prog 9 effR b r n D left cnt) : b < W.heap.size := by
  obtain ⟨es, clock, since, seen, c0, h1, h2, h3, h4, h5, h6⟩ := h
  exact heap_lt h1
theorem ranges_grew {W W' : World} {b r n : Nat} {D : DataW Unit} {left : Lit → Bool} {cnt : Nat} (h : W.ranges Tryz.prog 9 effR b r n D left cnt) (g : Grew W W') : W'.ranges Tryz.prog 9 effR b r n D left cnt :=
  ranges_same h (g.below.block b (ranges_b h)) (g.below.block r (ranges_lt h))
theorem vals4 (W : World) (n : Int) (t : TypeId) (b : Nat) (hb : b = W.heap.size) : ValsAt (W.alloc (.cells #[.int .i64 1, .int .i64 n, .int .i64 3, .int .i64 0, .int .i64 8, .int .i64 0, .int .i64 14, .int .i64 0] t)) (.slice (some ⟨b, 0, none⟩) 4 4) (Vm.kp5 n) := by
  refine RowsAt.fresh (l := Vm.kp5 n) (c := [.int .i64 1, .int .i64 n, .int .i64 3, .int .i64 0, .int .i64 8, .int .i64 0, .int .i64 14, .int .i64 0]) rfl (by simp [maxLen, Vm.kp5]) (fun _ => rfl) hb ?_
  simp [Vm.kp5]
/-- while the entries come up -/
def Rel5 (w : World) (p q r s n : Int) (b3 b4 b rb nn : Nat) (D : DataW Unit) (cnt : Nat) (a' : Act) (w' : World) : Prop :=
  ∃ (u : Nat → Value) (left : Lit → Bool), a' = frame5 u ∧ u 2 = .int .i64 n ∧ u 3 = .pointer (some ⟨b3, 0, none⟩) ∧ u 4 = .pointer (some ⟨b4, 0, none⟩) ∧ u 56 = .pointer (some ⟨rb, 0, none⟩) ∧ Grew w w' ∧
    w'.heap[b3]? = some (.cells #[.int .i64 p, .int .i64 q] 24) ∧ w'.heap[b4]? = some (.cells #[.int .i64 r, .int .i64 s] 24) ∧ w'.ranges Tryz.prog 9 effR b rb nn D left cnt ∧ (∀ kl, left kl = true → Maps.has D kl = true)

theorem Rel5.mk' {w : World} {p q r s n : Int} {b3 b4 b rb nn : Nat} {D : DataW Unit} {cnt : Nat} {a' : Act} {w' : World} (left : Lit → Bool) (h : a' = frame5 (fun i => a'.tmps.getD i undef)) (h2 : a'.tmps.getD 2 undef = .int .i64 n) (h3 : a'.tmps.getD 3 undef = .pointer (some ⟨b3, 0, none⟩)) (h4 : a'.tmps.getD 4 undef = .pointer (some ⟨b4, 0, none⟩)) (h5 : a'.tmps.getD 56 undef = .pointer (some ⟨rb, 0, none⟩)) (hg : Grew w w')
    (c3 : w'.heap[b3]? = some (.cells #[.int .i64 p, .int .i64 q] 24)) (c4 : w'.heap[b4]? = some (.cells #[.int .i64 r, .int .i64 s] 24)) (hr : w'.ranges Tryz.prog 9 effR b rb nn D left cnt) (hl : ∀ kl, left kl = true → Maps.has D kl = true) : Rel5 w p q r s n b3 b4 b rb nn D cnt a' w' :=
  ⟨_, left, h, h2, h3, h4, h5, hg, c3, c4, hr, hl⟩

set_option maxHeartbeats 8000000 in
theorem vmKnown_any (p q r s n : Int) (w : World) (h : Env4 w) :
    Calls Tryz.prog 5 #[.agg #[.int .i64 p, .int .i64 q], .agg #[.int .i64 r, .int .i64 s], .int .i64 n] w (Gives (.bool true) w) := by
  have HE := Lib.hid h
  clear h
  cases ha : rightV (p, q)
  · have HA := Lib.hid ha
    clear ha
    go_enter Tryz.func5, Tryz.ntmps5
    go_wp2_with (first
      | (go_at_call 7; refine (awake06_any _ (HE.out.grew (by repeat (first | with_reducible exact Grew.refl _ | apply Grew.more | apply Grew.alloc | apply Grew.drew | apply Grew.drewN)))).mono ?_; rintro e w1 ⟨rfl, Ra, na, rfl⟩)
      | (go_at_call_of 10 (Value.agg #[.int .i64 p, .int .i64 q]); refine (right06_any p q _).mono ?_; rintro e w1 ⟨rfl, R8, N8, rfl⟩; rw [HA.out])
      )
    go_ret
    refine ⟨rfl, ?_⟩
    repeat (first | with_reducible exact Grew.refl _ | apply Grew.more | apply Grew.alloc | apply Grew.drew | apply Grew.drewN)
  cases hb : rightV (r, s)
  · have HA := Lib.hid ha
    have HB := Lib.hid hb
    clear ha hb
    go_enter Tryz.func5, Tryz.ntmps5
    go_wp2_with (first
      | (go_at_call 7; refine (awake06_any _ (HE.out.grew (by repeat (first | with_reducible exact Grew.refl _ | apply Grew.more | apply Grew.alloc | apply Grew.drew | apply Grew.drewN)))).mono ?_; rintro e w1 ⟨rfl, Ra, na, rfl⟩)
      | (go_at_call_of 10 (Value.agg #[.int .i64 p, .int .i64 q]); refine (right06_any p q _).mono ?_; rintro e w1 ⟨rfl, R8, N8, rfl⟩; rw [HA.out])
      | (go_at_call_of 10 (Value.agg #[.int .i64 r, .int .i64 s]); refine (right06_any r s _).mono ?_; rintro e w1 ⟨rfl, R9, N9, rfl⟩; rw [HB.out])
      )
    go_ret
    refine ⟨rfl, ?_⟩
    repeat (first | with_reducible exact Grew.refl _ | apply Grew.more | apply Grew.alloc | apply Grew.drew | apply Grew.drewN)
  have HA := Lib.hid ha
  have HB := Lib.hid hb
  clear ha hb
  by_cases hlo : n < -524288
  · go_enter Tryz.func5, Tryz.ntmps5
    go_wp2_with (first
      | (go_at_call 7; refine (awake06_any _ (HE.out.grew (by repeat (first | with_reducible exact Grew.refl _ | apply Grew.more | apply Grew.alloc | apply Grew.drew | apply Grew.drewN)))).mono ?_; rintro e w1 ⟨rfl, Ra, na, rfl⟩)
      | (go_at_call_of 10 (Value.agg #[.int .i64 p, .int .i64 q]); refine (right06_any p q _).mono ?_; rintro e w1 ⟨rfl, R8, N8, rfl⟩; rw [HA.out])
      | (go_at_call_of 10 (Value.agg #[.int .i64 r, .int .i64 s]); refine (right06_any r s _).mono ?_; rintro e w1 ⟨rfl, R9, N9, rfl⟩; rw [HB.out])
      )
    go_ret
    refine ⟨rfl, ?_⟩
    repeat (first | with_reducible exact Grew.refl _ | apply Grew.more | apply Grew.alloc | apply Grew.drew | apply Grew.drewN)
  by_cases hhi : 524288 ≤ n
  · go_enter Tryz.func5, Tryz.ntmps5
    go_wp2_with (first
      | (go_at_call 7; refine (awake06_any _ (HE.out.grew (by repeat (first | with_reducible exact Grew.refl _ | apply Grew.more | apply Grew.alloc | apply Grew.drew | apply Grew.drewN)))).mono ?_; rintro e w1 ⟨rfl, Ra, na, rfl⟩)
      | (go_at_call_of 10 (Value.agg #[.int .i64 p, .int .i64 q]); refine (right06_any p q _).mono ?_; rintro e w1 ⟨rfl, R8, N8, rfl⟩; rw [HA.out])
      | (go_at_call_of 10 (Value.agg #[.int .i64 r, .int .i64 s]); refine (right06_any r s _).mono ?_; rintro e w1 ⟨rfl, R9, N9, rfl⟩; rw [HB.out])
      )
    go_ret
    refine ⟨rfl, ?_⟩
    repeat (first | with_reducible exact Grew.refl _ | apply Grew.more | apply Grew.alloc | apply Grew.drew | apply Grew.drewN)
  go_enter Tryz.func5, Tryz.ntmps5
  go_upto_region 5 with (first
      | (go_at_call 7; refine (awake06_any _ (HE.out.grew (by repeat (first | with_reducible exact Grew.refl _ | apply Grew.more | apply Grew.alloc | apply Grew.drew | apply Grew.drewN)))).mono ?_; rintro e w1 ⟨rfl, Ra, na, rfl⟩)
      | (go_at_call_of 10 (Value.agg #[.int .i64 p, .int .i64 q]); refine (right06_any p q _).mono ?_; rintro e w1 ⟨rfl, R8, N8, rfl⟩; rw [HA.out])
      | (go_at_call_of 10 (Value.agg #[.int .i64 r, .int .i64 s]); refine (right06_any r s _).mono ?_; rintro e w1 ⟨rfl, R9, N9, rfl⟩; rw [HB.out])
      )
  refine region5 p q r s _ _ w.heap.size (w.heap.size + 1) _ rfl rfl ?_ ?_ rfl rfl ?_
  · exact grew_heap (by repeat (first | with_reducible exact Grew.refl _ | apply Grew.more | apply Grew.alloc | apply Grew.drew | apply Grew.drewN)) (heap_new_at w _ _ rfl)
  · exact grew_heap (by repeat (first | with_reducible exact Grew.refl _ | apply Grew.more | apply Grew.alloc | apply Grew.drew | apply Grew.drewN)) (heap_new_at (w.alloc (.cells #[.int .i64 p, .int .i64 q] 24)) _ _ (by simp [World.size_alloc]))
  intro L a5 w5 hL hR hall
  have hk := hR.m (hall 0 (by decide))
  obtain ⟨b, nn, S, m1, m2, m3, m4, m5, m6, m7⟩ := hk
  obtain ⟨rb, D, r1, r2, r3, r4, r5⟩ := m7 (hall 28 (by decide))
  have hkn : ∀ e ∈ S, Known p q r s e := fun e he => by
    obtain ⟨i, hi, -, rfl⟩ := (m5 e).1 he
    exact known5 HA.out HB.out i hi
  have hg : Grew w w5 := by
    refine Grew.trans ?_ hR.g
    repeat (first | with_reducible exact Grew.refl _ | apply Grew.more | apply Grew.alloc | apply Grew.drew | apply Grew.drewN)
  have c3 : w5.heap[w.heap.size]? = some (.cells #[.int .i64 p, .int .i64 q] 24) := by
    refine grew_heap hR.g ?_
    exact grew_heap (by repeat (first | with_reducible exact Grew.refl _ | apply Grew.more | apply Grew.alloc | apply Grew.drew | apply Grew.drewN)) (heap_new_at w _ _ rfl)
  have c4 : w5.heap[w.heap.size + 1]? = some (.cells #[.int .i64 r, .int .i64 s] 24) := by
    refine grew_heap hR.g ?_
    exact grew_heap (by repeat (first | with_reducible exact Grew.refl _ | apply Grew.more | apply Grew.alloc | apply Grew.drew | apply Grew.drewN)) (heap_new_at (w.alloc (.cells #[.int .i64 p, .int .i64 q] 24)) _ _ (by simp [World.size_alloc]))
  have hb3 : ((w.alloc (.cells #[.int .i64 p, .int .i64 q] 24)).alloc (.cells #[.int .i64 r, .int .i64 s] 24)).heap.size ≤ b := Nat.le_trans (Grew.below (by repeat (first | with_reducible exact Grew.refl _ | apply Grew.more | apply Grew.alloc | apply Grew.drew | apply Grew.drewN))).size m2
  have hrb3 : ((w.alloc (.cells #[.int .i64 p, .int .i64 q] 24)).alloc (.cells #[.int .i64 r, .int .i64 s] 24)).heap.size ≤ rb := Nat.le_trans (Grew.below (by repeat (first | with_reducible exact Grew.refl _ | apply Grew.more | apply Grew.alloc | apply Grew.drew | apply Grew.drewN))).size r2
  rw [World.size_alloc, World.size_alloc] at hb3 hrb3
  have u2 := hR.ot 2 (.inl (by decide))
  have u3 := hR.ot 3 (.inl (by decide))
  have u4 := hR.ot 4 (.inl (by decide))
  have ha5 := frame5_of a5 hR.sz hR.df
  obtain ⟨u, hu⟩ : ∃ u : Nat → Value, u = fun i => a5.tmps.getD i undef := ⟨_, rfl⟩
  have hget : ∀ {i : Nat} {v : Value}, a5.tmps[i]? = some v → u i = v := fun {i v} h => by rw [hu]; simp only; rw [Array.getD_eq_getD_getElem?, h]; rfl
  have v2 := hget u2
  have v3 := hget u3
  have v4 := hget u4
  have v56 := hget r1
  rw [← hu] at ha5
  clear hget hu u2 u3 u4 r1 hR m1 m3 m4 m5 m6 m7 hall hL
  subst ha5
  have hrel : Rel5 w p q r s n w.heap.size (w.heap.size + 1) b rb nn D (Maps.size D) (frame5 u) w5 := ⟨u, _, rfl, v2, v3, v4, v56, hg, c3, c4, r4, fun kl hk => hk⟩
  have HKN := Lib.hid hkn
  have HRL := Lib.hid hrel
  have HD := Lib.hid r5
  clear hkn hrel r4 r5 hg c3 c4 v2 v3 v4 v56
  unfold frame5 at *
  go_wp2
  refine wp_loop_ghost_k (Rel5 w p q r s n w.heap.size (w.heap.size + 1) b rb nn D) (Maps.size D) HRL.out ?_
  rintro cnt a' w' ⟨u, left, rfl, u2, u3, u4, u56, hg, c3, c4, hrg, hlf⟩ J K hJ hK
  unfold frame5
  rw [u2, u3, u4, u56]
  have k30 := cell_of (o := 0) c3
  have k31 := cell_of (o := 1) c3
  have k40 := cell_of (o := 0) c4
  have k41 := cell_of (o := 1) c4
  simp at k30 k31 k40 k41
  have p3 := Pre.mk (heap_lt c3)
  have p4 := Pre.mk (heap_lt c4)
  have HRG := Lib.hid hrg
  have HLF := Lib.hid hlf
  have HG := Lib.hid hg
  have C3 := Lib.hid c3
  have C4 := Lib.hid c4
  clear hrg hlf hg c3 c4 u2 u3 u4 u56
  go_wp2_with (at_next; go_loud (refine wpList_next_ranges _ rfl (.tmp 56) rfl 9 law_str effR Value.string pairV str_inv pair_inv b rb nn D left cnt rfl HRG.out ?_ ?_))
  · intro hc0 hl0
    have hbn : -524288 ≤ n ∧ n < 524288 := by omega
    have hz : Vm.codeOf (Vm.kp5 n) (0, 0) (0, 0) [(p, q)] = 0 := Vm.codeOf_zero.2 ⟨Vm.kp5_safe n hbn, by decide, by simp only [List.all_cons, List.all_nil, Bool.and_true]; exact HA.out⟩
    have hea := Vm.kp5_each hbn HA.out
    have hcl := fun (W : World) => refMul_any (n, 0) (p, q) W
    generalize mulV (n, 0) (p, q) = vm at *
    obtain ⟨vx, vy⟩ := vm
    have HZ := Lib.hid hz
    have HEA := Lib.hid hea
    have HCL := Lib.hid (show ∀ W, Calls Tryz.prog 15 #[.agg #[.int .i64 n, .int .i64 0], .agg #[.int .i64 p, .int .i64 q]] W (Gives (.agg #[.int .i64 vx, .int .i64 vy]) W) from hcl)
    have hnq := fun (x y : Int) => run_eql_val x y x y true (by simp)
    clear hz hea hcl hc0 hl0
    go_upto_region 13 with (first
      | (go_at_call 8; go_loud (refine (run1_any _ (Vm.kp5 n) p q 0 0 0 0 _ (vals4 _ _ _ _ (by simp [go_sem]))).mono ?_); rintro e w3 hE; obtain ⟨ao2, no2, co2, m1, m2, m3, m4, m5, err2, rfl⟩ := hE.shape; (have hcd2 := hE.coded); obtain ⟨hq1, _, hq2⟩ := hcd2; rw [HZ.out] at hq1; subst hq1; obtain ⟨ho2, hm1, hm2, hm3, hm4, hm5⟩ := hq2 rfl; rw [HEA.out] at ho2 hm1 hm2 hm3 hm4 hm5; simp only at ho2 hm1 hm2 hm3 hm4 hm5; subst hm1 hm2 hm3 hm4 hm5; (have hvo := ho2.rows encI_len); obtain ⟨a9, c9, e9, -, hx9⟩ := RowsAt.open2 (f := fun a : Val => Value.int .i64 a.1) (g := fun a : Val => Value.int .i64 a.2) hvo; cases e9; obtain ⟨bo, off, rfl, hbo, ho0, ho1⟩ := hx9 0 (by simp); simp at ho0 ho1; (have pbo := Pre.mk hbo); obtain ⟨⟨R6, N6, hw⟩, _⟩ := hE; subst hw; clear ho2 hq2 hvo hx9)
      )
    refine wp_region_noPanic ?_
    go_region_law (first | (go_simp; go_at_call 15; refine (HCL.out _).mono ?_; rintro e w' ⟨rfl, R3, n3, rfl⟩))
    all_goals
      refine NoPanic.normal ?_
      go_wp2
      go_ret
      refine ⟨rfl, HG.out.trans (by repeat (first | with_reducible exact Grew.refl _ | apply Grew.more | apply Grew.alloc | apply Grew.drew | apply Grew.drewN))⟩
  · intro x c1 c2 kl y1 y2 w1 cnt1 hkk hlk hRy hat hrg1 hlt hg1 hs1 hen
    obtain ⟨txt, prg, kk, hx, htl, hpa, hsf, hea⟩ := HKN.out _ (HD.out.one (c := (c1, c2)) hkk (HLF.out kl hlk) hRy hat)
    simp only at hx hea
    subst hx
    have hG1 : Grew w w1 := HG.out.grown hg1 fun q hq => by cases hq; omega
    have d3 := (hg1.block w.heap.size p3 (fun e => by have := Option.some.inj e; omega)).trans C3.out
    have d4 := (hg1.block (w.heap.size + 1) p4 (fun e => by have := Option.some.inj e; omega)).trans C4.out
    have hz : Vm.codeOf prg (0, 0) (r, s) [(p, q)] = 0 := Vm.codeOf_zero.2 ⟨hsf, by simp only [List.all_cons, List.all_nil, Bool.and_true, Bool.and_eq_true]; exact ⟨by decide, HB.out⟩, by simp only [List.all_cons, List.all_nil, Bool.and_true]; exact HA.out⟩
    clear k30 k31 k40 k41 p3 p4
    have k30 := cell_of (o := 0) d3
    have k31 := cell_of (o := 1) d3
    have k40 := cell_of (o := 0) d4
    have k41 := cell_of (o := 1) d4
    simp at k30 k31 k40 k41
    have p3 := Pre.mk (heap_lt d3)
    have p4 := Pre.mk (heap_lt d4)
    have HZ := Lib.hid hz
    have HEA := Lib.hid hea
    have HPA := Lib.hid hpa
    have HTL := Lib.hid htl
    have HG1 := Lib.hid hG1
    have D3 := Lib.hid d3
    have D4 := Lib.hid d4
    have HRG1 := Lib.hid hrg1
    have HHL := Lib.hid hlk
    unfold pairV at hen ⊢
    clear hz hea hpa htl hG1 d3 d4 hrg1 hkk hlk hRy hat hg1 hs1 hsf
    go_upto_region 10 with (first
      | (go_at_call 17; go_loud (refine (codeParse_env txt HTL.out _ (HE.out.grew (HG1.out.trans (by repeat (first | with_reducible exact Grew.refl _ | apply Grew.more | apply Grew.alloc | apply Grew.drew | apply Grew.drewN))))).mono ?_); rintro e w2 ⟨v, rfl, hv, R3, n3, rfl⟩; rw [HPA.out] at hv ⊢; (have HV := Lib.hid hv); clear hv)
      | (go_at_call 8; go_loud (refine (run1_any _ prg p q 0 0 r s _ (HV.out.grew (by repeat (first | with_reducible exact Grew.refl _ | apply Grew.more | apply Grew.alloc | apply Grew.drew | apply Grew.drewN)))).mono ?_); rintro e w3 hE; obtain ⟨ao2, no2, co2, m1, m2, m3, m4, m5, err2, rfl⟩ := hE.shape; (have hcd2 := hE.coded); obtain ⟨hq1, _, hq2⟩ := hcd2; rw [HZ.out] at hq1; subst hq1; obtain ⟨ho2, hm1, hm2, hm3, hm4, hm5⟩ := hq2 rfl; rw [HEA.out] at ho2 hm1 hm2 hm3 hm4 hm5; simp only at ho2 hm1 hm2 hm3 hm4 hm5; subst hm1 hm2 hm3 hm4 hm5; (have hvo := ho2.rows encI_len); obtain ⟨a9, c9, e9, -, hx9⟩ := RowsAt.open2 (f := fun a : Val => Value.int .i64 a.1) (g := fun a : Val => Value.int .i64 a.2) hvo; cases e9; obtain ⟨bo, off, rfl, hbo, ho0, ho1⟩ := hx9 0 (by simp); simp at ho0 ho1; (have pbo := Pre.mk hbo); obtain ⟨⟨R6, N6, hw⟩, _⟩ := hE; subst hw; clear ho2 hq2 hvo hx9)
      )
    have hnq := fun (x y : Int) => run_neq_val x y x y false (by simp)
    go_quiet (fail)
    go_wp2
    refine Handed.intro cnt1 hlt (hJ _ _ _ ?_)
    refine Rel5.mk' _ rfl rfl rfl rfl rfl (HG1.out.trans (by repeat (first | with_reducible exact Grew.refl _ | apply Grew.more | apply Grew.alloc | apply Grew.drew | apply Grew.drewN))) (grew_heap (by repeat (first | with_reducible exact Grew.refl _ | apply Grew.more | apply Grew.alloc | apply Grew.drew | apply Grew.drewN)) D3.out) (grew_heap (by repeat (first | with_reducible exact Grew.refl _ | apply Grew.more | apply Grew.alloc | apply Grew.drew | apply Grew.drewN)) D4.out) (ranges_grew HRG1.out (by repeat (first | with_reducible exact Grew.refl _ | apply Grew.more | apply Grew.alloc | apply Grew.drew | apply Grew.drewN))) ?_
    intro kl2 hk2
    simp only [Bool.and_eq_true] at hk2
    exact HLF.out kl2 hk2.1
end Go.Proofs.YtiocdmfmghanmaaGreatDoor
