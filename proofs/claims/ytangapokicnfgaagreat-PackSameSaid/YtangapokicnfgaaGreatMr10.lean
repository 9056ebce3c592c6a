import Derived.Test.YtangapokicnfgaaGreatMr7
import Derived.Test.YtangapokicnfgaaGreatMr9
import Derived.Deep.LoopGhost
import Derived.Test.YtangapokicnfgaaGreatMr8
/-! slices.IndexFunc and ContainsFunc at entries, numbers and lines. -/
namespace Go.Proofs.YtangapokicnfgaaGreat
set_option linter.unusedSimpArgs false
set_option linter.unusedVariables false
open Go.RowKit Ga
set_option maxRecDepth 100000

/-- the place of the first, or below 0 -/
def IdxPost {α : Type} (l : List α) (p : α → Bool) (w : World) (e : Ending) (w' : World) : Prop := ∃ i : Int, e = .returned (.int .i64 i) ∧ decide (0 ≤ i) = l.any p ∧ Grew w w'
theorem any_at {α : Type} {l : List α} {p : α → Bool} {k : Nat} (hk : k < l.length) (h : p l[k] = true) : l.any p = true := List.any_eq_true.2 ⟨_, List.getElem_mem hk, h⟩
theorem any_none {α : Type} {l : List α} {p : α → Bool} (h : ∀ i (hi : i < l.length), i < l.length → p l[i] = false) : l.any p = false := by
  rw [List.any_eq_false]
  intro x hx
  obtain ⟨i, hi, rfl⟩ := List.mem_iff_getElem.1 hx
  rw [h i hi hi]
  simp
/-- a line as it lies -/
def encLn (x : Gr.Ln) : List Value := [.int .i64 x.sink, .int .i64 x.frm, .int .i64 x.key, .int .i64 x.v.1, .int .i64 x.v.2]
theorem encLn_len (x : Gr.Ln) : (encLn x).length = 5 := rfl
theorem encLn_one (x : Gr.Ln) : ∀ u ∈ encLn x, u.oneCell' = true := by
  intro u hu
  simp [encLn] at hu
  rcases hu with rfl | rfl | rfl | rfl | rfl <;> rfl
abbrev LnsAt (w : World) (v : Value) (l : List Gr.Ln) : Prop := RowsAt 5 encLn w v l
theorem LnsAt.open5 {w : World} {v : Value} {l : List Gr.Ln} (h : LnsAt w v l) : ∃ a cap, v = .slice a l.length cap ∧ l.length ≤ 9223372036854775807 ∧ ∀ i (hi : i < l.length), ∃ b off, a = some ⟨b, off, none⟩ ∧ Pre b w ∧
    w.cell? ⟨b, off + i * 5, none⟩ = some (.int .i64 l[i].sink) ∧ w.cell? ⟨b, off + i * 5 + 1, none⟩ = some (.int .i64 l[i].frm) ∧ w.cell? ⟨b, off + i * 5 + 2, none⟩ = some (.int .i64 l[i].key) ∧ w.cell? ⟨b, off + i * 5 + 3, none⟩ = some (.int .i64 l[i].v.1) ∧ w.cell? ⟨b, off + i * 5 + 4, none⟩ = some (.int .i64 l[i].v.2) := by
  obtain ⟨a, cap, rfl, hm, hx⟩ := h
  refine ⟨a, cap, rfl, by unfold maxLen at hm; omega, fun i hi => ?_⟩
  obtain ⟨b, off, rfl, hc⟩ := hx (by intro e; subst e; simp at hi)
  have hj := fun j u => hc i l[i] (List.getElem?_eq_getElem hi) j u
  have h0 := hj 0 _ rfl
  exact ⟨b, off, rfl, Pre.mk (World.block_lt_of_cell? w _ h0), h0, hj 1 _ rfl, hj 2 _ rfl, hj 3 _ rfl, hj 4 _ rfl⟩
set_option maxHeartbeats 4000000 in
theorem indexEn_any (B : Nat) (v : Value) (l : List Tab.En) (p : Tab.En → Bool) (w : World) (hv : EntsAt w v l) (hp : ∀ W x, x ∈ l → Grew w W → Calls Tryz.prog 125 #[.agg #[.int .i64 x.node, .int .i64 x.key, .int .i64 x.c0.1, .int .i64 x.c0.2, .int .i64 x.c1.1, .int .i64 x.c1.2], .pointer (some ⟨B, 0, none⟩)] W (Gives (.bool (p x)) W)) : Calls Tryz.prog 139 #[v, .func (.func 125) #[] #[.pointer (some ⟨B, 0, none⟩)]] w (IdxPost l p w) := by
  have HV := Lib.hid hv
  have HP := Lib.hid hp
  obtain ⟨a, cap, rfl, hm, -⟩ := EntsAt.open6 hv
  clear hv hp
  go_enter Tryz.func139, Tryz.ntmps139
  go_wp2
  go_loopg [8] l.length (fun gg s8 wr => ∃ k : Nat, k ≤ l.length ∧ l.length - k ≤ gg ∧ s8 = .int .i64 k ∧ Hid (Grew w wr) ∧ Hid (∀ i (h : i < l.length), i < k → p l[i] = false))
  case atStart => exact ⟨0, by omega, by omega, rfl, Lib.hid (by repeat (first | with_reducible exact Grew.refl _ | apply Grew.more | apply Grew.alloc | apply Grew.drew | apply Grew.drewN)), Lib.hid fun i _ h => by omega⟩
  case round =>
    obtain ⟨k, hk, hgg, rfl, HG, HNO⟩ := hrel
    by_cases hlt : k < l.length
    · obtain ⟨a', cap', e, -, hx⟩ := EntsAt.open6 (HV.out.grew HG.out)
      cases e
      obtain ⟨b, off, rfl, hb, c0, c1, c2, c3, c4, c5⟩ := hx k hlt
      have HANY := Lib.hid fun h => any_at (p := p) hlt h
      have HNX : Hid (p l[k] = false → ∀ i (h : i < l.length), i < k + 1 → p l[i] = false) := Lib.hid fun h i hi h2 => (Nat.lt_or_ge i k).elim (HNO.out i hi) fun h3 => by
        obtain rfl : i = k := by omega
        exact h
      have HC := Lib.hid fun W (g : Grew wr W) => HP.out W _ (List.getElem_mem hlt) (HG.out.trans g)
      clear hx
      generalize l[k] = x at *
      cases hq : p x
      · have HQ := Lib.hid hq
        have HNX2 := Lib.hid (HNX.out hq)
        clear hq
        go_wp2_with (go_at_call 125; refine (HC.out _ (by repeat (first | with_reducible exact Grew.refl _ | apply Grew.more | apply Grew.alloc | apply Grew.drew | apply Grew.drewN))).mono ?_; rintro e w1 ⟨rfl, R1, n1, rfl⟩; rw [HQ.out])
        go_roundg (l.length - (k + 1))
        case measure => omega
        case rel => exact ⟨k + 1, by omega, by omega, by go_num, Lib.hid (HG.out.trans (by repeat (first | with_reducible exact Grew.refl _ | apply Grew.more | apply Grew.alloc | apply Grew.drew | apply Grew.drewN))), HNX2⟩
      · have HQ := Lib.hid hq
        have HANY2 := Lib.hid (HANY.out hq)
        clear hq
        go_wp2_with (go_at_call 125; refine (HC.out _ (by repeat (first | with_reducible exact Grew.refl _ | apply Grew.more | apply Grew.alloc | apply Grew.drew | apply Grew.drewN))).mono ?_; rintro e w1 ⟨rfl, R1, n1, rfl⟩; rw [HQ.out])
        go_ret
        exact ⟨k, rfl, by rw [HANY2.out]; exact decide_eq_true (by omega), HG.out.trans (by repeat (first | with_reducible exact Grew.refl _ | apply Grew.more | apply Grew.alloc | apply Grew.drew | apply Grew.drewN))⟩
    · obtain rfl : k = l.length := by omega
      have HANY := Lib.hid (any_none (p := p) HNO.out)
      go_wp2
      go_ret
      exact ⟨-1, rfl, by rw [HANY.out]; rfl, HG.out⟩
set_option maxHeartbeats 4000000 in
theorem containsEn_any (B : Nat) (v : Value) (l : List Tab.En) (p : Tab.En → Bool) (w : World) (hv : EntsAt w v l) (hp : ∀ W x, x ∈ l → Grew w W → Calls Tryz.prog 125 #[.agg #[.int .i64 x.node, .int .i64 x.key, .int .i64 x.c0.1, .int .i64 x.c0.2, .int .i64 x.c1.1, .int .i64 x.c1.2], .pointer (some ⟨B, 0, none⟩)] W (Gives (.bool (p x)) W)) : Calls Tryz.prog 124 #[v, .func (.func 125) #[] #[.pointer (some ⟨B, 0, none⟩)]] w (Gives (.bool (l.any p)) w) := by
  have HI := Lib.hid (indexEn_any B v l p w hv hp)
  obtain ⟨a, cap, rfl, hm, -⟩ := EntsAt.open6 hv
  clear hv hp
  go_enter Tryz.func124, Tryz.ntmps124
  go_wp2_with (go_at_call 139; refine HI.out.mono ?_; rintro e w1 ⟨i, rfl, hi, R1, n1, rfl⟩; (have HQ := Lib.hid hi); clear hi)
  go_ret
  exact ⟨by rw [← HQ.out]; rfl, by repeat (first | with_reducible exact Grew.refl _ | apply Grew.more | apply Grew.alloc | apply Grew.drew | apply Grew.drewN)⟩
set_option maxHeartbeats 4000000 in
theorem indexIn_any (v : Value) (l : List Int) (p : Int → Bool) (w : World) (hv : IntsAt w v l) (hp : ∀ W x, x ∈ l → Grew w W → Calls Tryz.prog 57 #[.int .i64 x] W (Gives (.bool (p x)) W)) : Calls Tryz.prog 98 #[v, .func (.func 57) #[] #[]] w (IdxPost l p w) := by
  have HV := Lib.hid hv
  have HP := Lib.hid hp
  obtain ⟨a, cap, rfl, hm, -⟩ := ints_open hv
  clear hv hp
  go_enter Tryz.func98, Tryz.ntmps98
  go_wp2
  go_loopg [8] l.length (fun gg s8 wr => ∃ k : Nat, k ≤ l.length ∧ l.length - k ≤ gg ∧ s8 = .int .i64 k ∧ Hid (Grew w wr) ∧ Hid (∀ i (h : i < l.length), i < k → p l[i] = false))
  case atStart => exact ⟨0, by omega, by omega, rfl, Lib.hid (by repeat (first | with_reducible exact Grew.refl _ | apply Grew.more | apply Grew.alloc | apply Grew.drew | apply Grew.drewN)), Lib.hid fun i _ h => by omega⟩
  case round =>
    obtain ⟨k, hk, hgg, rfl, HG, HNO⟩ := hrel
    by_cases hlt : k < l.length
    · obtain ⟨a', cap', e, -, hx⟩ := ints_open (HV.out.grew HG.out)
      cases e
      obtain ⟨b, off, rfl, hb, c0⟩ := hx k hlt
      have HANY := Lib.hid fun h => any_at (p := p) hlt h
      have HNX : Hid (p l[k] = false → ∀ i (h : i < l.length), i < k + 1 → p l[i] = false) := Lib.hid fun h i hi h2 => (Nat.lt_or_ge i k).elim (HNO.out i hi) fun h3 => by
        obtain rfl : i = k := by omega
        exact h
      have HC := Lib.hid fun W (g : Grew wr W) => HP.out W _ (List.getElem_mem hlt) (HG.out.trans g)
      clear hx
      generalize l[k] = x at *
      cases hq : p x
      · have HQ := Lib.hid hq
        have HNX2 := Lib.hid (HNX.out hq)
        clear hq
        go_wp2_with (go_at_call 57; refine (HC.out _ (by repeat (first | with_reducible exact Grew.refl _ | apply Grew.more | apply Grew.alloc | apply Grew.drew | apply Grew.drewN))).mono ?_; rintro e w1 ⟨rfl, R1, n1, rfl⟩; rw [HQ.out])
        go_roundg (l.length - (k + 1))
        case measure => omega
        case rel => exact ⟨k + 1, by omega, by omega, by go_num, Lib.hid (HG.out.trans (by repeat (first | with_reducible exact Grew.refl _ | apply Grew.more | apply Grew.alloc | apply Grew.drew | apply Grew.drewN))), HNX2⟩
      · have HQ := Lib.hid hq
        have HANY2 := Lib.hid (HANY.out hq)
        clear hq
        go_wp2_with (go_at_call 57; refine (HC.out _ (by repeat (first | with_reducible exact Grew.refl _ | apply Grew.more | apply Grew.alloc | apply Grew.drew | apply Grew.drewN))).mono ?_; rintro e w1 ⟨rfl, R1, n1, rfl⟩; rw [HQ.out])
        go_ret
        exact ⟨k, rfl, by rw [HANY2.out]; exact decide_eq_true (by omega), HG.out.trans (by repeat (first | with_reducible exact Grew.refl _ | apply Grew.more | apply Grew.alloc | apply Grew.drew | apply Grew.drewN))⟩
    · obtain rfl : k = l.length := by omega
      have HANY := Lib.hid (any_none (p := p) HNO.out)
      go_wp2
      go_ret
      exact ⟨-1, rfl, by rw [HANY.out]; rfl, HG.out⟩
set_option maxHeartbeats 4000000 in
theorem containsIn_any (v : Value) (l : List Int) (p : Int → Bool) (w : World) (hv : IntsAt w v l) (hp : ∀ W x, x ∈ l → Grew w W → Calls Tryz.prog 57 #[.int .i64 x] W (Gives (.bool (p x)) W)) : Calls Tryz.prog 61 #[v, .func (.func 57) #[] #[]] w (Gives (.bool (l.any p)) w) := by
  have HI := Lib.hid (indexIn_any v l p w hv hp)
  obtain ⟨a, cap, rfl, hm, -⟩ := ints_open hv
  clear hv hp
  go_enter Tryz.func61, Tryz.ntmps61
  go_wp2_with (go_at_call 98; refine HI.out.mono ?_; rintro e w1 ⟨i, rfl, hi, R1, n1, rfl⟩; (have HQ := Lib.hid hi); clear hi)
  go_ret
  exact ⟨by rw [← HQ.out]; rfl, by repeat (first | with_reducible exact Grew.refl _ | apply Grew.more | apply Grew.alloc | apply Grew.drew | apply Grew.drewN)⟩
set_option maxHeartbeats 4000000 in
theorem indexLn_any (v : Value) (l : List Gr.Ln) (p : Gr.Ln → Bool) (w : World) (hv : LnsAt w v l) (hp : ∀ W x, x ∈ l → Grew w W → Calls Tryz.prog 58 #[.agg #[.int .i64 x.sink, .int .i64 x.frm, .int .i64 x.key, .int .i64 x.v.1, .int .i64 x.v.2]] W (Gives (.bool (p x)) W)) : Calls Tryz.prog 102 #[v, .func (.func 58) #[] #[]] w (IdxPost l p w) := by
  have HV := Lib.hid hv
  have HP := Lib.hid hp
  obtain ⟨a, cap, rfl, hm, -⟩ := LnsAt.open5 hv
  clear hv hp
  go_enter Tryz.func102, Tryz.ntmps102
  go_wp2
  go_loopg [8] l.length (fun gg s8 wr => ∃ k : Nat, k ≤ l.length ∧ l.length - k ≤ gg ∧ s8 = .int .i64 k ∧ Hid (Grew w wr) ∧ Hid (∀ i (h : i < l.length), i < k → p l[i] = false))
  case atStart => exact ⟨0, by omega, by omega, rfl, Lib.hid (by repeat (first | with_reducible exact Grew.refl _ | apply Grew.more | apply Grew.alloc | apply Grew.drew | apply Grew.drewN)), Lib.hid fun i _ h => by omega⟩
  case round =>
    obtain ⟨k, hk, hgg, rfl, HG, HNO⟩ := hrel
    by_cases hlt : k < l.length
    · obtain ⟨a', cap', e, -, hx⟩ := LnsAt.open5 (HV.out.grew HG.out)
      cases e
      obtain ⟨b, off, rfl, hb, c0, c1, c2, c3, c4⟩ := hx k hlt
      have HANY := Lib.hid fun h => any_at (p := p) hlt h
      have HNX : Hid (p l[k] = false → ∀ i (h : i < l.length), i < k + 1 → p l[i] = false) := Lib.hid fun h i hi h2 => (Nat.lt_or_ge i k).elim (HNO.out i hi) fun h3 => by
        obtain rfl : i = k := by omega
        exact h
      have HC := Lib.hid fun W (g : Grew wr W) => HP.out W _ (List.getElem_mem hlt) (HG.out.trans g)
      clear hx
      generalize l[k] = x at *
      cases hq : p x
      · have HQ := Lib.hid hq
        have HNX2 := Lib.hid (HNX.out hq)
        clear hq
        go_wp2_with (go_at_call 58; refine (HC.out _ (by repeat (first | with_reducible exact Grew.refl _ | apply Grew.more | apply Grew.alloc | apply Grew.drew | apply Grew.drewN))).mono ?_; rintro e w1 ⟨rfl, R1, n1, rfl⟩; rw [HQ.out])
        go_roundg (l.length - (k + 1))
        case measure => omega
        case rel => exact ⟨k + 1, by omega, by omega, by go_num, Lib.hid (HG.out.trans (by repeat (first | with_reducible exact Grew.refl _ | apply Grew.more | apply Grew.alloc | apply Grew.drew | apply Grew.drewN))), HNX2⟩
      · have HQ := Lib.hid hq
        have HANY2 := Lib.hid (HANY.out hq)
        clear hq
        go_wp2_with (go_at_call 58; refine (HC.out _ (by repeat (first | with_reducible exact Grew.refl _ | apply Grew.more | apply Grew.alloc | apply Grew.drew | apply Grew.drewN))).mono ?_; rintro e w1 ⟨rfl, R1, n1, rfl⟩; rw [HQ.out])
        go_ret
        exact ⟨k, rfl, by rw [HANY2.out]; exact decide_eq_true (by omega), HG.out.trans (by repeat (first | with_reducible exact Grew.refl _ | apply Grew.more | apply Grew.alloc | apply Grew.drew | apply Grew.drewN))⟩
    · obtain rfl : k = l.length := by omega
      have HANY := Lib.hid (any_none (p := p) HNO.out)
      go_wp2
      go_ret
      exact ⟨-1, rfl, by rw [HANY.out]; rfl, HG.out⟩
set_option maxHeartbeats 4000000 in
theorem containsLn_any (v : Value) (l : List Gr.Ln) (p : Gr.Ln → Bool) (w : World) (hv : LnsAt w v l) (hp : ∀ W x, x ∈ l → Grew w W → Calls Tryz.prog 58 #[.agg #[.int .i64 x.sink, .int .i64 x.frm, .int .i64 x.key, .int .i64 x.v.1, .int .i64 x.v.2]] W (Gives (.bool (p x)) W)) : Calls Tryz.prog 63 #[v, .func (.func 58) #[] #[]] w (Gives (.bool (l.any p)) w) := by
  have HI := Lib.hid (indexLn_any v l p w hv hp)
  obtain ⟨a, cap, rfl, hm, -⟩ := LnsAt.open5 hv
  clear hv hp
  go_enter Tryz.func63, Tryz.ntmps63
  go_wp2_with (go_at_call 102; refine HI.out.mono ?_; rintro e w1 ⟨i, rfl, hi, R1, n1, rfl⟩; (have HQ := Lib.hid hi); clear hi)
  go_ret
  exact ⟨by rw [← HQ.out]; rfl, by repeat (first | with_reducible exact Grew.refl _ | apply Grew.more | apply Grew.alloc | apply Grew.drew | apply Grew.drewN)⟩
end Go.Proofs.YtangapokicnfgaaGreat

/-! Steps in memory: fifteen cells each. -/
namespace Go.Proofs.YtangapokicnfgaaGreat
set_option linter.unusedSimpArgs false
set_option linter.unusedVariables false
open Go.RowKit Ga
set_option maxRecDepth 100000

/-- a step as it lies -/
structure StC where
  kind : Int
  c : NdC
  reset : Bool
instance : Inhabited StC := ⟨⟨0, default, false⟩⟩
def encSt (s : StC) : List Value := [.int .i64 s.kind, .int .i64 s.c.id, .int .i64 s.c.kind, .slice s.c.af s.c.nf s.c.cf, .slice s.c.ap s.c.np s.c.cp, .int .i64 s.c.par, .int .i64 s.c.r0, .int .i64 s.c.r1, .int .i64 s.c.r2, .int .i64 s.c.r3, .int .i64 s.c.r4, .int .i64 s.c.r5, .int .i64 s.c.r6, .int .i64 s.c.r7, .bool s.reset]
theorem encSt_len (s : StC) : (encSt s).length = 15 := rfl
theorem encSt_one (c : StC) : ∀ u ∈ encSt c, u.oneCell' = true := by
  intro u hu
  simp [encSt] at hu
  rcases hu with rfl | rfl | rfl | rfl | rfl | rfl | rfl | rfl | rfl | rfl | rfl | rfl | rfl | rfl | rfl <;> rfl
structure StepIs (w : World) (c : StC) (s : Gr.Stp) : Prop where
  kind : s.kind = c.kind
  nd : NodeIs w c.c s.nd
  reset : s.reset = c.reset
theorem StepIs.grew {w w' : World} {c : StC} {s : Gr.Stp} (h : StepIs w c s) (g : Grew w w') : StepIs w' c s := { h with nd := h.nd.grew g }
def StepsAt (w : World) (v : Value) (l : List Gr.Stp) : Prop := ∃ lc : List StC, RowsAt 15 encSt w v lc ∧ lc.length = l.length ∧ ∀ (i : Nat) (c : StC) (s : Gr.Stp), lc[i]? = some c → l[i]? = some s → StepIs w c s
theorem StepsAt.grew {w w' : World} {v : Value} {l : List Gr.Stp} (h : StepsAt w v l) (g : Grew w w') : StepsAt w' v l := by
  obtain ⟨lc, h1, h2, h3⟩ := h
  exact ⟨lc, h1.grew g, h2, fun i c n hc hn => (h3 i c n hc hn).grew g⟩
theorem StepsAt.nil (w : World) : StepsAt w (.slice none 0 0) [] := ⟨[], RowsAt.nil, rfl, fun i c n h => by simp at h⟩
theorem StepsAt.r8 {w : World} {v : Value} {l : List Gr.Stp} (h : StepsAt w v l) : ∀ s ∈ l, s.nd.route.length = 8 := by
  obtain ⟨lc, -, h2, h3⟩ := h
  intro n hn
  obtain ⟨i, hi, rfl⟩ := List.mem_iff_getElem.1 hn
  rw [(h3 i lc[i] l[i] (List.getElem?_eq_getElem (by omega)) (List.getElem?_eq_getElem hi)).nd.route]
  rfl
theorem StepsAt.openC {w : World} {v : Value} {l : List Gr.Stp} (h : StepsAt w v l) : ∃ a cap, v = .slice a l.length cap ∧ l.length ≤ 9223372036854775807 ∧ ∀ i (hi : i < l.length), ∃ b off c, a = some ⟨b, off, none⟩ ∧ Pre b w ∧ StepIs w c l[i] ∧
    w.cell? ⟨b, off + i * 15, none⟩ = some (.int .i64 c.kind) ∧
    w.cell? ⟨b, off + i * 15 + 1, none⟩ = some (.int .i64 c.c.id) ∧
    w.cell? ⟨b, off + i * 15 + 2, none⟩ = some (.int .i64 c.c.kind) ∧
    w.cell? ⟨b, off + i * 15 + 3, none⟩ = some (.slice c.c.af c.c.nf c.c.cf) ∧
    w.cell? ⟨b, off + i * 15 + 4, none⟩ = some (.slice c.c.ap c.c.np c.c.cp) ∧
    w.cell? ⟨b, off + i * 15 + 5, none⟩ = some (.int .i64 c.c.par) ∧
    w.cell? ⟨b, off + i * 15 + 6, none⟩ = some (.int .i64 c.c.r0) ∧
    w.cell? ⟨b, off + i * 15 + 7, none⟩ = some (.int .i64 c.c.r1) ∧
    w.cell? ⟨b, off + i * 15 + 8, none⟩ = some (.int .i64 c.c.r2) ∧
    w.cell? ⟨b, off + i * 15 + 9, none⟩ = some (.int .i64 c.c.r3) ∧
    w.cell? ⟨b, off + i * 15 + 10, none⟩ = some (.int .i64 c.c.r4) ∧
    w.cell? ⟨b, off + i * 15 + 11, none⟩ = some (.int .i64 c.c.r5) ∧
    w.cell? ⟨b, off + i * 15 + 12, none⟩ = some (.int .i64 c.c.r6) ∧
    w.cell? ⟨b, off + i * 15 + 13, none⟩ = some (.int .i64 c.c.r7) ∧
    w.cell? ⟨b, off + i * 15 + 14, none⟩ = some (.bool c.reset) := by
  obtain ⟨lc, ⟨a, cap, rfl, hm, hx⟩, h2, h3⟩ := h
  refine ⟨a, cap, by rw [h2], by unfold maxLen at hm; omega, fun i hi => ?_⟩
  have hi' : i < lc.length := by omega
  obtain ⟨b, off, rfl, hc⟩ := hx (by intro e; subst e; simp at hi')
  have hn := h3 i lc[i] l[i] (List.getElem?_eq_getElem hi') (List.getElem?_eq_getElem hi)
  have hj := fun j u => hc i lc[i] (List.getElem?_eq_getElem hi') j u
  have h0 := hj 0 _ rfl
  exact ⟨b, off, lc[i], rfl, Pre.mk (World.block_lt_of_cell? w _ h0), hn, h0, hj 1 _ rfl, hj 2 _ rfl, hj 3 _ rfl, hj 4 _ rfl, hj 5 _ rfl, hj 6 _ rfl, hj 7 _ rfl, hj 8 _ rfl, hj 9 _ rfl, hj 10 _ rfl, hj 11 _ rfl, hj 12 _ rfl, hj 13 _ rfl, hj 14 _ rfl⟩
/-- .. written out -/
theorem StepIs.lit {w : World} {c : StC} {s : Gr.Stp} (h : StepIs w c s) : ∃ kind reset id kd af cf ap cp par r0 r1 r2 r3 r4 r5 r6 r7, c = ⟨kind, ⟨id, kd, af, s.nd.frm.length, cf, ap, s.nd.prog.length, cp, par, r0, r1, r2, r3, r4, r5, r6, r7⟩, reset⟩ := by
  obtain ⟨kind, c, reset⟩ := c
  obtain ⟨id, kd, af, cf, ap, cp, par, r0, r1, r2, r3, r4, r5, r6, r7, e⟩ := h.nd.lit
  simp only at e
  subst e
  exact ⟨_, _, _, _, _, _, _, _, _, _, _, _, _, _, _, _, _, rfl⟩
/-- a node alone in a slice just made -/
theorem NodesAt.one {w : World} {c : NdC} {n : Gr.Nd} (h : NodeIs w c n) (k : Nat) (hk : k = w.heap.size) (cs : List Value) (hcs : cs = encNd c) : NodesAt (w.alloc (.cells cs.toArray 45)) (.slice (some ⟨k, 0, none⟩) 1 1) [n] := by
  refine ⟨[c], RowsAt.fresh (l := [c]) rfl (by simp [maxLen]) encNd_len hk (by rw [hcs]; simp), rfl, ?_⟩
  intro i c' n' h1 h2
  match i with
  | 0 =>
    cases h1
    cases h2
    exact h.grew ((Grew.refl _).alloc _)
  | i + 1 => cases h1
end Go.Proofs.YtangapokicnfgaaGreat
