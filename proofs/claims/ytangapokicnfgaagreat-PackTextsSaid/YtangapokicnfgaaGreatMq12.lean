import Derived.Test.YtangapokicnfgaaGreatMq11
import Derived.Lib.SlicesCompact
import Derived.Test.YtangapokicnfgaaGreatMq9
/-! slices.IndexFunc and ContainsFunc at numbers and at nodes; slices.Index and Contains at numbers. -/
namespace Go.Proofs.YtangapokicnfgaaGreat
set_option linter.unusedSimpArgs false
set_option linter.unusedVariables false
open Go.RowKit Ga
set_option maxRecDepth 100000

def idxP {α : Type} (p : α → Bool) (l : List α) : Int := match l.findIdx? p with
  | some i => i
  | none => -1
theorem idxP_at {α : Type} {p : α → Bool} {l : List α} {k : Nat} (hk : k < l.length) (h : p l[k] = true) (hn : ∀ j (hj : j < l.length), j < k → p l[j] = false) : idxP p l = k := by
  unfold idxP
  rw [List.findIdx?_eq_some_iff_getElem.2 ⟨hk, h, fun j hj => by simpa using hn j (by omega) hj⟩]
theorem idxP_no {α : Type} {p : α → Bool} {l : List α} (hn : ∀ j (hj : j < l.length), p l[j] = false) : idxP p l = -1 := by
  unfold idxP
  rw [List.findIdx?_eq_none_iff.2 fun n hm => by
    obtain ⟨j, hj, rfl⟩ := List.mem_iff_getElem.1 hm
    exact hn j hj]
theorem idxP_any {α : Type} {p : α → Bool} {l : List α} : l.any p = decide (0 ≤ idxP p l) := by
  unfold idxP
  cases h : l.findIdx? p with
  | none =>
    rw [List.findIdx?_eq_none_iff] at h
    have : l.any p = false := List.any_eq_false.2 fun x hx => by simp [h x hx]
    rw [this]; rfl
  | some i =>
    obtain ⟨hi, h1, -⟩ := List.findIdx?_eq_some_iff_getElem.1 h
    have : l.any p = true := List.any_eq_true.2 ⟨_, List.getElem_mem hi, h1⟩
    rw [this]
    symm
    simp
theorem idxP_range {α : Type} {p : α → Bool} {l : List α} : -1 ≤ idxP p l ∧ idxP p l < l.length := by
  unfold idxP
  cases h : l.findIdx? p with
  | none => simp; omega
  | some i =>
    obtain ⟨hi, _⟩ := List.findIdx?_eq_some_iff_getElem.1 h
    simp; omega

/-- a predicate on numbers that a function value computes -/
def PredI (g : Nat) (lb : Array Value) (p : Int → Bool) (w : World) : Prop := ∀ W x, Grew w W → Calls Tryz.prog g (#[.int .i64 x] ++ lb) W (Gives (.bool (p x)) W)

set_option maxHeartbeats 2000000 in
theorem indexInts_any (v : Value) (l : List Int) (g : Nat) (lb : Array Value) (p : Int → Bool) (w : World) (hv : IntsAt w v l) (eg : ∀ args w, (callFunc g args).run Tryz.prog w = .ok (.enter g args) w) (hp : PredI g lb p w) :
    Calls Tryz.prog 98 #[v, .func (.func g) #[] lb] w (Gives (.int .i64 (idxP p l)) w) := by
  have HV := Lib.hid hv
  have HP := Lib.hid hp
  obtain ⟨a, cap, rfl, hm, -⟩ := ints_open hv
  clear hv hp
  go_enter Tryz.func98, Tryz.ntmps98
  go_wp2
  go_loopg [5, 8] l.length (fun gg _ s8 wr => ∃ k : Nat, k ≤ l.length ∧ l.length - k ≤ gg ∧ s8 = .int .i64 k ∧ Hid (Grew w wr) ∧ Hid (∀ j (hj : j < l.length), j < k → p l[j] = false))
  case atStart => exact ⟨0, Nat.zero_le _, by omega, rfl, Lib.hid (by repeat (first | with_reducible exact Grew.refl _ | apply Grew.more | apply Grew.alloc | apply Grew.drew | apply Grew.drewN)), Lib.hid fun j _ h => by omega⟩
  case round =>
    obtain ⟨k, hk, hgg, rfl, HG, HNO⟩ := hrel
    by_cases hlt : k < l.length
    · obtain ⟨a', cap', e, -, hx⟩ := ints_open (HV.out.grew HG.out)
      cases e
      obtain ⟨b, off, rfl, hb, c0⟩ := hx k hlt
      have hcall := HP.out wr l[k] HG.out
      clear hx
      generalize hy : l[k] = y at c0 hcall
      have HY := Lib.hid hy
      clear hy
      cases hq : p y with
      | true =>
        have hr := idxP_at hlt (by rw [HY.out]; exact hq) HNO.out
        have HR := Lib.hid hr
        rw [hq] at hcall
        clear hr hq
        go_wp2_with (go_at_fn g; refine hcall.mono ?_; rintro e w1 ⟨rfl, R3, n3, rfl⟩)
        go_ret
        exact ⟨by rw [HR.out]; rfl, HG.out.trans (by repeat (first | with_reducible exact Grew.refl _ | apply Grew.more | apply Grew.alloc | apply Grew.drew | apply Grew.drewN))⟩
      | false =>
        have HQ := Lib.hid hq
        rw [hq] at hcall
        clear hq
        go_wp2_with (go_at_fn g; refine hcall.mono ?_; rintro e w1 ⟨rfl, R3, n3, rfl⟩)
        go_roundg (l.length - (k + 1))
        case measure => omega
        case rel => exact ⟨k + 1, by omega, by omega, by go_num, Lib.hid (HG.out.trans (by repeat (first | with_reducible exact Grew.refl _ | apply Grew.more | apply Grew.alloc | apply Grew.drew | apply Grew.drewN))), Lib.hid fun j hj h => by
          rcases Nat.lt_or_ge j k with h1 | h1
          · exact HNO.out j hj h1
          · obtain rfl : j = k := by omega
            rw [HY.out]
            exact HQ.out⟩
    · obtain rfl : k = l.length := by omega
      have hr := idxP_no fun j hj => HNO.out j hj hj
      have HR := Lib.hid hr
      clear hr
      go_wp2
      go_ret
      exact ⟨by rw [HR.out]; rfl, HG.out⟩
theorem containsFn_any (v : Value) (l : List Int) (g : Nat) (lb : Array Value) (p : Int → Bool) (w : World) (hv : IntsAt w v l) (eg : ∀ args w, (callFunc g args).run Tryz.prog w = .ok (.enter g args) w) (hp : PredI g lb p w) :
    Calls Tryz.prog 61 #[v, .func (.func g) #[] lb] w (Gives (.bool (l.any p)) w) := by
  rw [idxP_any]
  have hI := indexInts_any v l g lb p w hv eg hp
  obtain ⟨a, cap, rfl, hm, -⟩ := ints_open hv
  clear hv hp
  generalize idxP p l = r at *
  go_enter Tryz.func61, Tryz.ntmps61
  go_wp2_with (go_at_call 98; refine hI.mono ?_; rintro e w1 ⟨rfl, R3, n3, rfl⟩)
  go_ret
  refine ⟨rfl, ?_⟩
  repeat (first | with_reducible exact Grew.refl _ | apply Grew.more | apply Grew.alloc | apply Grew.drew | apply Grew.drewN)
theorem containsI_any (v : Value) (l : List Int) (x : Int) (w : World) (hv : IntsAt w v l) : Calls Tryz.prog 75 #[v, .int .i64 x] w fun e w' => e = .returned (.bool (decide (x ∈ l))) ∧ w' = w := by
  obtain ⟨a, cap, rfl, hm, hx⟩ := ints_open hv
  cases l with
  | nil =>
    refine (Tryz.slices_Contains_int_empty a cap x w).mono fun e w' ⟨he, hw⟩ => ⟨?_, hw⟩
    rw [he]; simp
  | cons y l =>
    obtain ⟨b, off, h, _⟩ := hx 0 (by simp)
    cases h
    refine (Tryz.slices_Contains_int b off _ cap (y :: l) x w (Nat.le_refl _) (by omega) fun j hj => ?_).mono fun e w' ⟨he, hw⟩ => ⟨?_, hw⟩
    · obtain ⟨b', off', h, _, hc⟩ := hx j hj
      cases h
      rw [List.getD_eq_getElem?_getD, List.getElem?_eq_getElem hj]
      exact hc
    · rw [he, List.take_of_length_le (Nat.le_refl _)]
      simp

/-- a predicate on nodes that a function value computes -/
def PredN (g : Nat) (lb : Array Value) (p : Gr.Nd → Bool) (w : World) : Prop := ∀ W c n, Grew w W → NodeIs W c n → Calls Tryz.prog g (#[.agg #[.int .i64 c.id, .int .i64 c.kind, .slice c.af c.nf c.cf, .slice c.ap c.np c.cp, .int .i64 c.par, .int .i64 c.r0, .int .i64 c.r1, .int .i64 c.r2, .int .i64 c.r3, .int .i64 c.r4, .int .i64 c.r5, .int .i64 c.r6, .int .i64 c.r7]] ++ lb) W (Gives (.bool (p n)) W)
set_option maxHeartbeats 4000000 in
theorem indexNodes_any (v : Value) (l : List Gr.Nd) (g : Nat) (lb : Array Value) (p : Gr.Nd → Bool) (w : World) (hv : NodesAt w v l) (eg : ∀ args w, (callFunc g args).run Tryz.prog w = .ok (.enter g args) w) (hp : PredN g lb p w) :
    Calls Tryz.prog 94 #[v, .func (.func g) #[] lb] w (Gives (.int .i64 (idxP p l)) w) := by
  have HV := Lib.hid hv
  have HP := Lib.hid hp
  obtain ⟨a, cap, rfl, hm, -⟩ := hv.openC
  clear hv hp
  go_enter Tryz.func94, Tryz.ntmps94
  go_wp2
  go_loopg [5, 8] l.length (fun gg _ s8 wr => ∃ k : Nat, k ≤ l.length ∧ l.length - k ≤ gg ∧ s8 = .int .i64 k ∧ Hid (Grew w wr) ∧ Hid (∀ j (hj : j < l.length), j < k → p l[j] = false))
  case atStart => exact ⟨0, Nat.zero_le _, by omega, rfl, Lib.hid (by repeat (first | with_reducible exact Grew.refl _ | apply Grew.more | apply Grew.alloc | apply Grew.drew | apply Grew.drewN)), Lib.hid fun j _ h => by omega⟩
  case round =>
    obtain ⟨k, hk, hgg, rfl, HG, HNO⟩ := hrel
    by_cases hlt : k < l.length
    · obtain ⟨a', cap', e, -, hx⟩ := (HV.out.grew HG.out).openC
      cases e
      obtain ⟨b, off, c, rfl, hb, hn, c0, c1, c2, c3, c4, c5, c6, c7, c8, c9, c10, c11, c12⟩ := hx k hlt
      have hcall := HP.out wr c l[k] HG.out hn
      clear hx hn
      generalize hy : l[k] = y at hcall
      have HY := Lib.hid hy
      clear hy
      obtain ⟨id, kind, af, nf, cf, ap, np, cp, par, r0, r1, r2, r3, r4, r5, r6, r7⟩ := c
      simp only at c0 c1 c2 c3 c4 c5 c6 c7 c8 c9 c10 c11 c12 hcall
      cases hq : p y with
      | true =>
        have hr := idxP_at hlt (by rw [HY.out]; exact hq) HNO.out
        have HR := Lib.hid hr
        rw [hq] at hcall
        clear hr hq
        go_wp2_with (go_at_fn g; refine hcall.mono ?_; rintro e w1 ⟨rfl, R3, n3, rfl⟩)
        go_ret
        exact ⟨by rw [HR.out]; rfl, HG.out.trans (by repeat (first | with_reducible exact Grew.refl _ | apply Grew.more | apply Grew.alloc | apply Grew.drew | apply Grew.drewN))⟩
      | false =>
        have HQ := Lib.hid hq
        rw [hq] at hcall
        clear hq
        go_wp2_with (go_at_fn g; refine hcall.mono ?_; rintro e w1 ⟨rfl, R3, n3, rfl⟩)
        go_roundg (l.length - (k + 1))
        case measure => omega
        case rel => exact ⟨k + 1, by omega, by omega, by go_num, Lib.hid (HG.out.trans (by repeat (first | with_reducible exact Grew.refl _ | apply Grew.more | apply Grew.alloc | apply Grew.drew | apply Grew.drewN))), Lib.hid fun j hj h => by
          rcases Nat.lt_or_ge j k with h1 | h1
          · exact HNO.out j hj h1
          · obtain rfl : j = k := by omega
            rw [HY.out]
            exact HQ.out⟩
    · obtain rfl : k = l.length := by omega
      have hr := idxP_no fun j hj => HNO.out j hj hj
      have HR := Lib.hid hr
      clear hr
      go_wp2
      go_ret
      exact ⟨by rw [HR.out]; rfl, HG.out⟩
end Go.Proofs.YtangapokicnfgaaGreat

/-! graph.unlike: a list's numbers are unlike. -/
namespace Go.Proofs.YtangapokicnfgaaGreat
set_option linter.unusedSimpArgs false
set_option linter.unusedVariables false
open Go.RowKit Ga
set_option maxRecDepth 100000

theorem keeps_iff (s : List Int) (j : Nat) (hj : j < s.length) (h0 : 0 < j) : Lib.keeps s.toArray j = true ↔ s[j] ≠ s[j - 1]'(by omega) := by
  unfold Lib.keeps
  rw [decide_eq_true_eq]
  have e1 : s.toArray[j]! = s[j] := by rw [getElem!_pos s.toArray j (by simpa using hj)]; simp
  have e2 : s.toArray[j - 1]! = s[j - 1]'(by omega) := by rw [getElem!_pos s.toArray (j - 1) (by simp; omega)]; simp
  rw [e1, e2]
  exact ⟨fun h => h.resolve_left (by omega), .inr⟩
theorem compact_len (s : List Int) (hs : s.Pairwise (· ≤ ·)) : (Lib.compact s).length = s.length ↔ s.Nodup := by
  unfold Lib.compact Lib.compactUpTo
  rw [List.length_map]
  have hf : ((List.range s.length).filter (Lib.keeps s.toArray)).length = s.length ↔ ∀ j ∈ List.range s.length, Lib.keeps s.toArray j = true := by
    have := List.length_filter_eq_length_iff (p := Lib.keeps s.toArray) (l := List.range s.length)
    rw [List.length_range] at this
    exact this
  rw [hf]
  rw [List.pairwise_iff_getElem] at hs
  constructor
  · intro h
    rw [List.Nodup, List.pairwise_iff_getElem]
    intro i j hi hj hij he
    have h1 := (keeps_iff s j hj (by omega)).1 (h j (List.mem_range.2 hj))
    rcases Nat.lt_or_ge i (j - 1) with h2 | h2
    · have h3 := hs i (j - 1) hi (by omega) h2
      have h4 := hs (j - 1) j (by omega) hj (by omega)
      exact h1 (by omega)
    · obtain rfl : i = j - 1 := by omega
      exact h1 he.symm
  · intro h j hj
    have hj := List.mem_range.1 hj
    rcases Nat.eq_zero_or_pos j with rfl | h0
    · exact Lib.keeps_lt_one _ 0 (by omega)
    · refine (keeps_iff s j hj h0).2 fun e => ?_
      exact (List.pairwise_iff_getElem.1 h) (j - 1) j (by omega) hj (by omega) e.symm
def sortI (l : List Int) : List Int := l.mergeSort fun x y => decide (x ≤ y)
theorem sortI_len (l : List Int) : (sortI l).length = l.length := List.length_mergeSort l
theorem sortI_perm (l : List Int) : (sortI l).Perm l := List.mergeSort_perm l _
theorem sortI_sorted (l : List Int) : (sortI l).Pairwise (· ≤ ·) := by
  have := List.pairwise_mergeSort (le := fun x y : Int => decide (x ≤ y)) (fun a b c h1 h2 => by simp at *; omega) (fun a b => by simp; omega) l
  exact this.imp fun h => by simpa using h
theorem unlike_iff (l : List Int) : decide ((Lib.compact (sortI l)).length = l.length) = decide l.Nodup := by
  have h := compact_len (sortI l) (sortI_sorted l)
  rw [sortI_len, (sortI_perm l).nodup_iff] at h
  exact decide_eq_decide.2 h

theorem grewRow {α : Type} [Inhabited α] {enc : α → Value} {w0 W : World} (g : Grew w0 W) {b off : Nat} {d : Array α} (hb : w0.heap.size ≤ b) : Grew w0 (Sort.putRow enc W b off d) :=
  Grew.ofBelow (g.below.trans ⟨rfl, rfl, rfl, by rw [Sort.size_putRow]; exact Nat.le_refl _, fun k hk => by
    unfold Sort.putRow Sort.mapBlock
    simp only [Array.getElem?_modify]
    rw [if_neg (by omega)]⟩)
theorem grewAhead {w0 W : World} (g : Grew w0 W) (n : Nat) : Grew w0 (Sort.ahead W n) := g.drewN n
theorem grewOs {w0 W : World} (g : Grew w0 W) (os : Array Obj) : Grew w0 (Sort.grow W os) := g.more os W.drawn
theorem own_holds {base : Nat} {W : World} {b cap n : Nat} {l : List Int} (h : OwnAt base 3 1 encN W (.slice (some ⟨b, 0, none⟩) n cap) l) : Sort.Holds (Value.int .i64) W b 0 l.toArray ∧ l.length ≤ cap ∧ base ≤ b ∧ b < W.heap.size := by
  obtain ⟨h1, h2⟩ := h
  rcases h2 with ⟨h, _⟩ | ⟨g, cap', cur, hv, hb, hh, hc, hm, hs, ht⟩
  · cases h
  · cases hv
    have hb' := (Array.getElem?_eq_some_iff.1 hh).1
    refine ⟨fun j hj => ?_, by omega, hb, hb'⟩
    have hj' : j < l.length := by simpa using hj
    have e1 : l.toArray[j]! = l[j] := by rw [getElem!_pos l.toArray j hj]; simp
    rw [Nat.zero_add, cell_of_heap hh, frozen_of_heap hh, e1]
    refine ⟨?_, rfl⟩
    have h3 : (l.flatMap encN)[j]? = some (.int .i64 l[j]) := by
      have := flat_get encN_len l j l[j] (List.getElem?_eq_getElem hj') 0 (.int .i64 l[j]) rfl
      simpa using this
    rw [← ht] at h3
    rw [List.getElem?_take] at h3
    split at h3
    · simpa using h3
    · cases h3

set_option maxHeartbeats 2000000 in
theorem unlike_any (v : Value) (l : List Int) (w : World) (hv : IntsAt w v l) (hl : l.length ≤ 1000) : Calls Tryz.prog 74 #[v] w (Gives (.bool (decide l.Nodup)) w) := by
  have hC := cloneInts_any v l w hv hl
  have hlen : decide ((Lib.compact (sortI l)).length = l.length) = decide l.Nodup := unlike_iff l
  have HL := Lib.hid hlen
  have hcl : (Lib.compact (sortI l)).length ≤ 1000 := Nat.le_trans (Lib.compact_length_le _) (by rw [sortI_len]; exact hl)
  obtain ⟨a, cap, rfl, -⟩ := hv
  clear hlen
  by_cases h0 : l = []
  · subst h0
    have hd : (decide ([] : List Int).Nodup) = true := by decide
    rw [hd]
    have HC := Lib.hid hC
    clear hC hd hcl HL
    go_enter Tryz.func74, Tryz.ntmps74
    go_wp2_with (first
      | (go_at_call 91; refine HC.out.mono ?_; rintro e w1 ⟨v1, rfl, ho1, R3, n3, rfl⟩; obtain ⟨a1, c1, rfl⟩ := (ho1.rows encN_len).len; clear ho1; simp only [List.length_nil])
      | (go_at_call 109; refine (Tryz.slices_Sort_int_none _ _ _).mono ?_; rintro e w1 ⟨rfl, hw1⟩; obtain rfl := hw1)
      | (go_at_call 110; refine (Tryz.slices_Compact_int_empty _ _ _).mono ?_; rintro e w1 ⟨rfl, hw1⟩; obtain rfl := hw1))
    go_ret
    refine ⟨rfl, ?_⟩
    repeat (first | with_reducible exact Grew.refl _ | apply Grew.more | apply Grew.alloc | apply Grew.drew | apply Grew.drewN)
  · have hpos : 0 < l.length := List.length_pos_iff.2 h0
    have HC := Lib.hid hC
    have HP := Lib.hid h0
    clear hC h0
    go_enter Tryz.func74, Tryz.ntmps74
    go_wp2_with (first
      | (go_at_call 91; refine HC.out.mono ?_; rintro e w1 ⟨v1, rfl, ho1, hg1⟩; obtain ⟨b1, c1, rfl⟩ := own_some' ho1 hpos; obtain ⟨hh1, hc1, hb1, hb2⟩ := own_holds ho1; (have HH1 := Lib.hid hh1); (have HG1 := Lib.hid hg1); clear ho1 hh1 hg1)
      | (go_at_call 109; go_loud (refine (Tryz.slices_Sort_int b1 0 c1 l _ HH1.out hb2 (by omega)).mono ?_; rintro e w2 ⟨rfl, n2, os2, hw2⟩; (have hh2 : Sort.Holds (Value.int .i64) w2 b1 0 (sortI l).toArray := by rw [hw2]; exact Sort.holds_grow _ _ _ _ _ _ (by rw [Sort.size_putRow]; exact hb2) (Sort.holds_putRow _ _ _ _ _ _ (Sort.holds_ahead _ _ _ _ _ _ HH1.out) (by simp [sortI]))); (have hg2 : Grew w w2 := by rw [hw2]; exact grewOs (grewRow (grewAhead HG1.out _) hb1) _); (have HH2 := Lib.hid hh2); (have HG2 := Lib.hid hg2); (have hsl := sortI_len l); clear hh2 hg2 hw2))
      | (go_at_call 110; (have hc3 := Tryz.slices_Compact_int b1 0 c1 (sortI l) w2 HH2.out (by omega) (by omega)); rw [hsl] at hc3; refine hc3.mono ?_; rintro e w3 ⟨rfl, n3, hw3⟩; (have hg3 : Grew w w3 := by rw [hw3]; exact grewRow (grewAhead HG2.out _) hb1); (have HG3 := Lib.hid hg3); clear hg3 hw3 hc3 hsl))
    go_ret
    refine ⟨?_, HG3.out⟩
    show Ending.returned (.bool (((Lib.compact (sortI l)).length : Int) == (l.length : Int))) = _
    rw [← HL.out]
    refine congrArg (fun b => Ending.returned (Value.bool b)) ?_
    rw [Bool.eq_iff_iff, beq_iff_eq, decide_eq_true_eq]
    omega
end Go.Proofs.YtangapokicnfgaaGreat

/-! forebayref08.above. -/
namespace Go.Proofs.YtangapokicnfgaaGreat
set_option linter.unusedSimpArgs false
set_option linter.unusedVariables false
open Go.RowKit Ga
set_option maxRecDepth 100000

theorem findI_none {l : List Gr.Nd} {id : Int} (h : Gr.find l id = none) : findI l id = -1 := by unfold findI; rw [h]
theorem findI_some {l : List Gr.Nd} {id : Int} {i : Nat} (h : Gr.find l id = some i) : findI l id = i ∧ i < l.length := by
  obtain ⟨m, hm, -⟩ := Gr.find_some h
  exact ⟨by unfold findI; rw [h], (List.getElem?_eq_some_iff.1 hm).1⟩

set_option maxHeartbeats 4000000 in
theorem refAbove08_any (v : Value) (l : List Gr.Nd) (w : World) (hv : NodesAt w v l) : ∀ (k : Nat), k ≤ 1000 → ∀ (fr tgt : Int), Calls Tryz.prog 36 #[v, .int .i64 fr, .int .i64 tgt, .int .i64 k] w fun e w' => e = .returned (.bool (Gr.above l fr tgt k)) ∧ w' = w
  | 0, _, fr, tgt => by
    have HV := Lib.hid hv
    clear hv
    cases hf : Gr.find l fr with
    | none =>
      have hi := findI_none hf
      have HI := Lib.hid hi
      clear hi hf
      go_enter Tryz.func36, Tryz.ntmps36
      go_wp2_with (go_at_call 33; refine (refFind08_any _ l fr _ HV.out).mono ?_; rintro e w1 ⟨rfl, hw1⟩; obtain rfl := hw1.symm; rw [HI.out])
      refine bodyPost_ret (v := .bool false) (by simp [results, Tryz.results36, go_sem]) rfl (by first | exact ⟨rfl, rfl⟩ | exact ⟨rfl, trivial⟩ | trivial)
    | some i =>
      obtain ⟨hi, hil⟩ := findI_some hf
      have hi0 : ¬ ((i : Int) < 0) := by omega
      have HI := Lib.hid hi
      clear hi hf
      go_enter Tryz.func36, Tryz.ntmps36
      go_wp2_with (go_at_call 33; refine (refFind08_any _ l fr _ HV.out).mono ?_; rintro e w1 ⟨rfl, hw1⟩; obtain rfl := hw1.symm; rw [HI.out])
      refine bodyPost_ret (v := .bool false) (by simp [results, Tryz.results36, go_sem]) rfl (by first | exact ⟨rfl, rfl⟩ | exact ⟨rfl, trivial⟩ | trivial)
  | k + 1, hk, fr, tgt => by
    have HIH := Lib.hid (fun (f : Int) => refAbove08_any v l w hv k (by omega) f tgt)
    have HV := Lib.hid hv
    have hw : IntKind.i64.wrap (k : Int) = (k : Int) := IntWalk.i64_in _ (by omega)
    have hk1 : ¬ ((k : Int) + 1 = 0) := by omega
    have hk2 : ((k : Int) + 1 == 0) = false := by simpa using hk1
    cases hf : Gr.find l fr with
    | none =>
      have hab : Gr.above l fr tgt (k + 1) = false := by rw [Gr.above, hf]; rfl
      have hi := findI_none hf
      have HI := Lib.hid hi
      have HAB := Lib.hid hab
      clear hi hf hab hv
      go_enter Tryz.func36, Tryz.ntmps36
      go_wp2_with (go_at_call 33; refine (refFind08_any _ l fr _ HV.out).mono ?_; rintro e w1 ⟨rfl, hw1⟩; obtain rfl := hw1.symm; rw [HI.out])
      refine bodyPost_ret (v := .bool false) (by simp [results, Tryz.results36, go_sem]) rfl (by rw [HAB.out]; first | exact ⟨rfl, rfl⟩ | exact ⟨rfl, trivial⟩ | trivial)
    | some i =>
      obtain ⟨hi, hil⟩ := findI_some hf
      have hab : Gr.above l fr tgt (k + 1) = l[i].frm.any fun f => f == tgt || Gr.above l f tgt k := by
        rw [Gr.above, hf, Option.bind_some, List.getElem?_eq_getElem hil]
      obtain ⟨a, cap, rfl, hm, hx⟩ := hv.open'
      obtain ⟨b, off, vf, vp, rfl, hb, hvf, -, -, -, cf, -⟩ := hx i hil
      obtain ⟨af, capf, rfl, hmf, hxf⟩ := ints_open hvf
      generalize l[i].frm = fl at *
      have hi0 : ¬ ((i : Int) < 0) := by omega
      have HI := Lib.hid hi
      have HAB := Lib.hid hab
      have HXF := Lib.hid hxf
      clear hi hf hab hv hx hvf hxf
      go_enter Tryz.func36, Tryz.ntmps36
      go_wp2_with (go_at_call 33; refine (refFind08_any _ l fr _ HV.out).mono ?_; rintro e w1 ⟨rfl, hw1⟩; obtain rfl := hw1.symm; rw [HI.out])
      go_loopw [10] (fun x wr => ∃ j : Nat, j ≤ fl.length ∧ x = .int .i64 j ∧ wr = w ∧ ∀ t (ht : t < fl.length), t < j → (fl[t] == tgt || Gr.above l fl[t] tgt k) = false) (fun x _ => fl.length - (intOf x).toNat)
      case atStart => exact ⟨0, Nat.zero_le _, rfl, rfl, fun j _ h => by omega⟩
      case round =>
        obtain ⟨j, hj, rfl, hwr, hno⟩ := hrel
        obtain rfl := hwr.symm
        have HNO := Lib.hid hno
        clear hno
        by_cases hlt : j < fl.length
        · obtain ⟨bf, offf, rfl, hbf, c0⟩ := HXF.out j hlt
          cases hq : (fl[j] == tgt || Gr.above l fl[j] tgt k)
          · have HQ := Lib.hid hq
            simp only [Bool.or_eq_false_iff] at hq
            obtain ⟨hq1, hq2⟩ := hq
            have HQ2 := Lib.hid hq2
            clear hq2
            generalize hgx : fl[j] = x at *
            have HGX := Lib.hid hgx
            clear hgx
            go_wp2_with (go_at_call 36; refine (HIH.out x).mono ?_; rintro e w1 ⟨rfl, hw1⟩; obtain rfl := hw1.symm; rw [HQ2.out])
            go_roundw
            case rel => exact ⟨j + 1, by omega, by go_num, trivial, fun t ht h => by
              rcases Nat.lt_or_ge t j with h1 | h1
              · exact HNO.out t ht h1
              · obtain rfl : t = j := by omega
                rw [HGX.out]
                exact HQ.out⟩
            case measure => first | (simp [intOf]; done) | (simp [intOf]; omega)
          · have hany : Gr.above l fr tgt (k + 1) = true := by
              rw [HAB.out, List.any_eq_true]
              exact ⟨fl[j], List.getElem_mem hlt, hq⟩
            have HANY := Lib.hid hany
            clear hany
            by_cases he : fl[j] = tgt
            · rw [he] at c0
              clear hq he
              go_wp2
              refine bodyPost_ret (v := .bool true) (by simp [results, Tryz.results36, go_sem]) rfl (by rw [HANY.out]; first | exact ⟨rfl, rfl⟩ | exact ⟨rfl, trivial⟩ | trivial)
            · have hq1 : (fl[j] == tgt) = false := by simpa using he
              rw [hq1, Bool.false_or] at hq
              have HQ2 := Lib.hid hq
              clear hq he
              generalize fl[j] = x at *
              go_wp2_with (go_at_call 36; refine (HIH.out x).mono ?_; rintro e w1 ⟨rfl, hw1⟩; obtain rfl := hw1.symm; rw [HQ2.out])
              refine bodyPost_ret (v := .bool true) (by simp [results, Tryz.results36, go_sem]) rfl (by rw [HANY.out]; first | exact ⟨rfl, rfl⟩ | exact ⟨rfl, trivial⟩ | trivial)
        · obtain rfl : j = fl.length := by omega
          have hany : Gr.above l fr tgt (k + 1) = false := by
            rw [HAB.out, List.any_eq_false]
            intro x hx
            obtain ⟨t, ht, rfl⟩ := List.mem_iff_getElem.1 hx
            rw [HNO.out t ht ht]
            simp
          have HANY := Lib.hid hany
          clear hany
          go_wp2
          refine bodyPost_ret (v := .bool false) (by simp [results, Tryz.results36, go_sem]) rfl (by rw [HANY.out]; first | exact ⟨rfl, rfl⟩ | exact ⟨rfl, trivial⟩ | trivial)
end Go.Proofs.YtangapokicnfgaaGreat

/-! Graphs: the nodes by their numbers: whatever sorts them makes the list that the document writes. -/
namespace Gr
set_option linter.unusedSimpArgs false
set_option linter.unusedVariables false

def nodeOf (l : List Nd) (x : Int) : Option Nd := (find l x).bind fun i => l[i]?
theorem nodeOf_some {l : List Nd} {x : Int} {n : Nd} (h : nodeOf l x = some n) : n ∈ l ∧ n.id = x := by
  unfold nodeOf at h
  cases hf : find l x with
  | none => rw [hf] at h; cases h
  | some i =>
    rw [hf] at h
    obtain ⟨m, hm, e⟩ := find_some hf
    rw [Option.bind_some, hm] at h
    cases h
    exact ⟨List.mem_of_getElem? hm, e⟩
/-- the nodes by numbers -/
def normG (l : List Nd) : List Nd := (List.range 8).filterMap fun (i : Nat) => nodeOf l (i : Int)
theorem normG_sorted (l : List Nd) : (normG l).Pairwise fun a b => a.id < b.id := by
  unfold normG
  refine List.Pairwise.filterMap (R := fun a b => a < b) _ (fun a a' hlt b hb b' hb' => ?_) List.pairwise_lt_range
  rw [(nodeOf_some hb).2, (nodeOf_some hb').2]
  omega
theorem normG_mem {l : List Nd} (hu : (ids l).Nodup) (h7 : ∀ n ∈ l, 0 ≤ n.id ∧ n.id ≤ 7) (n : Nd) : n ∈ normG l ↔ n ∈ l := by
  unfold normG
  rw [List.mem_filterMap]
  constructor
  · rintro ⟨i, -, h⟩
    exact (nodeOf_some h).1
  · intro h
    have := h7 n h
    refine ⟨n.id.toNat, List.mem_range.2 (by omega), ?_⟩
    rw [Int.toNat_of_nonneg this.1]
    exact bind_find hu h
theorem nodup_of_ids {l : List Nd} (hu : (ids l).Nodup) : l.Nodup := by
  unfold ids at hu
  rw [List.Nodup, List.pairwise_map] at hu
  exact hu.imp fun h e => h (by rw [e])
theorem normG_perm {l : List Nd} (hu : (ids l).Nodup) (h7 : ∀ n ∈ l, 0 ≤ n.id ∧ n.id ≤ 7) : (normG l).Perm l :=
  (List.perm_ext_iff_of_nodup ((normG_sorted l).imp fun h e => by rw [e] at h; omega) (nodup_of_ids hu)).2 (normG_mem hu h7)
/-- whatever sorts them -/
theorem norm_unique {l l' : List Nd} (hp : l'.Perm l) (hs : l'.Pairwise fun a b => a.id ≤ b.id) (hu : (ids l).Nodup) (h7 : ∀ n ∈ l, 0 ≤ n.id ∧ n.id ≤ 7) : l' = normG l := by
  have hp2 : l'.Perm (normG l) := hp.trans (normG_perm hu h7).symm
  refine List.Perm.eq_of_pairwise (le := fun a b => a.id ≤ b.id) (fun a b ha hb h1 h2 => ?_) hs ((normG_sorted l).imp fun h => by omega) hp2
  have e : a.id = b.id := by omega
  have ha' := hp.mem_iff.1 ha
  have hb' := (normG_mem hu h7 b).1 hb
  have h3 := bind_find hu ha'
  have h4 := bind_find hu hb'
  rw [e, h4] at h3
  exact (Option.some.inj h3).symm
end Gr
