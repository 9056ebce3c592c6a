import Derived.Test.YtekkkmkhnphlhaaGreatDoorGh40
import Derived.Test.YtekkkmkhnphlhaaGreatDoorGh47
import Derived.Test.YtekkkmkhnphlhaaGreatDoorGh46
import Derived.Test.YtekkkmkhnphlhaaGreatDoorGh29
import Derived.BigRegion
/-! The law LinesGraphs. -/
namespace Go.Proofs.YtekkkmkhnphlhaaGreatDoor
set_option linter.unusedSimpArgs false
set_option linter.unusedVariables false
open Go.RowKit Ga
set_option maxRecDepth 100000

theorem fm_le {α β : Type} (f g : α → Option β) : ∀ (L : List α), (∀ i ∈ L, ∀ x, f i = some x → g i = some x) → (L.filterMap f).length ≤ (L.filterMap g).length
  | [], _ => Nat.le_refl _
  | i :: L, h => by
    have ih := fm_le f g L fun j hj => h j (List.mem_cons_of_mem _ hj)
    cases hf : f i with
    | none =>
      rw [List.filterMap_cons_none hf]
      cases hg : g i with
      | none => rw [List.filterMap_cons_none hg]; exact ih
      | some y => rw [List.filterMap_cons_some hg, List.length_cons]; omega
    | some x =>
      rw [List.filterMap_cons_some hf, List.filterMap_cons_some (h i (by simp) x hf), List.length_cons, List.length_cons]
      omega
theorem fm_eq {α β : Type} (f g : α → Option β) : ∀ (L : List α), (∀ i ∈ L, ∀ x, f i = some x → g i = some x) → (L.filterMap f).length = (L.filterMap g).length → L.filterMap f = L.filterMap g
  | [], _, _ => rfl
  | i :: L, h, hl => by
    have hle := fm_le f g L fun j hj => h j (List.mem_cons_of_mem _ hj)
    have ih := fm_eq f g L fun j hj => h j (List.mem_cons_of_mem _ hj)
    cases hf : f i with
    | none =>
      rw [List.filterMap_cons_none hf] at hl ⊢
      cases hg : g i with
      | none => rw [List.filterMap_cons_none hg] at hl ⊢; exact ih hl
      | some y => rw [List.filterMap_cons_some hg, List.length_cons] at hl; omega
    | some x =>
      have hg := h i (by simp) x hf
      rw [List.filterMap_cons_some hf, List.filterMap_cons_some hg, List.length_cons, List.length_cons] at hl
      rw [List.filterMap_cons_some hf, List.filterMap_cons_some hg, ih (by omega)]
open Classical in
theorem sameG_norm {l m : List Gr.Nd} (hl : Gr.RightR l) (hm : Gr.RightR m) : sameG l m = true ↔ Gr.normG l = Gr.normG m := by
  have hl1 := (Gr.same_norm hl).1
  have hm1 := (Gr.same_norm hm).1
  constructor
  · intro h
    unfold sameG at h
    obtain ⟨h1, h2⟩ := of_decide_eq_true h
    unfold Gr.normG at hl1 hm1 ⊢
    refine fm_eq _ _ _ (fun i hi x hx => ?_) (by omega)
    obtain ⟨h3, h4⟩ := Gr.nodeOf_some hx
    have := h2 x h3
    rw [h4] at this
    exact this
  · intro e
    unfold sameG
    refine decide_eq_true ⟨by rw [← hl1, ← hm1, e], fun n hn => ?_⟩
    have h3 : n ∈ Gr.normG m := e ▸ (Gr.normG_mem hl.ids hl.r7 n).2 hn
    exact Gr.bind_find hm.ids ((Gr.normG_mem hm.ids hm.r7 n).1 h3)
theorem norm_lined {l : List Gr.Nd} (h : Gr.RightR l) (h8 : ∀ n ∈ l, n.route.length = 8) : Li.Lined (Gr.normG l) := fun n hn =>
  Li.right_lined h h8 (fun p hp => Vm.safe_fits hp) n ((Gr.normG_mem h.ids h.r7 n).1 hn)
/-- what the parser tells of the lines turned round -/
theorem turned_code {g : List Gr.Nd} (hr : Gr.RightR g) (hn : Gr.normG g = g) (hl : Li.Lined g) : (Li.graphT g.reverse = Li.linesT g.reverse ∧ g.length = 1) ∨ ((Li.graphT g.reverse == Li.linesT g.reverse) = false ∧ g.length ≠ 1) := by
  have hp : g.reverse.Perm g := List.reverse_perm g
  have hr2 : Gr.RightR g.reverse := hr.perm hp.symm
  have hnr : Gr.normG g.reverse = g := by
    have h1 := Gr.normG_sorted g.reverse
    have h2 := (Gr.normG_perm hr2.ids hr2.r7).trans hp
    have h3 := Gr.norm_unique h2 (h1.imp fun q => by omega) hr.ids hr.r7
    rw [h3, hn]
  have hlr : Li.Lined g.reverse := fun n h => hl n (List.mem_reverse.1 h)
  rw [graphT_some hr2, hnr]
  have hpos : 0 < g.length := List.length_pos_iff.2 (Li.right_ne hr)
  by_cases h1 : g.length = 1
  · left
    refine ⟨?_, h1⟩
    match g, h1 with
    | [a], _ => rfl
  · right
    refine ⟨beq_eq_false_iff_ne.2 fun e => h1 ?_, h1⟩
    have e2 := Li.linesT_inj hl hlr e
    have := Li.turned hl hr.ids (by rw [← e2])
    omega
set_option maxHeartbeats 16000000 in
theorem linesGraphs_out (v u : Value) (l m : List Gr.Nd) (w : World) (hV : Env27 w) (hv : NodesAt w v l) (hu : NodesAt w u m) (h : greatG l = true ∨ (greatG l = false ∧ greatG m = true)) : Calls Tryz.prog 5 #[v, u] w (Gives (.bool true) w) := by
  have HA := Lib.hid fun W (q : Grew w W) => awake27_any W (hV.grew q)
  have HG := Lib.hid fun W (q : Grew w W) => great08_any v l W (hv.grew q)
  have HG2 := Lib.hid fun W (q : Grew w W) => great08_any u m W (hu.grew q)
  obtain ⟨a, c, rfl, -, -⟩ := hv.openC
  obtain ⟨a2, c2, rfl, -, -⟩ := hu.openC
  clear hV hv hu
  rcases h with h | ⟨h, h2⟩
  · rw [h] at HG
    go_enter Tryz.func5, Tryz.ntmps5
    go_wp2_with (first
      | (go_at_call 6; refine (HA.out _ (by repeat (first | with_reducible exact Grew.refl _ | apply Grew.more | apply Grew.alloc | apply Grew.drew | apply Grew.drewN))).mono ?_; rintro e w1 ⟨rfl, R1, n1, rfl⟩)
      | (go_at_call 15; (with_reducible refine (HG.out _ (by repeat (first | with_reducible exact Grew.refl _ | apply Grew.more | apply Grew.alloc | apply Grew.drew | apply Grew.drewN))).mono ?_); rintro e w1 ⟨rfl, R2, n2, rfl⟩))
    go_ret
    exact ⟨rfl, by repeat (first | with_reducible exact Grew.refl _ | apply Grew.more | apply Grew.alloc | apply Grew.drew | apply Grew.drewN)⟩
  · rw [h] at HG
    rw [h2] at HG2
    go_enter Tryz.func5, Tryz.ntmps5
    go_wp2_with (first
      | (go_at_call 6; refine (HA.out _ (by repeat (first | with_reducible exact Grew.refl _ | apply Grew.more | apply Grew.alloc | apply Grew.drew | apply Grew.drewN))).mono ?_; rintro e w1 ⟨rfl, R1, n1, rfl⟩)
      | (go_at_call 15; (with_reducible refine (HG.out _ (by repeat (first | with_reducible exact Grew.refl _ | apply Grew.more | apply Grew.alloc | apply Grew.drew | apply Grew.drewN))).mono ?_); rintro e w1 ⟨rfl, R2, n2, rfl⟩)
      | (go_at_call 15; (with_reducible refine (HG2.out _ (by repeat (first | with_reducible exact Grew.refl _ | apply Grew.more | apply Grew.alloc | apply Grew.drew | apply Grew.drewN))).mono ?_); rintro e w1 ⟨rfl, R3, n3, rfl⟩))
    go_ret
    exact ⟨rfl, by repeat (first | with_reducible exact Grew.refl _ | apply Grew.more | apply Grew.alloc | apply Grew.drew | apply Grew.drewN)⟩
theorem checkR_ne {l : List Gr.Nd} (hr : ¬ Gr.RightR l) : (checkR l != 0) = true := by
  by_cases h8 : l.length ≤ 8
  · rw [checkR_bad h8 hr]; rfl
  · rw [checkR_long (by omega)]; rfl
theorem linesT_ne {l : List Gr.Nd} (h : l ≠ []) : (Li.linesT l).isEmpty = false := by
  cases hl : Li.linesT l with
  | nil => exact absurd (Li.linesT_nil hl) h
  | cons => rfl
set_option maxHeartbeats 16000000 in
theorem linesGraphs_no (v u : Value) (l m : List Gr.Nd) (w : World) (hV : Env27 w) (hv : NodesAt w v l) (hu : NodesAt w u m) (hg1 : greatG l = false) (hg2 : greatG m = false) (h : ¬ Gr.RightR l ∨ (Gr.RightR l ∧ ¬ Gr.RightR m)) : Calls Tryz.prog 5 #[v, u] w (Gives (.bool true) w) := by
  have HA := Lib.hid fun W (q : Grew w W) => awake27_any W (hV.grew q)
  have HG := Lib.hid fun W (q : Grew w W) => great08_any v l W (hv.grew q)
  have HG2 := Lib.hid fun W (q : Grew w W) => great08_any u m W (hu.grew q)
  rw [hg1] at HG
  rw [hg2] at HG2
  have HS := Lib.hid fun W (q : Grew w W) => graphText_any v l W (hV.p.grew q) (hV.a.grew q) (hv.grew q) (great_small hg1).1
  have HT := Lib.hid fun W (q : Grew w W) => graphText_any u m W (hV.p.grew q) (hV.a.grew q) (hu.grew q) (great_small hg2).1
  have HC := Lib.hid fun W (q : Grew w W) => refCheck08_any v l W (hv.grew q)
  have HC2 := Lib.hid fun W (q : Grew w W) => refCheck08_any u m W (hu.grew q)
  obtain ⟨a, c, rfl, -, -⟩ := hv.openC
  obtain ⟨a2, c2, rfl, -, -⟩ := hu.openC
  clear hV hv hu hg1 hg2
  have hcs : (Li.graphT l = [] ∧ (checkR l != 0) = true) ∨ ((Li.graphT l).isEmpty = false ∧ Li.graphT m = [] ∧ (checkR m != 0) = true) := by
    rcases h with h | ⟨h1, h⟩
    · exact .inl ⟨graphT_none h, checkR_ne h⟩
    · refine .inr ⟨?_, graphT_none h, checkR_ne h⟩
      rw [graphT_some h1]
      refine linesT_ne fun e => ?_
      have := (Gr.same_norm h1).1
      rw [e] at this
      exact Li.right_ne h1 (List.length_eq_zero_iff.1 this.symm)
  clear h
  generalize Li.graphT l = s at *
  generalize Li.graphT m = t at *
  generalize checkR l = k1 at *
  generalize checkR m = k2 at *
  rcases hcs with ⟨rfl, h2⟩ | ⟨h1, rfl, h2⟩
  all_goals
    go_enter Tryz.func5, Tryz.ntmps5
    go_wp2_with (first
      | (go_at_call 6; refine (HA.out _ (by repeat (first | with_reducible exact Grew.refl _ | apply Grew.more | apply Grew.alloc | apply Grew.drew | apply Grew.drewN))).mono ?_; rintro e w1 ⟨rfl, R1, n1, rfl⟩)
      | (go_at_call 15; (with_reducible refine (HG.out _ (by repeat (first | with_reducible exact Grew.refl _ | apply Grew.more | apply Grew.alloc | apply Grew.drew | apply Grew.drewN))).mono ?_); rintro e w1 ⟨rfl, R2, n2, rfl⟩)
      | (go_at_call 15; (with_reducible refine (HG2.out _ (by repeat (first | with_reducible exact Grew.refl _ | apply Grew.more | apply Grew.alloc | apply Grew.drew | apply Grew.drewN))).mono ?_); rintro e w1 ⟨rfl, R3, n3, rfl⟩)
      | (go_at_call 16; (with_reducible refine (HS.out _ (by repeat (first | with_reducible exact Grew.refl _ | apply Grew.more | apply Grew.alloc | apply Grew.drew | apply Grew.drewN))).mono ?_); rintro e w1 ⟨rfl, R4, n4, rfl⟩)
      | (go_at_call 16; (with_reducible refine (HT.out _ (by repeat (first | with_reducible exact Grew.refl _ | apply Grew.more | apply Grew.alloc | apply Grew.drew | apply Grew.drewN))).mono ?_); rintro e w1 ⟨rfl, R5, n5, rfl⟩)
      | (go_at_call 17; (with_reducible refine (HC.out _ (by repeat (first | with_reducible exact Grew.refl _ | apply Grew.more | apply Grew.alloc | apply Grew.drew | apply Grew.drewN))).mono ?_); rintro e w1 ⟨rfl, R6, n6, rfl⟩)
      | (go_at_call 17; (with_reducible refine (HC2.out _ (by repeat (first | with_reducible exact Grew.refl _ | apply Grew.more | apply Grew.alloc | apply Grew.drew | apply Grew.drewN))).mono ?_); rintro e w1 ⟨rfl, R7, n7, rfl⟩))
    go_ret
    exact ⟨rfl, by repeat (first | with_reducible exact Grew.refl _ | apply Grew.more | apply Grew.alloc | apply Grew.drew | apply Grew.drewN)⟩
end Go.Proofs.YtekkkmkhnphlhaaGreatDoor

/-! The law LinesGraphs: two right graphs. -/
namespace Go.Proofs.YtekkkmkhnphlhaaGreatDoor
set_option linter.unusedSimpArgs false
set_option linter.unusedVariables false
open Go.RowKit Ga
set_option maxRecDepth 100000

theorem own_block {base : Nat} {w : World} {b cap n : Nat} {l : List (List UInt8)} (h : OwnAt base 9 1 encS w (.slice (some ⟨b, 0, none⟩) n cap) l) (hne : l ≠ []) : base ≤ b ∧ (∃ cs, w.heap[b]? = some (.cells cs 9)) ∧ ∀ i (hi : i < l.length), w.cell? ⟨b, i, none⟩ = some (.string ⟨l[i].toArray⟩) := by
  have h1 := OwnAt.block h (q := b) rfl
  obtain ⟨b', c', e, h2, h3⟩ := strs_open h hne
  cases e
  exact ⟨h1.1, h1.2, h3⟩
theorem rvL_at (xs : List (List UInt8)) (k i : Nat) (h : i < xs.length) (hi : k ≤ i) (h2 : i < xs.length - k) (h3 : i < (rvL xs k).length) : (rvL xs k)[i] = xs.getD i [] := by
  rw [rvL_get xs k i h, if_neg (by omega)]
set_option maxHeartbeats 32000000 in
theorem linesGraphs_main (v u : Value) (l m : List Gr.Nd) (w : World) (hV : Env27 w) (hv : NodesAt w v l) (hu : NodesAt w u m) (hg1 : greatG l = false) (hg2 : greatG m = false) (h1 : Gr.RightR l) (h2 : Gr.RightR m) : Calls Tryz.prog 5 #[v, u] w (Gives (.bool true) w) := by
  have HA := Lib.hid fun W (q : Grew w W) => awake27_any W (hV.grew q)
  have HG := Lib.hid fun W (q : Grew w W) => great08_any v l W (hv.grew q)
  have HG2 := Lib.hid fun W (q : Grew w W) => great08_any u m W (hu.grew q)
  rw [hg1] at HG
  rw [hg2] at HG2
  have HS := Lib.hid fun W (q : Grew w W) => graphText_any v l W (hV.p.grew q) (hV.a.grew q) (hv.grew q) (great_small hg1).1
  have HT := Lib.hid fun W (q : Grew w W) => graphText_any u m W (hV.p.grew q) (hV.a.grew q) (hu.grew q) (great_small hg2).1
  rw [graphT_some h1] at HS
  rw [graphT_some h2] at HT
  have HSM := Lib.hid fun W (q : Grew w W) => refSame08_any v u l m W (hv.grew q) (hu.grew q)
  have hl1 := norm_lined h1 hv.r8'
  have hl2 := norm_lined h2 hu.r8'
  have hst : (Li.linesT (Gr.normG l) == Li.linesT (Gr.normG m)) = sameG l m := by
    cases hs : sameG l m with
    | true => rw [(sameG_norm h1 h2).1 hs]; exact beq_self_eq_true _
    | false =>
      refine beq_eq_false_iff_ne.2 fun e => ?_
      rw [(sameG_norm h1 h2).2 (Li.linesT_inj hl1 hl2 e)] at hs
      cases hs
  have hpm := Gr.normG_perm h1.ids h1.r7
  have hr9 : Gr.RightR (Gr.normG l) := h1.perm hpm.symm
  have hnn : Gr.normG (Gr.normG l) = Gr.normG l := Gr.norm_self ((Gr.normG_sorted l).imp fun q => by omega) hr9.ids hr9.r7
  have hcode := turned_code hr9 hnn hl1
  have hlen : (Gr.normG l).length ≤ 8 := hr9.len
  have hne1 : Gr.normG l ≠ [] := Li.right_ne hr9
  have hne2 : Gr.normG m ≠ [] := Li.right_ne (h2.perm (Gr.normG_perm h2.ids h2.r7).symm)
  have hse := linesT_ne hne1
  have hte := linesT_ne hne2
  obtain ⟨a, c, rfl, -, -⟩ := hv.openC
  obtain ⟨a2, c2, rfl, -, -⟩ := hu.openC
  clear hv hu hg1 hg2 h1 h2 hl2 hr9 hnn hpm hne2
  generalize Li.linesT (Gr.normG m) = t at *
  generalize sameG l m = sb at *
  generalize Gr.normG l = g at *
  have hgl := lines_len g fun n hn => (hl1 n hn).1
  have hj := Li.linesT_join g hne1
  have hjl : (Lib.join (g.map Li.nodeT) [10]).length ≤ 10000 := by
    have := congrArg List.length hj
    rw [List.length_append] at this
    omega
  have HTS := Lib.hid fun W => Tryz.strings_TrimSuffix ⟨(Li.linesT g).toArray⟩ ⟨#[10]⟩ W (by show (Li.linesT g).length ≤ _; omega)
  have e1 : (⟨(Lib.trimSuffix (⟨(Li.linesT g).toArray⟩ : ByteArray).data.toList (⟨#[10]⟩ : ByteArray).data.toList).toArray⟩ : ByteArray) = ⟨(Lib.join (g.map Li.nodeT) [10]).toArray⟩ := by
    show (⟨(Lib.trimSuffix (Li.linesT g) [10]).toArray⟩ : ByteArray) = _
    rw [hj, trim_one]
  rw [e1] at HTS
  have hsp : Lib.split (Lib.join (g.map Li.nodeT) [10]) [10] = g.map Li.nodeT := by
    rw [← Li.trim_lines hne1]
    exact Li.split_lines hne1
  have HSP := Lib.hid fun W (q : Grew w W) => split_any (Lib.join (g.map Li.nodeT) [10]) [10] (by omega) (by decide) W (hV.m.grew q)
  rw [hsp] at HSP
  have hner : g.reverse ≠ [] := by simpa using hne1
  have hlr : Li.Lined g.reverse := fun n hn => hl1 n (List.mem_reverse.1 hn)
  have hgr := lines_len g.reverse fun n hn => (hlr n hn).1
  have hjr := Li.linesT_join g.reverse hner
  have hrev : (g.map Li.nodeT).reverse = g.reverse.map Li.nodeT := by rw [List.map_reverse]
  obtain ⟨c0, hc0, hc1⟩ : ∃ c0 : Int, ((Li.graphT g.reverse = Li.linesT g.reverse ∧ c0 = 0) ∨ ((Li.graphT g.reverse == Li.linesT g.reverse) = false ∧ c0 = 4)) ∧ ((c0 = 0 ∧ ((g.length : Int) == 1) = true) ∨ (c0 = 4 ∧ ((g.length : Int) == 1) = false)) := by
    rcases hcode with ⟨q1, q2⟩ | ⟨q1, q2⟩
    · exact ⟨0, .inl ⟨q1, rfl⟩, .inl ⟨rfl, by rw [q2]; rfl⟩⟩
    · exact ⟨4, .inr ⟨q1, rfl⟩, .inr ⟨rfl, by rw [beq_eq_false_iff_ne]; omega⟩⟩
  have HPG := Lib.hid fun W (q : Grew w W) => parseGraph_lines g.reverse c0 hlr hner (by simpa using hlen) hc0 W (hV.grew q)
  rw [hjr] at HPG
  have hjrl : (Lib.join (g.reverse.map Li.nodeT) [10]).length ≤ 10000 := by
    have := congrArg List.length hjr
    rw [List.length_append] at this
    rw [List.length_reverse] at hgr
    omega
  have HNE := Lib.hid (show g.map Li.nodeT ≠ [] by simpa using hne1)
  have hml : (g.map Li.nodeT).length = g.length := by simp
  have hpos : 0 < g.length := List.length_pos_iff.2 hne1
  have HREV := Lib.hid hrev
  clear hV hl1 hcode hj hjl e1 hsp hner hlr hgr hjr hrev hc0 hne1 hgl
  generalize Li.linesT g = s at *
  generalize Lib.join (g.map Li.nodeT) [10] = jn at *
  generalize g.map Li.nodeT = xs at *
  generalize hys : g.reverse.map Li.nodeT = ys at *
  clear hys
  have HML := Lib.hid hml
  have HC1 := Lib.hid hc1
  have HSTT := Lib.hid hst
  clear hc1 hst
  go_enter Tryz.func5, Tryz.ntmps5
  go_wp2_with (first
    | (go_at_call 6; refine (HA.out _ (by repeat (first | with_reducible exact Grew.refl _ | apply Grew.more | apply Grew.alloc | apply Grew.drew | apply Grew.drewN))).mono ?_; rintro e w1 ⟨rfl, R1, n1, rfl⟩)
    | (go_at_call 15; (with_reducible refine (HG.out _ (by repeat (first | with_reducible exact Grew.refl _ | apply Grew.more | apply Grew.alloc | apply Grew.drew | apply Grew.drewN))).mono ?_); rintro e w1 ⟨rfl, R2, n2, rfl⟩)
    | (go_at_call 15; (with_reducible refine (HG2.out _ (by repeat (first | with_reducible exact Grew.refl _ | apply Grew.more | apply Grew.alloc | apply Grew.drew | apply Grew.drewN))).mono ?_); rintro e w1 ⟨rfl, R3, n3, rfl⟩)
    | (go_at_call 16; (with_reducible refine (HS.out _ (by repeat (first | with_reducible exact Grew.refl _ | apply Grew.more | apply Grew.alloc | apply Grew.drew | apply Grew.drewN))).mono ?_); rintro e w1 ⟨rfl, R4, n4, rfl⟩)
    | (go_at_call 16; (with_reducible refine (HT.out _ (by repeat (first | with_reducible exact Grew.refl _ | apply Grew.more | apply Grew.alloc | apply Grew.drew | apply Grew.drewN))).mono ?_); rintro e w1 ⟨rfl, R5, n5, rfl⟩)
    | (go_at_call 19; refine (HTS.out _).mono ?_; rintro e w1 ⟨rfl, hw1⟩; obtain rfl := hw1.symm; clear hw1)
    | (go_at_call 18; refine (HSP.out _ (by repeat (first | with_reducible exact Grew.refl _ | apply Grew.more | apply Grew.alloc | apply Grew.drew | apply Grew.drewN))).mono ?_; rintro e w1 ⟨v1, rfl, hv1, R6, n6, rfl⟩; obtain ⟨bs, cs, rfl, hbs, -⟩ := strs_open hv1 HNE.out; (have HO := Lib.hid (OwnAt.low hv1 (show w.heap.size ≤ _ by simp [World.more_size, World.size_alloc]; try omega))); clear hv1; rw [hml]))
  have hgw : Hid (Grew w ((((((w.more R1 n1).more R2 n2).more R3 n3).more R4 n4).more R5 n5).more R6 n6)) := Lib.hid (by repeat (first | with_reducible exact Grew.refl _ | apply Grew.more | apply Grew.alloc | apply Grew.drew | apply Grew.drewN))
  generalize (((((w.more R1 n1).more R2 n2).more R3 n3).more R4 n4).more R5 n5).more R6 n6 = w1 at *
  have ho := HO.out
  rw [HML.out] at ho
  have HO1 := Lib.hid ho
  clear ho HO hml
  go_loopg [8, 9] g.length (fun gg s8 s9 wr => ∃ (k j : Nat), k + 1 ≤ g.length ∧ j = g.length - 1 - k ∧ g.length - k ≤ gg ∧ s8 = .int .i64 k ∧ s9 = .int .i64 j ∧ Hid (Grew w wr) ∧ Hid (OwnAt w.heap.size 9 1 encS wr (.slice (some ⟨bs, 0, none⟩) g.length cs) (rvL xs k)))
  case atStart => exact ⟨0, g.length - 1, by omega, by omega, by omega, rfl, congrArg (Value.int .i64) (by omega), hgw, Lib.hid (by rw [rvL_zero]; exact HO1.out)⟩
  case round =>
    obtain ⟨k, j, hk, hj, hgg, rfl, rfl, HGR, HOR⟩ := hrel
    rename World => wa
    have hxl : (rvL xs k).length = g.length := by rw [rvL_len]; exact HML.out
    have hxne : rvL xs k ≠ [] := by intro e; rw [e] at hxl; simp at hxl; omega
    obtain ⟨hb1, ⟨cs1, hb2⟩, hb3⟩ := own_block HOR.out hxne
    by_cases hlt : k < j
    · have x0 := hb3 k (by omega)
      have y0 := hb3 j (by omega)
      have hxx := HML.out
      rw [rvL_at xs k k (by omega) (by omega) (by omega)] at x0
      rw [rvL_at xs k j (by omega) (by omega) (by omega)] at y0
      have HNX := Lib.hid (rvL_next xs k (by omega))
      rw [show xs.length - 1 - k = j by omega] at HNX
      have f1 := frozen_of (o := k) hb2
      have f2 := frozen_of (o := j) hb2
      have pb := Pre.mk (heap_lt hb2)
      have HHJ := Lib.hid hj
      have hjl2 : j < g.length := by omega
      have hkl2 : k < g.length := by omega
      clear hb2 hb3 hxx hj hxne
      have HXL := Lib.hid hxl
      clear hxl
      generalize xs.getD k [] = x at *
      generalize xs.getD j [] = y at *
      go_wp2
      go_region
      all_goals
        go_wp2
        go_roundg (g.length - (k + 1))
        case measure => omega
        case rel =>
          have hj9 := HHJ.out
          refine ⟨k + 1, j - 1, by omega, by omega, by omega, by go_num, congrArg (Value.int .i64) (by omega), Lib.hid (Grew.drew (Grew.set (Grew.set HGR.out hb1 _) hb1 _)), Lib.hid ?_⟩
          rw [← HNX.out]
          exact OwnAt.same (OwnAt.setS (OwnAt.setS HOR.out (by rw [HXL.out]; exact hkl2) y) (by rw [List.length_set, HXL.out]; exact hjl2) x) fun _ _ => rfl
    · have hxx := HML.out
      have ho := HOR.out
      rw [rvL_end xs k (by omega) (by omega), HREV.out] at ho
      have hylen : ys.length = g.length := by rw [← HREV.out, List.length_reverse]; exact hxx
      have hyl2 : ys.length ≤ 1000 := by omega
      have HOY := Lib.hid ho
      have hcat : (⟨(Lib.join ys [10]).toArray⟩ ++ ⟨#[10]⟩ : ByteArray) = ⟨(Lib.join ys [10] ++ [10]).toArray⟩ := str_cat (Lib.join ys [10]) [10]
      clear ho hxx hylen hxl hxne hb3 hb2 hj
      generalize hpz : Lib.join ys [10] ++ [10] = pz at *
      clear hpz
      have HJO := Lib.hid fun W (q : Grew wa W) => join_any (.slice (some ⟨bs, 0, none⟩) g.length cs) ys [10] w.heap.size W (HOY.out.grew q) hyl2 (Nat.le_trans hjrl (by decide))
      generalize Lib.join ys [10] = jy at *
      have hst := HSTT.out
      have hc1 := HC1.out
      rcases hc1 with ⟨rfl, hq⟩ | ⟨rfl, hq⟩ <;> cases sb
      all_goals
        go_wp2_with (first
          | (go_at_call 21; refine (HJO.out _ (by repeat (first | with_reducible exact Grew.refl _ | apply Grew.more | apply Grew.alloc | apply Grew.drew | apply Grew.drewN))).mono ?_; rintro e w1 ⟨rfl, R7, n7, rfl⟩)
          | (go_at_call 20; refine (HPG.out _ (HGR.out.trans (by repeat (first | with_reducible exact Grew.refl _ | apply Grew.more | apply Grew.alloc | apply Grew.drew | apply Grew.drewN)))).mono ?_; rintro e w1 ⟨v8, rfl, R8, n8, rfl⟩)
          | (go_at_call 22; refine (HSM.out _ (HGR.out.trans (by repeat (first | with_reducible exact Grew.refl _ | apply Grew.more | apply Grew.alloc | apply Grew.drew | apply Grew.drewN)))).mono ?_; rintro e w1 ⟨rfl, R9, n9, rfl⟩))
        go_ret
        exact ⟨rfl, HGR.out.trans (by repeat (first | with_reducible exact Grew.refl _ | apply Grew.more | apply Grew.alloc | apply Grew.drew | apply Grew.drewN))⟩
theorem linesGraphs_any (v u : Value) (l m : List Gr.Nd) (w : World) (hV : Env27 w) (hv : NodesAt w v l) (hu : NodesAt w u m) : Calls Tryz.prog 5 #[v, u] w (Gives (.bool true) w) := by
  cases hg1 : greatG l
  case true => exact linesGraphs_out v u l m w hV hv hu (.inl hg1)
  cases hg2 : greatG m
  case true => exact linesGraphs_out v u l m w hV hv hu (.inr ⟨hg1, hg2⟩)
  by_cases h1 : Gr.RightR l
  · by_cases h2 : Gr.RightR m
    · exact linesGraphs_main v u l m w hV hv hu hg1 hg2 h1 h2
    · exact linesGraphs_no v u l m w hV hv hu hg1 hg2 (.inr ⟨h1, h2⟩)
  · exact linesGraphs_no v u l m w hV hv hu hg1 hg2 (.inl h1)
end Go.Proofs.YtekkkmkhnphlhaaGreatDoor
