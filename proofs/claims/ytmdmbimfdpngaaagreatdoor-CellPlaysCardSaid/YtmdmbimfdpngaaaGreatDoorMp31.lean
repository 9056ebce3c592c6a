import Derived.Test.YtmdmbimfdpngaaaGreatDoorMp21
import Derived.Test.YtmdmbimfdpngaaaGreatDoorMp29
/-! The document's table: all cells, in a list: plain laws. -/
namespace Go.Proofs.YtmdmbimfdpngaaaGreatDoor
set_option linter.unusedSimpArgs false
set_option linter.unusedVariables false
open Go.RowKit Ga
set_option maxRecDepth 100000

abbrev FTab := Int → Int → Val × Val
def mkEn (f : FTab) (j : Nat) : Tab.En := ⟨((j / 64 : Nat) : Int), ((j % 64 : Nat) : Int), (f ((j / 64 : Nat) : Int) ((j % 64 : Nat) : Int)).1, (f ((j / 64 : Nat) : Int) ((j % 64 : Nat) : Int)).2⟩
theorem mkEn_num (f : FTab) (j : Nat) : Tab.num (mkEn f j) = (j : Int) := by
  unfold Tab.num mkEn
  simp only
  omega
theorem mkEn_at (f : FTab) {n k : Nat} (hk : k < 64) : mkEn f (n * 64 + k) = ⟨(n : Int), (k : Int), (f n k).1, (f n k).2⟩ := by
  unfold mkEn
  have h1 : (n * 64 + k) / 64 = n := by omega
  have h2 : (n * 64 + k) % 64 = k := by omega
  rw [h1, h2]
/-- what is kept at the places ahead of one -/
def cellsT (f : FTab) (i : Nat) : List Tab.En := ((List.range i).map (mkEn f)).filter Tab.nz
theorem cellsT_succ (f : FTab) (i : Nat) : cellsT f (i + 1) = cellsT f i ++ (if Tab.nz (mkEn f i) then [mkEn f i] else []) := by
  unfold cellsT
  rw [List.range_succ, List.map_append, List.filter_append]
  congr 1
  simp [List.filter_cons]
theorem cellsT_len (f : FTab) (i : Nat) : (cellsT f i).length ≤ i := by
  unfold cellsT
  refine Nat.le_trans (List.length_filter_le _ _) ?_
  simp
theorem cellsT_lt (f : FTab) (i : Nat) : (cellsT f i).Pairwise fun a b => Tab.num a < Tab.num b := by
  unfold cellsT
  refine List.Pairwise.filter _ ?_
  rw [List.pairwise_map]
  refine List.pairwise_lt_range.imp fun {a b} h => ?_
  rw [mkEn_num, mkEn_num]
  omega
theorem cellsT_mem {f : FTab} {i : Nat} {x : Tab.En} : x ∈ cellsT f i ↔ ∃ j, j < i ∧ mkEn f j = x ∧ Tab.nz x = true := by
  unfold cellsT
  rw [List.mem_filter, List.mem_map]
  constructor
  · rintro ⟨⟨j, h1, h2⟩, h3⟩
    exact ⟨j, List.mem_range.1 h1, h2, h3⟩
  · rintro ⟨j, h1, h2, h3⟩
    exact ⟨⟨j, List.mem_range.2 h1, h2⟩, h3⟩
theorem cellsT_get (f : FTab) {n k : Nat} (hn : n < 8) (hk : k < 64) : getT (cellsT f 512) n k = f n k := by
  have hu : UnE (cellsT f 512) := (cellsT_lt f 512).imp fun h => by omega
  have he := mkEn_at f (n := n) hk
  cases hz : Tab.nz (mkEn f (n * 64 + k))
  · have h0 := nz_no hz
    rw [he] at h0
    simp only at h0
    rw [getT_no fun x hx e => ?_]
    · rw [Prod.ext_iff]; exact ⟨h0.1.symm, h0.2.symm⟩
    · obtain ⟨j, hj, rfl, h3⟩ := cellsT_mem.1 hx
      rw [mkEn_num] at e
      obtain rfl : j = n * 64 + k := by omega
      rw [hz] at h3
      cases h3
  · rw [getT_is hu (cellsT_mem.2 ⟨n * 64 + k, by omega, rfl, hz⟩) (by rw [mkEn_num]; omega), he]
/-- the two tables answer alike -/
def RelT (m : List Tab.En) (f : FTab) : Prop := ∀ n k : Int, 0 ≤ n → n < 8 → 0 ≤ k → k < 64 → getT m n k = f n k
theorem RelT.cells {m : List Tab.En} {f : FTab} (ho : OkT m) (h : RelT m f) : OkT (cellsT f 512) := by
  refine ⟨(cellsT_lt f 512).imp fun h => by omega, fun x hx => ?_, fun x hx => ?_⟩
  · obtain ⟨j, _, _, h3⟩ := cellsT_mem.1 hx
    exact h3
  · obtain ⟨j, hj, rfl, h3⟩ := cellsT_mem.1 hx
    have h1 := h ((j / 64 : Nat) : Int) ((j % 64 : Nat) : Int) (by omega) (by omega) (by omega) (by omega)
    obtain ⟨r0, r1⟩ := getT_right ho ((j / 64 : Nat) : Int) ((j % 64 : Nat) : Int)
    rw [h1] at r0 r1
    unfold okEn
    rw [Bool.and_eq_true, Bool.and_eq_true]
    refine ⟨thereB_iff.2 ?_, r0, r1⟩
    unfold There mkEn
    simp only
    omega
/-- THE LAW: all that is kept, by places, is the document's list -/
theorem RelT.all {m s : List Tab.En} {f : FTab} (ho : OkT m) (h : RelT m f) (hp : s.Perm m) (hs : SoE s) : s = cellsT f 512 := by
  have hc := h.cells ho
  refine so_unique ho.un hp ?_ hs ((cellsT_lt f 512).imp fun h => by omega)
  refine hc.perm ho fun n k a b c d => ?_
  obtain ⟨n, rfl⟩ := Int.eq_ofNat_of_zero_le a
  obtain ⟨k, rfl⟩ := Int.eq_ofNat_of_zero_le c
  rw [cellsT_get f (by omega) (by omega)]
  exact (h n k a b c d).symm
theorem RelT.nil : RelT [] (fun _ _ => zer) := fun n k _ _ _ _ => rfl
/-- something is kept at a place -/
def setF (f : FTab) (n k : Int) (c : Val × Val) : FTab := fun a b => if a = n ∧ b = k then c else f a b
theorem RelT.set {m : List Tab.En} {f : FTab} (ho : OkT m) (h : RelT m f) {x : Tab.En} (hx : There x) : RelT (Tab.setT m x) (setF f x.node x.key (x.c0, x.c1)) := by
  intro n k a b c d
  rw [getT_set ho.un]
  unfold There at hx
  unfold setF Tab.num
  by_cases e : n = x.node ∧ k = x.key
  · obtain ⟨rfl, rfl⟩ := e
    rw [if_pos rfl, if_pos ⟨rfl, rfl⟩]
  · rw [if_neg (fun q => e (by omega)), if_neg e]
    exact h n k a b c d
/-- some groups of a node are dropped -/
def dropF (f : FTab) (nd : Int) (gs : List Int) : FTab := fun a b => if a = nd ∧ b % 8 ∈ gs then zer else f a b
theorem RelT.drop {m : List Tab.En} {f : FTab} (ho : OkT m) (h : RelT m f) (nd : Int) (gs : List Int) : RelT (m.filter fun x => !ofP nd gs x) (dropF f nd gs) := by
  intro n k a b c d
  have hf := (ho.filter fun x => !ofP nd gs x)
  unfold dropF
  split
  · rename_i e
    obtain ⟨rfl, e2⟩ := e
    refine getT_no fun x hx e3 => ?_
    obtain ⟨h1, h2⟩ := List.mem_filter.1 hx
    have ht := ho.there x h1
    unfold There at ht
    unfold Tab.num at e3
    have e4 : x.node = n := by omega
    have e5 : x.key = k := by omega
    unfold ofP at h2
    simp [e4, e5, e2] at h2
  · rename_i e
    rw [← h n k a b c d]
    rcases getT_cases m n k with ⟨x, hx, h1, h2⟩ | ⟨h1, h2⟩
    · rw [h2]
      have ht := ho.there x hx
      unfold There at ht
      unfold Tab.num at h1
      have e4 : x.node = n := by omega
      have e5 : x.key = k := by omega
      refine getT_is hf.un (List.mem_filter.2 ⟨hx, ?_⟩) h1
      unfold ofP
      rw [e4, e5]
      by_cases q1 : n = nd
      · have q2 : k % 8 ∉ gs := fun q => e ⟨q1, q⟩
        simp [q1, q2]
      · simp [q1]
    · rw [h2]
      exact getT_no fun x hx => h1 x (List.mem_filter.1 hx).1
/-- a program that runs -/
def runF (f : FTab) (nd : Int) (p : List Val) (ky : Int) (v : Val) : FTab := setF f nd ky ((runC p (f nd ky) v).c0, (runC p (f nd ky) v).c1)
theorem RelT.run {m : List Tab.En} {f : FTab} (ho : OkT m) (h : RelT m f) {nd : Int} {p : List Val} {ky : Int} {v : Val} (h0 : (runT m nd p ky v).1 = 0) : RelT (runT m nd p ky v).2.2 (runF f nd p ky v) ∧ (runT m nd p ky v).2.1 = (runC p (f nd ky) v).out ∧ thereB nd ky = true := by
  have hs := runT_self ho h0
  have ht : thereB nd ky = true := by
    rw [runT_code] at h0
    split at h0
    · cases h0
    · rename_i q
      simp only [Bool.not_eq_false, Bool.and_eq_true] at q
      exact q.1
  have hth := (thereB_iff (x := ⟨nd, ky, v, v⟩)).1 ht
  unfold There at hth
  simp only at hth
  have hg := h nd ky hth.1.1 hth.1.2 hth.2.1 hth.2.2
  rw [hg] at hs
  refine ⟨fun n k a b c d => ?_, hs.2, ht⟩
  unfold runF setF
  split
  · rename_i e
    obtain ⟨rfl, rfl⟩ := e
    rw [hs.1]
  · rename_i e
    rw [runT_other ho (fun q => e (by omega))]
    exact h n k a b c d
/-- what is asked for, of all -/
theorem of_all {m s : List Tab.En} {f : FTab} (ho : OkT m) (h : RelT m f) {nd : Int} {gs : List Int} (hp : s.Perm (m.filter (ofP nd gs))) (hs : SoE s) : s = (cellsT f 512).filter (ofP nd gs) := by
  have hc := h.cells ho
  have hpm : (cellsT f 512).Perm m := by
    refine hc.perm ho fun n k a b c d => ?_
    obtain ⟨n, rfl⟩ := Int.eq_ofNat_of_zero_le a
    obtain ⟨k, rfl⟩ := Int.eq_ofNat_of_zero_le c
    rw [cellsT_get f (by omega) (by omega)]
    exact (h n k a b c d).symm
  exact so_unique (ho.filter (ofP nd gs)).un hp (hpm.filter _) hs (((cellsT_lt f 512).imp fun h => by omega).filter _)
end Go.Proofs.YtmdmbimfdpngaaaGreatDoor

/-! The law VmBounds, walked. -/
namespace Go.Proofs.YtmdmbimfdpngaaaGreatDoor
set_option linter.unusedSimpArgs false
set_option linter.unusedVariables false
open Go.RowKit Ga
set_option maxRecDepth 100000

theorem run_eql_val (x y p q : Int) (b : Bool) (hb : b = (decide (x = p) && decide (y = q))) (w : World) : (binOp .eql 47 (.agg #[.int .i64 x, .int .i64 y]) (.agg #[.int .i64 p, .int .i64 q])).run Tryz.prog w = .ok (.bool b) w := by
  subst hb
  by_cases h1 : x = p <;> by_cases h2 : y = q <;> simp [go_sem, h1, h2, Tryz.underlying47, Tryz.underlying3]

def stores (l : List Val) : Bool := l.any fun i => i.1 == 5
structure BdAt (w : World) (b7 b5 : Nat) (vo : Value) (x0 y0 x1 y1 m1 m2 m3 m4 m5 : Int) (eo : List Val) (wr : World) : Prop where
  g : Grew w wr
  h7 : wr.heap[b7]? = some (.cells #[vo, .int .i64 m1, .int .i64 m2, .int .i64 m3, .int .i64 m4, .int .i64 m5] 110)
  h5 : wr.heap[b5]? = some (.cells #[.int .i64 x0, .int .i64 y0, .int .i64 x1, .int .i64 y1] 48)
  vo : ValsAt wr vo eo
theorem BdAt.grew {w : World} {b7 b5 : Nat} {vo : Value} {x0 y0 x1 y1 m1 m2 m3 m4 m5 : Int} {eo : List Val} {wr w' : World} (h : BdAt w b7 b5 vo x0 y0 x1 y1 m1 m2 m3 m4 m5 eo wr) (g : Grew wr w') : BdAt w b7 b5 vo x0 y0 x1 y1 m1 m2 m3 m4 m5 eo w' :=
  ⟨h.g.trans g, grew_heap g h.h7, grew_heap g h.h5, h.vo.grew g⟩

end Go.Proofs.YtmdmbimfdpngaaaGreatDoor

/-! Programs that may run, by all their ways: plain laws. -/
namespace Vm
set_option linter.unusedSimpArgs false
set_option linter.unusedVariables false
open Ga

/-- A set of places, each with a depth and what was put out, that nothing leads out of. -/
structure Closed (l : List Ins) (M : Nat → Int → Int → Prop) : Prop where
  zero : M 0 0 0
  ok : ∀ k d e, M k d e → d ≤ 8 ∧ 0 ≤ e ∧ e ≤ 4 ∧ k ≤ l.length
  one : ∀ k d e d' e', M k d e → M k d' e' → k < l.length → d = d'
  enough : ∀ k d e i, M k d e → l[k]? = some i → (takes i.1 : Int) ≤ d
  next : ∀ k d e i, M k d e → l[k]? = some i → ∀ a ∈ next l k i, M a (d - takes i.1 + leaves i.1) (e + if i.1 = 14 then 1 else 0)
/-- All that is known is so on some way. -/
structure Real (n : Nat) (M : Nat → Int → Int → Prop) (s : Cst) : Prop where
  dl : s.depth.length = n
  el : s.emits.length = n
  m : ∀ j, s.depth.getD j (-1) ≠ -1 → M j (s.depth.getD j (-1)) (s.emits.getD j 0)
  z : ∀ j, s.depth.getD j (-1) = -1 → s.emits.getD j 0 = 0
theorem Real.come {l : List Ins} {M : Nat → Int → Int → Prop} (h : Closed l M) {s : Cst} (hr : Real l.length M s) {k : Nat} {d e : Int} (hm : M k d e) (hd : 0 ≤ d) : (come l.length s k d e).2 = true ∧ Real l.length M (come l.length s k d e).1 := by
  obtain ⟨h1, h2, h3, h4⟩ := h.ok k d e hm
  unfold Vm.come
  rw [if_neg (by omega)]
  by_cases hk : k = l.length
  · rw [if_pos hk]
    exact ⟨rfl, hr.dl, hr.el, hr.m, hr.z⟩
  rw [if_neg hk]
  have hkl : k < l.length := by omega
  have hone : ¬ (s.depth.getD k (-1) ≠ -1 ∧ s.depth.getD k (-1) ≠ d) := fun hh => hh.2 (h.one k _ _ _ _ (hr.m k hh.1) hm hkl)
  rw [if_neg hone]
  refine ⟨rfl, by simp [hr.dl], by simp [hr.el], fun j hj => ?_, fun j hj => ?_⟩
  · show M j ((s.depth.set k d).getD j (-1)) ((s.emits.set k (max (s.emits.getD k 0) e)).getD j 0)
    have hj' : (s.depth.set k d).getD j (-1) ≠ -1 := hj
    rw [getD_set] at hj' ⊢
    rw [getD_set]
    by_cases hjk : j = k
    · subst hjk
      rw [if_pos ⟨rfl, by rw [hr.dl]; exact hkl⟩, if_pos ⟨rfl, by rw [hr.el]; exact hkl⟩]
      by_cases hu : s.depth.getD j (-1) = -1
      · rw [hr.z j hu, show max 0 e = e by omega]; exact hm
      · have hd2 : s.depth.getD j (-1) = d := Classical.byContradiction fun x => hone ⟨hu, x⟩
        have := hr.m j hu
        rw [hd2] at this
        rcases Int.le_total (s.emits.getD j 0) e with x | x
        · rw [show max (s.emits.getD j 0) e = e by omega]; exact hm
        · rw [show max (s.emits.getD j 0) e = s.emits.getD j 0 by omega]; exact this
    · rw [if_neg (fun x => hjk x.1)] at hj' ⊢
      rw [if_neg (fun x => hjk x.1)]
      exact hr.m j hj'
  · show (s.emits.set k (max (s.emits.getD k 0) e)).getD j 0 = 0
    have hj' : (s.depth.set k d).getD j (-1) = -1 := hj
    rw [getD_set] at hj'
    rw [getD_set]
    by_cases hjk : j = k
    · subst hjk
      rw [if_pos ⟨rfl, by rw [hr.dl]; exact hkl⟩] at hj'
      omega
    · rw [if_neg (fun x => hjk x.1)] at hj' ⊢
      exact hr.z j hj'
theorem Real.comes {l : List Ins} {M : Nat → Int → Int → Prop} (h : Closed l M) {d e : Int} (hd : 0 ≤ d) : ∀ (bs : List Nat) {s : Cst}, Real l.length M s → (∀ a ∈ bs, M a d e) → (comes l.length d e bs s).2 = true ∧ Real l.length M (comes l.length d e bs s).1
  | [], s, hr, _ => ⟨rfl, hr⟩
  | a :: bs, s, hr, ha => by
    obtain ⟨h1, h2⟩ := hr.come h (ha a (List.mem_cons_self ..)) hd
    rw [Vm.comes, if_pos h1]
    exact Real.comes h hd bs h2 fun b hb => ha b (List.mem_cons_of_mem _ hb)
theorem Real.uses {n : Nat} {M : Nat → Int → Int → Prop} {s : Cst} (hr : Real n M s) (i : Ins) : Real n M (uses s i) := by
  have h1 := uses_depth s i
  have h2 := uses_emits s i
  exact ⟨by rw [h1]; exact hr.dl, by rw [h2]; exact hr.el, by rw [h1, h2]; exact hr.m, by rw [h1, h2]; exact hr.z⟩
theorem Real.step {l : List Ins} {M : Nat → Int → Int → Prop} (h : Closed l M) {s : Cst} (hr : Real l.length M s) {k : Nat} {i : Ins} (hi : l[k]? = some i) (hk : s.depth.getD k (-1) ≠ -1) : (stepC l s k i).2 = true ∧ Real l.length M (stepC l s k i).1 := by
  have hm := hr.m k hk
  have he := h.enough k _ _ i hm hi
  unfold stepC
  rw [if_neg (by omega)]
  exact (hr.uses i).comes h (by omega) (Vm.next l k i) fun a ha => h.next k _ _ i hm hi a ha
theorem goC_real {l : List Ins} {M : Nat → Int → Int → Prop} (h : Closed l M) : ∀ (r : List Ins) (k : Nat) (s : Cst), (∀ j i, r[j]? = some i → l[k + j]? = some i) → Real l.length M s → (goC l r k s).isSome = true
  | [], k, s, _, _ => rfl
  | i :: r, k, s, hl, hr => by
    have hi : l[k]? = some i := by have := hl 0 i rfl; rwa [Nat.add_zero] at this
    have hn : ∀ j i', r[j]? = some i' → l[k + 1 + j]? = some i' := fun j i' hj => by
      have := hl (j + 1) i' (by rw [List.getElem?_cons_succ]; exact hj)
      rwa [show k + (j + 1) = k + 1 + j by omega] at this
    rw [goC]
    split
    · rename_i hk
      obtain ⟨h1, h2⟩ := hr.step h hi hk
      rw [if_pos h1]
      exact goC_real h r (k + 1) _ hn h2
    · exact goC_real h r (k + 1) _ hn hr
theorem safe_of_closed {l : List Ins} (hf : Co.fitsI l = true) {M : Nat → Int → Int → Prop} (h : Closed l M) : safe l = true := by
  unfold safe checkC
  rw [if_pos hf]
  refine goC_real h l 0 (start l.length) (fun j i hj => by rwa [Nat.zero_add]) ?_
  have h0 : Real l.length M ⟨List.replicate l.length (-1), List.replicate l.length 0, 0, 0, false, false⟩ := by
    have e1 : ∀ j, (List.replicate l.length (-1 : Int)).getD j (-1) = -1 := fun j => by
      rw [List.getD_eq_getElem?_getD, List.getElem?_replicate]; split <;> rfl
    have e2 : ∀ j, (List.replicate l.length (0 : Int)).getD j 0 = 0 := fun j => by
      rw [List.getD_eq_getElem?_getD, List.getElem?_replicate]; split <;> rfl
    exact ⟨List.length_replicate, List.length_replicate, fun j hj => absurd (e1 j) hj, fun j _ => e2 j⟩
  exact (h0.come h h.zero (Int.le_refl _)).2

/-! ### and where it is safe, each way stays within what is known -/
def Snd (l : List Ins) (c : Cst) (k : Nat) (d e : Int) : Prop := 0 ≤ e ∧ d ≤ 8 ∧ e ≤ 4 ∧ k ≤ l.length ∧ (k < l.length → c.depth.getD k (-1) = d ∧ 0 ≤ d ∧ e ≤ c.emits.getD k 0)
theorem come_deep {n : Nat} {s : Cst} {k : Nat} {d e : Int} (hb : (come n s k d e).2 = true) : d ≤ 8 := by
  unfold come at hb
  split at hb
  · cases hb
  · omega
theorem comes_deep {n : Nat} {d e : Int} : ∀ (l : List Nat) (s : Cst), (comes n d e l s).2 = true → ∀ k ∈ l, d ≤ 8
  | [], s, _, k, hk => by cases hk
  | a :: l, s, hb, k, hk => by
    rw [comes] at hb
    split at hb
    · rename_i ha
      exact come_deep ha
    · cases hb
def DSound (p : List Ins) (c : Cst) (k : Nat) (i : Ins) : Prop := c.depth.getD k (-1) ≠ -1 → ∀ a ∈ next p k i, c.depth.getD k (-1) - takes i.1 + leaves i.1 ≤ 8
theorem goC_dsound {p : List Ins} {c : Cst} : ∀ (l : List Ins) (k : Nat) (s : Cst), goC p l k s = some c → k + l.length = p.length → ∀ j i, l[j]? = some i → DSound p c (k + j) i
  | [], _, s, _, _, j, i, hj => by simp at hj
  | i0 :: l, k, s, h, hl, j, i, hj => by
    rw [List.length_cons] at hl
    rw [goC] at h
    cases j with
    | succ j =>
      rw [List.getElem?_cons_succ] at hj
      have e : k + (j + 1) = k + 1 + j := by omega
      rw [e]
      split at h
      · split at h
        · exact goC_dsound l _ _ h (by omega) j i hj
        · cases h
      · exact goC_dsound l _ _ h (by omega) j i hj
    | zero =>
      rw [List.getElem?_cons_zero] at hj
      cases hj
      intro hk
      rw [Nat.add_zero] at hk ⊢
      split at h
      · rename_i hs
        split at h
        · rename_i hb
          have e1 : c.depth.getD k (-1) = s.depth.getD k (-1) := (goC_low l _ _ h (by omega) (by omega)).trans (stepC_low (by omega) (by omega))
          rw [e1]
          intro a ha
          unfold stepC at hb
          split at hb
          · cases hb
          · exact comes_deep (next p k i0) (uses s i0) hb a ha
        · cases h
      · rename_i hs
        exact absurd ((goC_low l _ _ h (by omega) (by omega)).trans (Classical.byContradiction fun x => hs x)) hk
theorem checkC_dsound {p : List Ins} {c : Cst} (h : checkC p = some c) {k : Nat} {i : Ins} (hi : p[k]? = some i) : DSound p c k i := by
  unfold checkC at h
  split at h
  · have := goC_dsound p 0 _ h (by omega) k i hi
    rwa [Nat.zero_add] at this
  · cases h
theorem snd_zero {l : List Ins} {c : Cst} (h : checkC l = some c) : Snd l c 0 0 0 :=
  ⟨Int.le_refl _, by decide, by decide, Nat.zero_le _, fun hl => ⟨checkC_zero h hl, Int.le_refl _, ((checkC_inv h).2 0).1⟩⟩
theorem snd_enough {l : List Ins} {c : Cst} (h : checkC l = some c) {k : Nat} {d e : Int} (hs : Snd l c k d e) {i : Ins} (hi : l[k]? = some i) : (takes i.1 : Int) ≤ d := by
  have hlt : k < l.length := (List.getElem?_eq_some_iff.1 hi).1
  obtain ⟨h1, h2, _⟩ := hs.2.2.2.2 hlt
  have := (checkC_sound h hi (by rw [h1]; omega)).1
  rwa [h1] at this
theorem next_le' {p : List Ins} {k : Nat} {i : Ins} (hk : k < p.length) : ∀ a ∈ next p k i, a ≤ p.length := by
  intro a ha
  unfold next at ha
  split at ha
  · cases ha
  split at ha
  · rw [List.mem_singleton] at ha; omega
  split at ha
  · rcases List.mem_cons.1 ha with e | e
    · omega
    · rw [List.mem_singleton] at e; omega
  · rw [List.mem_singleton] at ha; omega
theorem snd_next {l : List Ins} {c : Cst} (h : checkC l = some c) {k : Nat} {d e : Int} (hs : Snd l c k d e) {i : Ins} (hi : l[k]? = some i) : ∀ a ∈ next l k i, Snd l c a (d - takes i.1 + leaves i.1) (e + if i.1 = 14 then 1 else 0) := by
  intro a ha
  have hlt : k < l.length := (List.getElem?_eq_some_iff.1 hi).1
  obtain ⟨h1, h2, h3⟩ := hs.2.2.2.2 hlt
  have hk : c.depth.getD k (-1) ≠ -1 := by rw [h1]; omega
  obtain ⟨s1, s2⟩ := checkC_sound h hi hk
  obtain ⟨e1, e2⟩ := checkC_esound h hi hk a ha
  have d1 := checkC_dsound h hi hk a ha
  rw [h1] at s1 s2 d1
  have hp : (0 : Int) ≤ if i.1 = 14 then 1 else 0 := by split <;> decide
  have h0 := hs.1
  refine ⟨by omega, d1, by omega, next_le' hlt a ha, fun hal => ⟨s2 a ha hal, by omega, Int.le_trans (by omega) (e2 hal)⟩⟩
end Vm

/-! The document's machine: on right values it reckons as the program does. -/
namespace Vm
set_option linter.unusedSimpArgs false
set_option linter.unusedVariables false
open Ga

theorem right_parts {v : Val} (h : rightV v = true) : into v.1 = v.1 ∧ into v.2 = v.2 := by
  unfold rightV at h
  simp only [Bool.and_eq_true, decide_eq_true_eq] at h
  exact ⟨h.1.symm, h.2.symm⟩
def refTwo (op : Int) (x y : Val) : Val :=
  if op = 6 then addV x y else if op = 7 then subV x y else if op = 8 then mulV x y else (if x.1 < y.1 then 1 else 0, 0)
theorem into_zero : into 0 = 0 := into_id (by decide)
theorem into_one : into 1 = 1 := into_id (by decide)
theorem two_ref {op : Int} {x y : Val} (hx : rightV x = true) (hy : rightV y = true) : two op x y = refTwo op x y := by
  obtain ⟨a, b⟩ := x
  obtain ⟨c, d⟩ := y
  obtain ⟨h1, h2⟩ := right_parts hx
  obtain ⟨h3, h4⟩ := right_parts hy
  simp only at h1 h2 h3 h4
  unfold two refTwo addV subV mulV lessV
  simp only [h1, h2, h3, h4, into_zero, into_one, Int.zero_add, Int.one_mul, Int.zero_mul, Int.sub_zero, Int.add_zero, decide_eq_true_eq]
theorem conj_ref {v : Val} (h : rightV v = true) : conjV v = (into v.1, into (-v.2)) := by
  obtain ⟨h1, h2⟩ := right_parts h
  unfold conjV
  rw [into_into, h2]
theorem turn_ref {v : Val} (h : rightV v = true) : turnV v = (into (-v.2), into v.1) := by
  obtain ⟨h1, h2⟩ := right_parts h
  unfold turnV
  rw [h2]
  simp [into_into]
theorem zero_ref {v : Val} (h : rightV v = true) : zeroV v = decide (v = (0, 0)) := by
  obtain ⟨a, b⟩ := v
  obtain ⟨h1, h2⟩ := right_parts h
  simp only at h1 h2
  unfold zeroV
  simp [h1, h2, Prod.mk.injEq, Bool.decide_and]
end Vm
