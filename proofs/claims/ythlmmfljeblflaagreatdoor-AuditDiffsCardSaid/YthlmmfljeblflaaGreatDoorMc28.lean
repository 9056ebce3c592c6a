import Derived.Test.YthlmmfljeblflaaGreatDoorMc26
import Derived.Test.YthlmmfljeblflaaGreatDoorMc6
import Derived.Test.YthlmmfljeblflaaGreatDoorMc10
import Derived.Test.YthlmmfljeblflaaGreatDoorMc13
/-! A program that runs for a record, on what is kept: plain laws. -/
namespace Go.Proofs.YthlmmfljeblflaaGreatDoor
set_option linter.unusedSimpArgs false
set_option linter.unusedVariables false
open Go.RowKit Ga
set_option maxRecDepth 100000

abbrev zer : Val × Val := ((0, 0), (0, 0))
/-- what a program makes of two cells and a value -/
def runC (p : List Val) (c : Val × Val) (v : Val) : Vm.Res := Vm.each p ⟨[], c.1, c.2, 0⟩ [v]
/-- the code, what is put out, what is kept then -/
def runT (m : List Tab.En) (nd : Int) (p : List Val) (ky : Int) (v : Val) : Int × List Val × List Tab.En :=
  if (thereB nd ky && (thereB 0 ky && rightV v)) = false then (1, [], m)
  else if Vm.safe p = false then (9, [], m)
  else (0, (runC p (getT m nd ky) v).out, Tab.setT m ⟨nd, ky, (runC p (getT m nd ky) v).c0, (runC p (getT m nd ky) v).c1⟩)
theorem zer_right : rightV ((0, 0) : Val) = true := Vm.right_of (by decide) (by decide)
theorem getT_right {m : List Tab.En} (h : OkT m) (n k : Int) : rightV (getT m n k).1 = true ∧ rightV (getT m n k).2 = true := by
  rcases getT_cases m n k with ⟨x, hx, _, e⟩ | ⟨_, e⟩
  · rw [e]
    have := h.ok x hx
    unfold okEn at this
    simp only [Bool.and_eq_true] at this
    exact this.2
  · rw [e]
    exact ⟨zer_right, zer_right⟩
theorem runT_code (m : List Tab.En) (nd : Int) (p : List Val) (ky : Int) (v : Val) : (runT m nd p ky v).1 = if (thereB nd ky && (thereB 0 ky && rightV v)) = false then 1 else if Vm.safe p = false then 9 else 0 := by
  unfold runT
  split
  · rfl
  · split <;> rfl
/-- what is kept at another place stays -/
theorem runT_other {m : List Tab.En} (h : OkT m) {nd : Int} {p : List Val} {ky : Int} {v : Val} {n k : Int} (hne : nd * 64 + ky ≠ n * 64 + k) : getT (runT m nd p ky v).2.2 n k = getT m n k := by
  unfold runT
  split
  · rfl
  · split
    · rfl
    · simp only
      rw [getT_set h.un]
      exact if_neg hne
theorem runT_self {m : List Tab.En} (h : OkT m) {nd : Int} {p : List Val} {ky : Int} {v : Val} (h0 : (runT m nd p ky v).1 = 0) : getT (runT m nd p ky v).2.2 nd ky = ((runC p (getT m nd ky) v).c0, (runC p (getT m nd ky) v).c1) ∧ (runT m nd p ky v).2.1 = (runC p (getT m nd ky) v).out := by
  unfold runT at h0 ⊢
  split
  · rw [if_pos (by assumption)] at h0; cases h0
  · rw [if_neg (by assumption)] at h0
    split
    · rw [if_pos (by assumption)] at h0; cases h0
    · simp only
      rw [getT_set h.un]
      exact ⟨if_pos rfl, trivial⟩
end Go.Proofs.YthlmmfljeblflaaGreatDoor

/-! cell: Get, Right, Run, Drop, Copy. -/
namespace Go.Proofs.YthlmmfljeblflaaGreatDoor
set_option linter.unusedSimpArgs false
set_option linter.unusedVariables false
open Go.RowKit Ga
set_option maxRecDepth 100000

theorem thereB_at {n k : Int} (h : thereB n k = true) (v : Val) : There ⟨n, k, v, v⟩ := (thereB_iff (x := ⟨n, k, v, v⟩)).1 h
theorem TabD.found {D : DataW Unit} {m : List Tab.En} (h : TabD D m) {n k : Int} (ht : thereB n k = true) {kl : Lit} (hk : keyOf Tryz.prog 134 (ceK n k) = some kl) : D.atKey kl (ceDat (0, 0) (0, 0)) = ceDat (getT m n k).1 (getT m n k).2 := by
  rcases getT_cases m n k with ⟨x, hx, h1, h2⟩ | ⟨h1, h2⟩
  · rw [h2]
    obtain ⟨e1, e2⟩ := ((h.there x hx).inj (thereB_at ht x.c0)).1 (h1.trans rfl)
    simp only at e1 e2
    exact (h.at' x hx kl (by rw [e1, e2]; exact hk)).2 _
  · rw [h2]
    cases hh : Maps.has D kl
    · exact Maps.atKey_of_not_has hh _
    · obtain ⟨x, hx, hxk⟩ := h.has kl hh
      obtain ⟨e1, e2⟩ := ceK_inj (cell_law.inj hxk hk)
      exact absurd (by unfold Tab.num; rw [e1, e2]) (h1 x hx)
theorem zeroCells (w : World) : (zeroValue 48).run Tryz.prog w = .ok (cev (0, 0) (0, 0)) w := by kernel_rfl
theorem TabAt.look {W : World} {b n : Nat} {m : List Tab.En} (h : TabAt W b n m) {nd k : Int} (ht : thereB nd k = true) :
    (Instr.lookup 129 (.map (some b)) (ceK nd k) false).run Tryz.prog W = .ok (cev (getT m nd k).1 (getT m nd k).2) W := by
  obtain ⟨D, ho, hD⟩ := h
  obtain ⟨kl, hk⟩ := (thereB_at ht (0, 0)).kl
  obtain ⟨v, ps, hr, hR⟩ := World.ownsMap.lookup ho cell_law Tryz.underlying129 (zeroCells W) (ceR_mk (0, 0) (0, 0)) hk
  rw [hD.found ht hk] at hR
  obtain ⟨c, hv, hd⟩ := ceR_inv hR
  injection hd with hd1 _
  obtain ⟨e1, e2⟩ := ceDat_inj hd1
  rw [hr, hv, ← e1, ← e2]
set_option maxHeartbeats 2000000 in
theorem tabGet_any (W : World) (t b n : Nat) (m : List Tab.En) (hT : TableAt W t b n m) (nd k : Int) (ht : thereB nd k = true) (c0 c1 : Val) (hc : getT m nd k = (c0, c1)) :
    Calls Tryz.prog 40 #[.pointer (some ⟨t, 0, none⟩), .int .i64 nd, .int .i64 k] W (Gives (.agg #[.int .i64 c0.1, .int .i64 c0.2, .int .i64 c1.1, .int .i64 c1.2]) W) := by
  have tc := cell_of (o := 0) hT.1
  simp at tc
  have pt := Pre.mk (heap_lt hT.1)
  have hlk := fun W2 (g : Grew W W2) => (hT.2.grew g).look ht
  rw [hc] at hlk
  have hlook := hlk (W.alloc (.cells #[.int .i64 0, .int .i64 0, .int .i64 0, .int .i64 0] 48)) ((Grew.refl W).alloc _)
  unfold ceK cev at hlook
  clear hT hlk hc
  go_enter Tryz.func40, Tryz.ntmps40
  go_wp2
  refine bodyPost_ret (v := .agg #[.int .i64 c0.1, .int .i64 c0.2, .int .i64 c1.1, .int .i64 c1.2]) (by simp [results, Tryz.results40, go_sem]) rfl ?_
  exact ⟨rfl, by repeat (first | with_reducible exact Grew.refl _ | apply Grew.more | apply Grew.alloc | apply Grew.drew | apply Grew.drewN)⟩

/-- another block than the map's keeps what it has -/
theorem TableAt.keep {W W' : World} {t b b2 n : Nat} {m : List Tab.En} (h : TableAt W t b n m) (hk : Keep b2 W W') (h1 : t ≠ b2) (h2 : b ≠ b2) : TableAt W' t b n m :=
  ⟨by rw [hk.2 t (heap_lt h.1) h1]; exact h.1, h.2.same (hk.2 b h.2.lt h2)⟩
theorem TableAt.put {W W' : World} {t b n n' : Nat} {m m' : List Tab.En} (h : TableAt W t b n m) (hk : Keep b W W') (hm : TabAt W' b n' m') : TableAt W' t b n' m' :=
  ⟨by rw [hk.2 t (heap_lt h.1) h.ne]; exact h.1, hm⟩
/-! Drop -/
end Go.Proofs.YthlmmfljeblflaaGreatDoor

/-! The document's table: all cells, in a list: plain laws. -/
namespace Go.Proofs.YthlmmfljeblflaaGreatDoor
set_option linter.unusedSimpArgs false
set_option linter.unusedVariables false
open Go.RowKit Ga
set_option maxRecDepth 100000

abbrev FTab := Int → Int → Val × Val
def mkEn (f : FTab) (j : Nat) : Tab.En := ⟨((j / 64 : Nat) : Int), ((j % 64 : Nat) : Int), (f ((j / 64 : Nat) : Int) ((j % 64 : Nat) : Int)).1, (f ((j / 64 : Nat) : Int) ((j % 64 : Nat) : Int)).2⟩
theorem mkEn_num (f : FTab) (j : Nat) : Tab.num (mkEn f j) = (j : Int) := by
  unfold Tab.num mkEn
  simp only
  omega
theorem mkEn_at (f : FTab) {n k : Nat} (hk : k < 64) : mkEn f (n * 64 + k) = ⟨(n : Int), (k : Int), (f n k).1, (f n k).2⟩ := by
  unfold mkEn
  have h1 : (n * 64 + k) / 64 = n := by omega
  have h2 : (n * 64 + k) % 64 = k := by omega
  rw [h1, h2]
/-- what is kept at the places ahead of one -/
def cellsT (f : FTab) (i : Nat) : List Tab.En := ((List.range i).map (mkEn f)).filter Tab.nz
theorem cellsT_lt (f : FTab) (i : Nat) : (cellsT f i).Pairwise fun a b => Tab.num a < Tab.num b := by
  unfold cellsT
  refine List.Pairwise.filter _ ?_
  rw [List.pairwise_map]
  refine List.pairwise_lt_range.imp fun {a b} h => ?_
  rw [mkEn_num, mkEn_num]
  omega
theorem cellsT_mem {f : FTab} {i : Nat} {x : Tab.En} : x ∈ cellsT f i ↔ ∃ j, j < i ∧ mkEn f j = x ∧ Tab.nz x = true := by
  unfold cellsT
  rw [List.mem_filter, List.mem_map]
  constructor
  · rintro ⟨⟨j, h1, h2⟩, h3⟩
    exact ⟨j, List.mem_range.1 h1, h2, h3⟩
  · rintro ⟨j, h1, h2, h3⟩
    exact ⟨⟨j, List.mem_range.2 h1, h2⟩, h3⟩
theorem cellsT_get (f : FTab) {n k : Nat} (hn : n < 8) (hk : k < 64) : getT (cellsT f 512) n k = f n k := by
  have hu : UnE (cellsT f 512) := (cellsT_lt f 512).imp fun h => by omega
  have he := mkEn_at f (n := n) hk
  cases hz : Tab.nz (mkEn f (n * 64 + k))
  · have h0 := nz_no hz
    rw [he] at h0
    simp only at h0
    rw [getT_no fun x hx e => ?_]
    · rw [Prod.ext_iff]; exact ⟨h0.1.symm, h0.2.symm⟩
    · obtain ⟨j, hj, rfl, h3⟩ := cellsT_mem.1 hx
      rw [mkEn_num] at e
      obtain rfl : j = n * 64 + k := by omega
      rw [hz] at h3
      cases h3
  · rw [getT_is hu (cellsT_mem.2 ⟨n * 64 + k, by omega, rfl, hz⟩) (by rw [mkEn_num]; omega), he]
/-- the two tables answer alike -/
def RelT (m : List Tab.En) (f : FTab) : Prop := ∀ n k : Int, 0 ≤ n → n < 8 → 0 ≤ k → k < 64 → getT m n k = f n k
theorem RelT.cells {m : List Tab.En} {f : FTab} (ho : OkT m) (h : RelT m f) : OkT (cellsT f 512) := by
  refine ⟨(cellsT_lt f 512).imp fun h => by omega, fun x hx => ?_, fun x hx => ?_⟩
  · obtain ⟨j, _, _, h3⟩ := cellsT_mem.1 hx
    exact h3
  · obtain ⟨j, hj, rfl, h3⟩ := cellsT_mem.1 hx
    have h1 := h ((j / 64 : Nat) : Int) ((j % 64 : Nat) : Int) (by omega) (by omega) (by omega) (by omega)
    obtain ⟨r0, r1⟩ := getT_right ho ((j / 64 : Nat) : Int) ((j % 64 : Nat) : Int)
    rw [h1] at r0 r1
    unfold okEn
    rw [Bool.and_eq_true, Bool.and_eq_true]
    refine ⟨thereB_iff.2 ?_, r0, r1⟩
    unfold There mkEn
    simp only
    omega
/-- THE LAW: all that is kept, by places, is the document's list -/
theorem RelT.all {m s : List Tab.En} {f : FTab} (ho : OkT m) (h : RelT m f) (hp : s.Perm m) (hs : SoE s) : s = cellsT f 512 := by
  have hc := h.cells ho
  refine so_unique ho.un hp ?_ hs ((cellsT_lt f 512).imp fun h => by omega)
  refine hc.perm ho fun n k a b c d => ?_
  obtain ⟨n, rfl⟩ := Int.eq_ofNat_of_zero_le a
  obtain ⟨k, rfl⟩ := Int.eq_ofNat_of_zero_le c
  rw [cellsT_get f (by omega) (by omega)]
  exact (h n k a b c d).symm
theorem RelT.nil : RelT [] (fun _ _ => zer) := fun n k _ _ _ _ => rfl
/-- something is kept at a place -/
def setF (f : FTab) (n k : Int) (c : Val × Val) : FTab := fun a b => if a = n ∧ b = k then c else f a b
theorem RelT.set {m : List Tab.En} {f : FTab} (ho : OkT m) (h : RelT m f) {x : Tab.En} (hx : There x) : RelT (Tab.setT m x) (setF f x.node x.key (x.c0, x.c1)) := by
  intro n k a b c d
  rw [getT_set ho.un]
  unfold There at hx
  unfold setF Tab.num
  by_cases e : n = x.node ∧ k = x.key
  · obtain ⟨rfl, rfl⟩ := e
    rw [if_pos rfl, if_pos ⟨rfl, rfl⟩]
  · rw [if_neg (fun q => e (by omega)), if_neg e]
    exact h n k a b c d
/-- some groups of a node are dropped -/
def dropF (f : FTab) (nd : Int) (gs : List Int) : FTab := fun a b => if a = nd ∧ b % 8 ∈ gs then zer else f a b
theorem RelT.drop {m : List Tab.En} {f : FTab} (ho : OkT m) (h : RelT m f) (nd : Int) (gs : List Int) : RelT (m.filter fun x => !ofP nd gs x) (dropF f nd gs) := by
  intro n k a b c d
  have hf := (ho.filter fun x => !ofP nd gs x)
  unfold dropF
  split
  · rename_i e
    obtain ⟨rfl, e2⟩ := e
    refine getT_no fun x hx e3 => ?_
    obtain ⟨h1, h2⟩ := List.mem_filter.1 hx
    have ht := ho.there x h1
    unfold There at ht
    unfold Tab.num at e3
    have e4 : x.node = n := by omega
    have e5 : x.key = k := by omega
    unfold ofP at h2
    simp [e4, e5, e2] at h2
  · rename_i e
    rw [← h n k a b c d]
    rcases getT_cases m n k with ⟨x, hx, h1, h2⟩ | ⟨h1, h2⟩
    · rw [h2]
      have ht := ho.there x hx
      unfold There at ht
      unfold Tab.num at h1
      have e4 : x.node = n := by omega
      have e5 : x.key = k := by omega
      refine getT_is hf.un (List.mem_filter.2 ⟨hx, ?_⟩) h1
      unfold ofP
      rw [e4, e5]
      by_cases q1 : n = nd
      · have q2 : k % 8 ∉ gs := fun q => e ⟨q1, q⟩
        simp [q1, q2]
      · simp [q1]
    · rw [h2]
      exact getT_no fun x hx => h1 x (List.mem_filter.1 hx).1
/-- a program that runs -/
def runF (f : FTab) (nd : Int) (p : List Val) (ky : Int) (v : Val) : FTab := setF f nd ky ((runC p (f nd ky) v).c0, (runC p (f nd ky) v).c1)
theorem RelT.run {m : List Tab.En} {f : FTab} (ho : OkT m) (h : RelT m f) {nd : Int} {p : List Val} {ky : Int} {v : Val} (h0 : (runT m nd p ky v).1 = 0) : RelT (runT m nd p ky v).2.2 (runF f nd p ky v) ∧ (runT m nd p ky v).2.1 = (runC p (f nd ky) v).out ∧ thereB nd ky = true := by
  have hs := runT_self ho h0
  have ht : thereB nd ky = true := by
    rw [runT_code] at h0
    split at h0
    · cases h0
    · rename_i q
      simp only [Bool.not_eq_false, Bool.and_eq_true] at q
      exact q.1
  have hth := (thereB_iff (x := ⟨nd, ky, v, v⟩)).1 ht
  unfold There at hth
  simp only at hth
  have hg := h nd ky hth.1.1 hth.1.2 hth.2.1 hth.2.2
  rw [hg] at hs
  refine ⟨fun n k a b c d => ?_, hs.2, ht⟩
  unfold runF setF
  split
  · rename_i e
    obtain ⟨rfl, rfl⟩ := e
    rw [hs.1]
  · rename_i e
    rw [runT_other ho (fun q => e (by omega))]
    exact h n k a b c d
end Go.Proofs.YthlmmfljeblflaaGreatDoor

/-! forebayref07: the table in memory; All, Run. -/
namespace Go.Proofs.YthlmmfljeblflaaGreatDoor
set_option linter.unusedSimpArgs false
set_option linter.unusedVariables false
open Go.RowKit Ga
set_option maxRecDepth 100000

/-- the document's table at block t -/
def RTabAt (W : World) (t : Nat) (f : FTab) : Prop := ∃ C : Array Value, W.heap[t]? = some (.cells C 51) ∧ C.size = 2048 ∧ ∀ n k : Nat, n < 8 → k < 64 →
  C[n * 256 + k * 4]? = some (.int .i64 (f n k).1.1) ∧ C[n * 256 + k * 4 + 1]? = some (.int .i64 (f n k).1.2) ∧ C[n * 256 + k * 4 + 2]? = some (.int .i64 (f n k).2.1) ∧ C[n * 256 + k * 4 + 3]? = some (.int .i64 (f n k).2.2)
theorem RTabAt.lt {W : World} {t : Nat} {f : FTab} (h : RTabAt W t f) : t < W.heap.size := let ⟨_, h1, _⟩ := h; heap_lt h1
theorem RTabAt.same {W W' : World} {t : Nat} {f : FTab} (h : RTabAt W t f) (hb : W'.heap[t]? = W.heap[t]?) : RTabAt W' t f := let ⟨C, h1, h2⟩ := h; ⟨C, hb.trans h1, h2⟩
theorem RTabAt.grew {W W' : World} {t : Nat} {f : FTab} (h : RTabAt W t f) (g : Grew W W') : RTabAt W' t f := h.same (g.below.block t h.lt)
theorem RTabAt.cells {W : World} {t : Nat} {f : FTab} (h : RTabAt W t f) {n k : Nat} (hn : n < 8) (hk : k < 64) :
    W.cell? ⟨t, n * 256 + k * 4, none⟩ = some (.int .i64 (f n k).1.1) ∧ W.cell? ⟨t, n * 256 + k * 4 + 1, none⟩ = some (.int .i64 (f n k).1.2) ∧ W.cell? ⟨t, n * 256 + k * 4 + 2, none⟩ = some (.int .i64 (f n k).2.1) ∧ W.cell? ⟨t, n * 256 + k * 4 + 3, none⟩ = some (.int .i64 (f n k).2.2) := by
  obtain ⟨C, h1, h2, h3⟩ := h
  obtain ⟨q0, q1, q2, q3⟩ := h3 n k hn hk
  exact ⟨(cell_of h1).trans q0, (cell_of h1).trans q1, (cell_of h1).trans q2, (cell_of h1).trans q3⟩
theorem RTabAt.frozen {W : World} {t o : Nat} {f : FTab} (h : RTabAt W t f) : W.frozen? ⟨t, o, none⟩ = false := let ⟨_, h1, _⟩ := h; frozen_of h1
theorem RTabAt.set {W : World} {t : Nat} {f : FTab} (h : RTabAt W t f) {n k : Nat} (hn : n < 8) (hk : k < 64) (a b c d : Int) :
    RTabAt ((((W.setCell ⟨t, n * 256 + k * 4, none⟩ (.int .i64 a)).setCell ⟨t, n * 256 + k * 4 + 1, none⟩ (.int .i64 b)).setCell ⟨t, n * 256 + k * 4 + 2, none⟩ (.int .i64 c)).setCell ⟨t, n * 256 + k * 4 + 3, none⟩ (.int .i64 d)) t (setF f n k ((a, b), (c, d))) := by
  obtain ⟨C, h1, h2, h3⟩ := h
  refine ⟨_, set_self (set_self (set_self (set_self h1))), by simp [h2], fun n' k' hn' hk' => ?_⟩
  obtain ⟨q0, q1, q2, q3⟩ := h3 n' k' hn' hk'
  unfold setF
  by_cases e : n' = n ∧ k' = k
  · obtain ⟨rfl, rfl⟩ := e
    have hlt : n' * 256 + k' * 4 + 3 < C.size := by rw [h2]; omega
    simp only [and_self, if_true]
    refine ⟨?_, ?_, ?_, ?_⟩ <;> simp [Array.getElem?_setIfInBounds] <;> omega
  · have e' : ¬ ((n' : Int) = n ∧ (k' : Int) = k) := fun q => e ⟨by omega, by omega⟩
    rw [if_neg e']
    have hne : n' * 256 + k' * 4 ≠ n * 256 + k * 4 := fun q => e (by omega)
    refine ⟨?_, ?_, ?_, ?_⟩
    all_goals
      simp only [Array.getElem?_setIfInBounds]
      repeat rw [if_neg (by omega)]
      assumption
theorem RTabAt.made (W : World) (t : Nat) (ht : t = W.heap.size) : RTabAt (W.alloc (.cells (Array.replicate 2048 (.int .i64 0)) 51)) t (fun _ _ => zer) := by
  refine ⟨_, heap_new_at _ _ _ ht, by simp, fun n k hn hk => ?_⟩
  refine ⟨?_, ?_, ?_, ?_⟩ <;> rw [Array.getElem?_replicate, if_pos (by omega)]
end Go.Proofs.YthlmmfljeblflaaGreatDoor
