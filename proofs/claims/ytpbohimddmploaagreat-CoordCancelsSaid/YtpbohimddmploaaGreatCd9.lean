import Derived.Test.YtpbohimddmploaaGreatCd5
import Derived.Test.YtpbohimddmploaaGreatCd0
import Derived.Test.YtpbohimddmploaaGreatCd6
import Derived.Maps.OwnOps
import Derived.RegionTactic
import Derived.BigRegion
set_option linter.unusedSimpArgs false
set_option linter.unusedVariables false
set_option maxRecDepth 100000
set_option maxHeartbeats 64000000
namespace Go.Proofs.YtpbohimddmploaaGreat
open Go.RowKit Ga

def ints (l : List Int) : Array Value := (l.map (Value.int .i64)).toArray
theorem ints_get (l : List Int) (k : Nat) (h : k < l.length) (d : Int) : (ints l)[k]? = some (.int .i64 (l.getD k d)) := by
  unfold ints
  rw [List.getElem?_toArray, List.getElem?_map, List.getElem?_eq_getElem h, List.getD_eq_getElem?_getD, List.getElem?_eq_getElem h]; rfl
theorem ints_set (l : List Int) (k : Nat) (d : Int) : (ints l).setIfInBounds k (.int .i64 d) = ints (l.set k d) := by
  unfold ints
  rw [List.map_set]
  simp

def effV : List Value → Option (DataW Unit × List MemPlace)
  | [.int .i64 a, .int .i64 b] => some (.agg [.lit (.int .i64 a), .lit (.int .i64 b)], [])
  | _ => none
def effR (v : Value) : Option (DataW Unit × List MemPlace) := match v with
  | .agg c => effV c.toList
  | _ => none
def effL : List (Int × Int × Int) := [(1, 0, 1), (2, 0, 1), (3, 0, 1), (4, 0, 1), (5, 1, 0), (13, 1, 0), (14, 1, 0), (15, 1, 0), (6, 2, 1), (7, 2, 1), (8, 2, 1), (17, 2, 1), (9, 1, 1), (10, 1, 1), (11, 1, 2), (12, 2, 2)]
def effDat (x : Int × Int) : DataW Unit := .agg [.lit (.int .i64 x.1), .lit (.int .i64 x.2)]
def effD : DataW Unit := effL.foldl (fun D x => D.put (.int .i64 x.1) (effDat x.2)) (.map [])
def EffAt (W : World) (bm : Nat) : Prop := W.ownsMap Tryz.prog 3 effR bm 16 effD
theorem EffAt.same {W W' : World} {bm : Nat} (h : EffAt W bm) (hb : W'.heap[bm]? = W.heap[bm]?) : EffAt W' bm := by
  obtain ⟨es, c, h1, h2⟩ := h
  exact ⟨es, c, by rw [hb]; exact h1, h2⟩
theorem EffAt.lt {W : World} {bm : Nat} (h : EffAt W bm) : bm < W.heap.size := World.ownsMap.lt h
theorem EffAt.grew {W W' : World} {bm : Nat} (h : EffAt W bm) (g : Grew W W') : EffAt W' bm := h.same (g.below.block bm h.lt)

structure WalkAt (base B bd be bm cd ce : Nat) (vp : Value) (n : Nat) (W : World) (s : Vm.Cst) : Prop where
  hB : base ≤ B
  hd : base ≤ bd
  he : base ≤ be
  n1 : B ≠ bd
  n2 : B ≠ be
  n3 : bd ≠ be
  m1 : B ≠ bm
  m2 : bd ≠ bm
  m3 : be ≠ bm
  cB : W.heap[B]? = some (.cells #[.slice (some ⟨bd, 0, none⟩) n cd, .int .i64 s.mx, .int .i64 s.em, .bool s.u0, .bool s.u1, vp, .slice (some ⟨be, 0, none⟩) n ce, .map (some bm)] 279)
  cD : W.heap[bd]? = some (.cells (ints s.depth) 3)
  cE : W.heap[be]? = some (.cells (ints s.emits) 3)
  cM : EffAt W bm
  ld : s.depth.length = n
  le : s.emits.length = n

section
variable {base B bd be bm cd ce : Nat} {vp : Value} {n : Nat} {W W' : World} {s : Vm.Cst}
theorem WalkAt.grew (h : WalkAt base B bd be bm cd ce vp n W s) (g : Grew W W') : WalkAt base B bd be bm cd ce vp n W' s :=
  { h with cB := grew_heap g h.cB, cD := grew_heap g h.cD, cE := grew_heap g h.cE, cM := h.cM.grew g }
theorem WalkAt.raise (h : WalkAt base B bd be bm cd ce vp n W s) (d e : Int) : WalkAt base B bd be bm cd ce vp n ((W.setCell ⟨B, 1, none⟩ (.int .i64 (max s.mx d))).setCell ⟨B, 2, none⟩ (.int .i64 (max s.em e))) (Vm.raise s d e) :=
  { h with
    cB := by rw [set_self (set_self h.cB)]; rfl
    cD := by rw [set_other h.n1, set_other h.n1]; exact h.cD
    cE := by rw [set_other h.n2, set_other h.n2]; exact h.cE
    cM := h.cM.same (by rw [set_other h.m1, set_other h.m1]) }
theorem WalkAt.put (h : WalkAt base B bd be bm cd ce vp n W s) (k : Nat) (d e : Int) : WalkAt base B bd be bm cd ce vp n ((W.setCell ⟨bd, k, none⟩ (.int .i64 d)).setCell ⟨be, k, none⟩ (.int .i64 e)) { s with depth := s.depth.set k d, emits := s.emits.set k e } :=
  { h with
    cB := by rw [set_other (fun x => h.n2 x.symm), set_other (fun x => h.n1 x.symm)]; exact h.cB
    cD := by rw [set_other (fun x => h.n3 x.symm), set_self h.cD, ints_set]
    cE := by rw [set_self (by rw [set_other h.n3]; exact h.cE), ints_set]
    cM := h.cM.same (by rw [set_other h.m3, set_other h.m2])
    ld := by simp [h.ld]
    le := by simp [h.le] }
end

def Others (B bd be : Nat) (W W' : World) : Prop := W.heap.size ≤ W'.heap.size ∧ ∀ q, q < W.heap.size → q ≠ B → q ≠ bd → q ≠ be → W'.heap[q]? = W.heap[q]?
theorem Others.refl (B bd be : Nat) (W : World) : Others B bd be W W := ⟨Nat.le_refl _, fun _ _ _ _ _ => rfl⟩
theorem Others.set {B bd be b o : Nat} {W X : World} (h : Others B bd be W X) (hb : b = B ∨ b = bd ∨ b = be) (v : Value) : Others B bd be W (X.setCell ⟨b, o, none⟩ v) :=
  ⟨by rw [World.size_setCell]; exact h.1, fun q h0 h1 h2 h3 => by rw [set_other (by rintro rfl; rcases hb with h | h | h <;> contradiction)]; exact h.2 q h0 h1 h2 h3⟩
theorem Others.grew {B bd be : Nat} {W X Y : World} (h : Others B bd be W X) (g : Grew X Y) : Others B bd be W Y :=
  ⟨Nat.le_trans h.1 g.below.size, fun q h0 h1 h2 h3 => (g.below.block q (Nat.lt_of_lt_of_le h0 h.1)).trans (h.2 q h0 h1 h2 h3)⟩
theorem Others.trans {B bd be : Nat} {W X Y : World} (h : Others B bd be W X) (g : Others B bd be X Y) : Others B bd be W Y :=
  ⟨Nat.le_trans h.1 g.1, fun q h0 h1 h2 h3 => (g.2 q (Nat.lt_of_lt_of_le h0 h.1) h1 h2 h3).trans (h.2 q h0 h1 h2 h3)⟩
structure Came (w0 : World) (B bd be bm cd ce : Nat) (vp : Value) (n : Nat) (W : World) (s : Vm.Cst) (W' : World) : Prop where
  grew : Grew w0 W'
  walk : WalkAt w0.heap.size B bd be bm cd ce vp n W' s
  oth : Others B bd be W W'
theorem Came.more {w0 : World} {B bd be bm cd ce : Nat} {vp : Value} {n : Nat} {W W' W'' : World} {s : Vm.Cst} (h : Came w0 B bd be bm cd ce vp n W s W') (g : Grew W' W'') : Came w0 B bd be bm cd ce vp n W s W'' :=
  ⟨h.grew.trans g, h.walk.grew g, h.oth.grew g⟩
theorem Came.drew {w0 : World} {B bd be bm cd ce : Nat} {vp : Value} {n : Nat} {W W' : World} {s : Vm.Cst} (h : Came w0 B bd be bm cd ce vp n W s W') : Came w0 B bd be bm cd ce vp n W s W'.drew := h.more (Grew.refl _).drew

theorem run_max (P : Program) (w : World) (ts : Array TypeId) (t : TypeId) (x y : Int) : (Builtin.max_ ts t #[.int .i64 x, .int .i64 y]).run P w = .ok (.int .i64 (max x y)) w := by
  rw [run_max_int2]
  have : (if y > x then y else x) = max x y := by rw [Int.max_def]; split <;> split <;> omega
  rw [this]

theorem come_high {n : Nat} {s : Vm.Cst} {k : Nat} {d e : Int} (h : 8 < d ∨ 4 < e) : Vm.come n s k d e = (Vm.raise s d e, false) := by
  unfold Vm.come; rw [if_pos h]
theorem come_end {n : Nat} {s : Vm.Cst} {d e : Int} (hd : d ≤ 8) (he : e ≤ 4) : Vm.come n s n d e = (Vm.raise s d e, true) := by
  unfold Vm.come; rw [if_neg (by omega), if_pos rfl]
theorem come_off {n : Nat} {s : Vm.Cst} {k : Nat} {d e : Int} (hd : d ≤ 8) (he : e ≤ 4) (hk : k < n) (h1 : s.depth.getD k (-1) ≠ -1) (h2 : s.depth.getD k (-1) ≠ d) : Vm.come n s k d e = (Vm.raise s d e, false) := by
  unfold Vm.come; rw [if_neg (by omega), if_neg (by omega), if_pos ⟨h1, h2⟩]
theorem come_put {n : Nat} {s : Vm.Cst} {k : Nat} {d e : Int} (hd : d ≤ 8) (he : e ≤ 4) (hk : k < n) (h1 : s.depth.getD k (-1) = -1 ∨ s.depth.getD k (-1) = d) : Vm.come n s k d e = ({ Vm.raise s d e with depth := s.depth.set k d, emits := s.emits.set k (max (s.emits.getD k 0) e) }, true) := by
  unfold Vm.come; rw [if_neg (by omega), if_neg (by omega), if_neg (by omega)]

theorem come_any (w0 W : World) (B bd be bm cd ce : Nat) (vp : Value) (n : Nat) (s : Vm.Cst) (k : Nat) (d e : Int) (hs : WalkAt w0.heap.size B bd be bm cd ce vp n W s) (hg : Grew w0 W) (hvp : ∃ a c, vp = .slice a n c) (hk : k ≤ n) (hn : n ≤ 24) :
    Calls Tryz.prog 203 #[.pointer (some ⟨B, 0, none⟩), .int .i64 k, .int .i64 d, .int .i64 e] W fun r W' => r = .returned (.bool (Vm.come n s k d e).2) ∧ Came w0 B bd be bm cd ce vp n W (Vm.come n s k d e).1 W' := by
  obtain ⟨av, cv, rfl⟩ := hvp
  have hcB := fun o => cell_of (o := o) hs.cB
  have hfB := fun o => frozen_of (o := o) hs.cB
  have hc0 := hcB 0
  have hc1 := hcB 1
  have hc2 := hcB 2
  have hc5 := hcB 5
  have hc6 := hcB 6
  have hf1 := hfB 1
  have hf2 := hfB 2
  simp at hc0 hc1 hc2 hc5 hc6
  clear hcB hfB
  have hp := Pre.mk (heap_lt hs.cB)
  have hpd := Pre.mk (heap_lt hs.cD)
  have hpe := Pre.mk (heap_lt hs.cE)
  have n1 := hs.n1
  have n2 := hs.n2
  have n3 := hs.n3
  have hfd := frozen_of (o := k) hs.cD
  have hfe := frozen_of (o := k) hs.cE
  have hcd : k < n → W.cell? ⟨bd, k, none⟩ = some (.int .i64 (s.depth.getD k (-1))) := fun h => (cell_of hs.cD).trans (ints_get _ _ (by rw [hs.ld]; exact h) _)
  have hce : k < n → W.cell? ⟨be, k, none⟩ = some (.int .i64 (s.emits.getD k 0)) := fun h => (cell_of hs.cE).trans (ints_get _ _ (by rw [hs.le]; exact h) _)
  have HS := Lib.hid hs
  have HG := Lib.hid hg
  have hmx := run_max Tryz.prog
  clear hs hg
  have HR : Came w0 B bd be bm cd ce (.slice av n cv) n W (Vm.raise s d e) ((W.setCell ⟨B, 1, none⟩ (.int .i64 (max s.mx d))).setCell ⟨B, 2, none⟩ (.int .i64 (max s.em e))) :=
    ⟨(HG.out.set HS.out.hB _).set HS.out.hB _, HS.out.raise d e, ((Others.refl _ _ _ _).set (.inl rfl) _).set (.inl rfl) _⟩
  have HR' := Lib.hid HR
  clear HR
  by_cases hd : 8 < d
  · rw [come_high (.inl hd)]
    clear hcd hce
    go_enter Tryz.func203, Tryz.ntmps203
    go_wp2
    go_region
    go_wp2
    go_ret
    exact ⟨rfl, HR'.out.drew⟩
  by_cases he : 4 < e
  · rw [come_high (.inr he)]
    have hd' : d ≤ 8 := by omega
    clear hcd hce hd
    go_enter Tryz.func203, Tryz.ntmps203
    go_wp2
    go_region
    go_wp2
    go_ret
    exact ⟨rfl, HR'.out.drew⟩
  have hd' : d ≤ 8 := by omega
  have he' : e ≤ 4 := by omega
  clear hd he
  by_cases hkn : k = n
  · subst hkn
    rw [come_end hd' he']
    clear hcd hce
    go_enter Tryz.func203, Tryz.ntmps203
    go_wp2
    go_region
    go_wp2
    go_ret
    exact ⟨rfl, HR'.out.drew⟩
  have hkl : k < n := by omega
  have hkb : ((k : Int) == (n : Int)) = false := by simp; omega
  have hcd' := hcd hkl
  have hce' := hce hkl
  have hoff := come_off (s := s) hd' he' hkl
  have hput := come_put (s := s) hd' he' hkl
  have HP : ∀ x y : Int, Came w0 B bd be bm cd ce (.slice av n cv) n W { Vm.raise s d e with depth := s.depth.set k x, emits := s.emits.set k y } ((((W.setCell ⟨B, 1, none⟩ (.int .i64 (max s.mx d))).setCell ⟨B, 2, none⟩ (.int .i64 (max s.em e))).setCell ⟨bd, k, none⟩ (.int .i64 x)).setCell ⟨be, k, none⟩ (.int .i64 y)) :=
    fun x y => ⟨(HR'.out.grew.set HS.out.hd _).set HS.out.he _, HR'.out.walk.put k x y, (HR'.out.oth.set (.inr (.inl rfl)) _).set (.inr (.inr rfl)) _⟩
  have HP' := Lib.hid HP
  clear HP hcd hce hkn
  generalize s.depth.getD k (-1) = dk at *
  generalize s.emits.getD k 0 = ek at *
  by_cases h1 : dk = -1
  · subst h1
    rw [hput (.inl rfl)]
    clear hput hoff
    have hdn : ((-1 : Int) != -1) = false := by decide
    go_enter Tryz.func203, Tryz.ntmps203
    go_wp2
    go_region
    go_wp2
    go_region
    go_wp2
    go_ret
    first | exact ⟨rfl, HP'.out _ _⟩ | exact ⟨rfl, (HP'.out _ _).drew⟩ | exact ⟨rfl, (HP'.out _ _).drew.drew⟩
  · by_cases h2 : dk = d
    · subst h2
      rw [hput (.inr rfl)]
      clear hput hoff
      have hdn : (dk != -1) = true := by simpa using h1
      have hdd : (dk != dk) = false := by simp
      clear h1
      go_enter Tryz.func203, Tryz.ntmps203
      go_wp2
      go_region
      go_wp2
      go_region
      go_wp2
      go_ret
      first | exact ⟨rfl, HP'.out _ _⟩ | exact ⟨rfl, (HP'.out _ _).drew⟩ | exact ⟨rfl, (HP'.out _ _).drew.drew⟩
    · rw [hoff h1 h2]
      clear hput hoff
      have hdn : (dk != -1) = true := by simpa using h1
      have hdd : (dk != d) = true := by simpa using h2
      clear h1 h2
      go_enter Tryz.func203, Tryz.ntmps203
      go_wp2
      go_region
      go_wp2
      go_ret
      exact ⟨rfl, HR'.out.drew⟩
end Go.Proofs.YtpbohimddmploaaGreat
namespace Go
open Go.Maps (Keyed)
theorem wpList_insert_own {H : Type} {P : Program} {w0 w : World} {ops : Array Oper} {rest : List Oper} {o : Oper} {a : Act} {Q : Exit → Act → World → Prop}
    (hg : o.guard = none) (m x v : Operand) (t : TypeId) (hop : o.op = Op.insert t m x v)
    (k e : TypeId) (K : Keyed P k) (ht : P.underlying t = some (.map k e)) (R : Value → Option (DataW H × List MemPlace)) (b n : Nat) (D : DataW H) (hgr : Grew w0 w) (hb : w0.heap.size ≤ b)
    (hm : a.eval m = .map (some b)) (hown : w.ownsMap P k R b n D) (hn : n < maxLen) (key val : Value) (kl : Lit) (hx : a.eval x = key) (hv : a.eval v = val) (hkey : keyOf P k key = some kl)
    (d : DataW H) (ps : List MemPlace) (hval : R val = some (d, ps))
    (hK : ∀ w', w'.ownsMap P k R b (n + 1) (D.put kl d) → Grew w0 w' → wpList P ops Q rest (a.put o.dst undef) w') :
    wpList P ops Q (o :: rest) a w := by
  refine wpList_plain hg fun K' hK' => ?_
  obtain ⟨w', hrun, r1, r2⟩ := hown.update K ht hn hkey hval
  unfold Oper.wp
  simp [execOp, hop, hm, hx, hv, hrun, Result.andThen]
  exact hK' _ _ (hK w' r1 (hgr.grown r2 (fun k hk => by cases hk; exact hb)))
end Go
namespace Go.Proofs.YtpbohimddmploaaGreat
open Go.RowKit Ga

theorem law_int : Maps.Keyed Tryz.prog 3 := Maps.int_keyed Tryz.underlying3
theorem keyI (x : Int) (h : -9223372036854775808 ≤ x ∧ x ≤ 9223372036854775807) : keyOf Tryz.prog 3 (.int .i64 x) = some (.int .i64 x) := Maps.keyOf_int_mk Tryz.underlying3 (WalkArith.wf_i64 h)

theorem effects_any (w : World) : Calls Tryz.prog 201 #[] w fun e W' => ∃ bm, e = .returned (.map (some bm)) ∧ w.heap.size ≤ bm ∧ EffAt W' bm ∧ Grew w W' := by
  have hmm := @run_makeMap Tryz.prog
  have HOWN := Lib.hid (World.ownsMap_made (H := Unit) w Tryz.prog 3 effR)
  have HG := Lib.hid ((Grew.refl w).alloc (.map #[] 0))
  go_enter Tryz.func201, Tryz.ntmps201
  go_wp2_with (refine wpList_insert_own (w0 := w) rfl (.tmp 1) _ _ 276 rfl 3 306 law_int Tryz.underlying276 effR _ _ _ HG.out (Nat.le_refl _) rfl HOWN.out (by unfold maxLen; omega) _ _ _ rfl rfl (keyI _ (by decide)) _ [] rfl ?_; intro w2 hown2 hg2; replace HOWN := Lib.hid hown2; replace HG := Lib.hid hg2; clear hown2 hg2)
  go_ret
  exact ⟨_, rfl, Nat.le_refl _, HOWN.out, HG.out⟩

def takesI (op : Int) : Int := Vm.takes op
def leavesI (op : Int) : Int := Vm.leaves op
theorem effD_at (op : Int) (h0 : 0 ≤ op) (h1 : op ≤ 17) : effD.atKey (.int .i64 op) (effDat (0, 0)) = effDat (takesI op, leavesI op) := by
  have hc : op = 0 ∨ op = 1 ∨ op = 2 ∨ op = 3 ∨ op = 4 ∨ op = 5 ∨ op = 6 ∨ op = 7 ∨ op = 8 ∨ op = 9 ∨ op = 10 ∨ op = 11 ∨ op = 12 ∨ op = 13 ∨ op = 14 ∨ op = 15 ∨ op = 16 ∨ op = 17 := by omega
  rcases hc with rfl | rfl | rfl | rfl | rfl | rfl | rfl | rfl | rfl | rfl | rfl | rfl | rfl | rfl | rfl | rfl | rfl | rfl <;> rfl
theorem effV_inv {l : List Value} {d : DataW Unit} {ps : List MemPlace} {x : Int × Int} (h : effV l = some (d, ps)) (hd : d = effDat x) : l = [.int .i64 x.1, .int .i64 x.2] := by
  unfold effV at h
  split at h
  · cases h
    unfold effDat at hd
    simp at hd
    rw [hd.1, hd.2]
  · cases h
theorem effR_inv {v : Value} {d : DataW Unit} {ps : List MemPlace} {x : Int × Int} (h : effR v = some (d, ps)) (hd : d = effDat x) : v = .agg #[.int .i64 x.1, .int .i64 x.2] := by
  cases v with
  | agg c =>
    have := effV_inv (l := c.toList) h hd
    cases c
    simp at this
    rw [this]
  | _ => cases h
theorem zeroEff (w : World) : (zeroValue 306).run Tryz.prog w = .ok (.agg #[.int .i64 0, .int .i64 0]) w := by kernel_rfl
theorem eff_look {W : World} {bm : Nat} (h : EffAt W bm) (op : Int) (h0 : 0 ≤ op) (h1 : op ≤ 17) : (Instr.lookup 276 (.map (some bm)) (.int .i64 op) false).run Tryz.prog W = .ok (.agg #[.int .i64 (takesI op), .int .i64 (leavesI op)]) W := by
  obtain ⟨v, ps, h2, h3⟩ := World.ownsMap.lookup h law_int Tryz.underlying276 (zeroEff W) (zd := effDat (0, 0)) (zp := []) rfl (keyI op (by omega))
  rw [effD_at op h0 h1] at h3
  rw [h2, effR_inv (x := (takesI op, leavesI op)) h3 rfl]
end Go.Proofs.YtpbohimddmploaaGreat
