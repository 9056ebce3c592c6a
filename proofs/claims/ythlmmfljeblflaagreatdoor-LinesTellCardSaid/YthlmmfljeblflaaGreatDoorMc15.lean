import Derived.Test.YthlmmfljeblflaaGreatDoorMc11
import Derived.Deep.LoopGhost
/-! cell: there, Set, New. -/
namespace Go.Proofs.YthlmmfljeblflaaGreatDoor
set_option linter.unusedSimpArgs false
set_option linter.unusedVariables false
open Go.RowKit Ga
set_option maxRecDepth 100000

theorem wpList_tabPut {w0 W : World} {ops : Array Oper} {rest : List Oper} {o : Oper} {a : Act} {Q : Exit → Act → World → Prop} {b n : Nat} {M : List Tab.En}
    (hg : o.guard = none) (m k v : Operand) (hop : o.op = Op.mapUpdate 129 m k v) (hgr : Grew w0 W) (hb : w0.heap.size ≤ b)
    (hm : a.eval m = .map (some b)) (h : TabAt W b n M) (hn : n < maxLen) (x : Tab.En) (hx : There x) (hk : a.eval k = ceK x.node x.key) (hv : a.eval v = cev x.c0 x.c1)
    (hK : ∀ W', TabAt W' b (n + 1) (x :: M.filter fun y => Tab.num y != Tab.num x) → Grew w0 W' → Keep b W W' → wpList Tryz.prog ops Q rest (a.put o.dst undef) W') : wpList Tryz.prog ops Q (o :: rest) a W := by
  refine wpList_plain hg fun K' hK' => ?_
  obtain ⟨W', hrun, r1, r2⟩ := h.put hn x hx
  unfold Oper.wp
  simp [execOp, hop, hm, hk, hv, hrun, Result.andThen]
  exact hK' _ _ (hK W' r1 (grew_turned hgr hb r2) (keep_turned r2))
theorem wpList_tabDel {w0 W : World} {ops : Array Oper} {rest : List Oper} {o : Oper} {a : Act} {Q : Exit → Act → World → Prop} {b n : Nat} {M : List Tab.En}
    (hg : o.guard = none) (m k : Operand) (hop : o.op = Op.call { callee := Callee.builtin Builtin.delete, args := #[m, k], argTypes := #[129, 134] }) (hgr : Grew w0 W) (hb : w0.heap.size ≤ b)
    (hm : a.eval m = .map (some b)) (h : TabAt W b n M) (x : Tab.En) (hx : There x) (hk : a.eval k = ceK x.node x.key)
    (hK : ∀ W', TabAt W' b n (M.filter fun y => Tab.num y != Tab.num x) → Grew w0 W' → Keep b W W' → wpList Tryz.prog ops Q rest (a.put o.dst (.tuple #[])) W') : wpList Tryz.prog ops Q (o :: rest) a W := by
  refine wpList_plain hg fun K' hK' => ?_
  obtain ⟨W', hrun, r1, r2⟩ := h.del x hx o.type
  unfold Oper.wp
  simp [execOp, hop, resolve, invoke, builtin, hm, hk, hrun, Result.andThen]
  exact hK' _ _ (hK W' r1 (grew_turned hgr hb r2) (keep_turned r2))
def thereB (n k : Int) : Bool := decide (0 ≤ n) && decide (n < 8) && decide (0 ≤ k) && decide (k < 64)
theorem thereB_iff {x : Tab.En} : thereB x.node x.key = true ↔ There x := by
  unfold thereB There
  simp only [Bool.and_eq_true, decide_eq_true_eq, and_assoc]
set_option maxHeartbeats 4000000 in
theorem there_any (n k : Int) (w : World) : Calls Tryz.prog 109 #[.int .i64 n, .int .i64 k] w fun e w' => e = .returned (.bool (thereB n k)) ∧ w = w' := by
  by_cases h1 : 0 ≤ n
  · by_cases h2 : n < 8
    · by_cases h3 : 0 ≤ k
      · have hb : thereB n k = decide (k < 64) := by unfold thereB; simp [h1, h2, h3]
        rw [hb]
        clear hb
        go_enter Tryz.func109, Tryz.ntmps109
        go_wp2
        go_ret
        exact ⟨rfl, rfl⟩
      · have hb : thereB n k = false := by unfold thereB; simp [h3]
        rw [hb]
        clear hb
        go_enter Tryz.func109, Tryz.ntmps109
        go_wp2
        go_ret
        exact ⟨rfl, rfl⟩
    · have hb : thereB n k = false := by unfold thereB; simp [h2]
      rw [hb]
      clear hb
      go_enter Tryz.func109, Tryz.ntmps109
      go_wp2
      go_ret
      exact ⟨rfl, rfl⟩
  · have hb : thereB n k = false := by unfold thereB; simp [h1]
    rw [hb]
    clear hb
    go_enter Tryz.func109, Tryz.ntmps109
    go_wp2
    go_ret
    exact ⟨rfl, rfl⟩
/-- a table at block t: its map at block b -/
def TableAt (W : World) (t b n : Nat) (m : List Tab.En) : Prop := W.heap[t]? = some (.cells #[.map (some b)] 131) ∧ TabAt W b n m
theorem TableAt.ne {W : World} {t b n : Nat} {m : List Tab.En} (h : TableAt W t b n m) : t ≠ b := fun e => by
  obtain ⟨h1, D, ⟨es, c, h2, -⟩, -⟩ := h
  rw [e, h2] at h1
  cases h1
theorem TableAt.grew {W W' : World} {t b n : Nat} {m : List Tab.En} (h : TableAt W t b n m) (g : Grew W W') : TableAt W' t b n m := ⟨grew_heap g h.1, h.2.grew g⟩
theorem TableAt.more {W : World} {t b n n' : Nat} {m : List Tab.En} (h : TableAt W t b n m) (hn : n ≤ n') : TableAt W t b n' m := ⟨h.1, h.2.more hn⟩
def okEn (x : Tab.En) : Bool := thereB x.node x.key && (rightV x.c0 && rightV x.c1)
/-- the code that Set hands back, and what is kept then -/
def setR (m : List Tab.En) (x : Tab.En) : Int × List Tab.En := if okEn x then (0, Tab.setT m x) else (1, m)
def SetPost (w0 W : World) (t b n : Nat) (r : Int × List Tab.En) (e : Ending) (W' : World) : Prop := e = .returned (.int .i64 r.1) ∧ TableAt W' t b (n + 1) r.2 ∧ Grew w0 W' ∧ Keep b W W'
theorem infoCV : (Tryz.prog.info? 47).map (fun i => (i.zero, i.size, i.bytes)) = some (some (.agg #[.int .i64 0, .int .i64 0]), 2, 16) := by kernel_rfl
theorem right_xy (x y : Int) (w : World) : Calls Tryz.prog 110 #[.agg #[.int .i64 x, .int .i64 y]] w (Gives (.bool (rightV (x, y))) w) := right_any (x, y) w
theorem cellsCV : Tryz.prog.cellsOf 47 = 2 := by kernel_rfl
theorem run_eql_ce (a b c d : Int) (w : World) : (binOp .eql 48 (.agg #[.int .i64 a, .int .i64 b, .int .i64 c, .int .i64 d]) (.agg #[.int .i64 0, .int .i64 0, .int .i64 0, .int .i64 0])).run Tryz.prog w = .ok (.bool (((a, b) : Val) == (0, 0) && ((c, d) : Val) == (0, 0))) w := by
  have h : (Op.equalIn 10000 48 (.agg #[.int .i64 a, .int .i64 b, .int .i64 c, .int .i64 d]) (.agg #[.int .i64 0, .int .i64 0, .int .i64 0, .int .i64 0])).run Tryz.prog w = .ok (((a, b) : Val) == (0, 0) && ((c, d) : Val) == (0, 0)) w := by
    obtain ⟨i, hi, _⟩ := info_parts infoCV
    have h0 := run_equalIn_array (P := Tryz.prog) (w := w) 9999 #[.int .i64 a, .int .i64 b, .int .i64 c, .int .i64 d] #[.int .i64 0, .int .i64 0, .int .i64 0, .int .i64 0] Tryz.underlying48 hi
    rw [h0, show List.range 2 = [0, 1] from rfl, cellsCV]
    simp [Op.eqItems, go_sem, Tryz.underlying47, Tryz.underlying3]
    by_cases h1 : a = 0 <;> by_cases h2 : b = 0 <;> by_cases h3 : c = 0 <;> by_cases h4 : d = 0 <;> simp [h1, h2, h3, h4]
  simp [go_sem, h]
set_option maxHeartbeats 8000000 in
theorem tabSet_any (w0 W : World) (t b n : Nat) (m : List Tab.En) (x : Tab.En) (hT : TableAt W t b n m) (hg : Grew w0 W) (hb : w0.heap.size ≤ b) (hn : n < maxLen) :
    Calls Tryz.prog 74 #[.pointer (some ⟨t, 0, none⟩), .int .i64 x.node, .int .i64 x.key, cev x.c0 x.c1] W (SetPost w0 W t b n (setR m x)) := by
  obtain ⟨nd, ky, ⟨p0, q0⟩, ⟨p1, q1⟩⟩ := x
  have HT := Lib.hid hT
  have HG := Lib.hid hg
  have HN := Lib.hid hn
  have hth := Lib.hid (thereB_iff (x := ⟨nd, ky, (p0, q0), (p1, q1)⟩))
  obtain ⟨r, hr⟩ : ∃ r, setR m ⟨nd, ky, (p0, q0), (p1, q1)⟩ = r := ⟨_, rfl⟩
  rw [hr]
  have HR := Lib.hid hr
  have tc := cell_of (o := 0) hT.1
  simp at tc
  have pt := Pre.mk (heap_lt hT.1)
  have HNE := Lib.hid hT.ne
  clear hT hg hn hr
  show Calls Tryz.prog 74 #[.pointer (some ⟨t, 0, none⟩), .int .i64 nd, .int .i64 ky, .agg #[.int .i64 p0, .int .i64 q0, .int .i64 p1, .int .i64 q1]] W _
  cases h1 : thereB nd ky
  case false =>
    have H1 := Lib.hid h1
    have hrr : r = (1, m) := by rw [← HR.out]; unfold setR okEn; rw [show thereB nd ky = false from h1]; rfl
    subst hrr
    clear h1
    go_enter Tryz.func74, Tryz.ntmps74
    go_wp2_with (go_at_call 109; refine (there_any _ _ _).mono ?_; rintro e w1 ⟨rfl, rfl⟩; rw [H1.out])
    go_ret
    exact ⟨rfl, (HT.out.grew (by repeat (first | with_reducible exact Grew.refl _ | apply Grew.more | apply Grew.alloc | apply Grew.drew | apply Grew.drewN))).more (Nat.le_succ _), HG.out.trans (by repeat (first | with_reducible exact Grew.refl _ | apply Grew.more | apply Grew.alloc | apply Grew.drew | apply Grew.drewN)), Keep.ofGrew (by repeat (first | with_reducible exact Grew.refl _ | apply Grew.more | apply Grew.alloc | apply Grew.drew | apply Grew.drewN))⟩
  cases h2 : rightV (p0, q0)
  case false =>
    have H1 := Lib.hid h1
    have H2 := Lib.hid h2
    have hrr : r = (1, m) := by rw [← HR.out]; unfold setR okEn; rw [show rightV (p0, q0) = false from h2]; simp
    subst hrr
    clear h1 h2
    go_enter Tryz.func74, Tryz.ntmps74
    go_wp2_with (first
      | (go_at_call 109; refine (there_any _ _ _).mono ?_; rintro e w1 ⟨rfl, rfl⟩; rw [H1.out])
      | (go_at_call 110; refine (right_xy _ _ _).mono ?_; rintro e w1 ⟨rfl, R1, n1, rfl⟩; rw [H2.out]))
    go_ret
    exact ⟨rfl, (HT.out.grew (by repeat (first | with_reducible exact Grew.refl _ | apply Grew.more | apply Grew.alloc | apply Grew.drew | apply Grew.drewN))).more (Nat.le_succ _), HG.out.trans (by repeat (first | with_reducible exact Grew.refl _ | apply Grew.more | apply Grew.alloc | apply Grew.drew | apply Grew.drewN)), Keep.ofGrew (by repeat (first | with_reducible exact Grew.refl _ | apply Grew.more | apply Grew.alloc | apply Grew.drew | apply Grew.drewN))⟩
  cases h3 : rightV (p1, q1)
  case false =>
    have H1 := Lib.hid h1
    have H2 := Lib.hid h2
    have H3 := Lib.hid h3
    have hrr : r = (1, m) := by rw [← HR.out]; unfold setR okEn; rw [show rightV (p1, q1) = false from h3]; simp
    subst hrr
    clear h1 h2 h3
    go_enter Tryz.func74, Tryz.ntmps74
    go_wp2_with (first
      | (go_at_call 109; refine (there_any _ _ _).mono ?_; rintro e w1 ⟨rfl, rfl⟩; rw [H1.out])
      | (go_at_call_of 110 (Value.agg #[.int .i64 p0, .int .i64 q0]); refine (right_xy _ _ _).mono ?_; rintro e w1 ⟨rfl, R1, n1, rfl⟩; rw [H2.out])
      | (go_at_call 110; refine (right_xy _ _ _).mono ?_; rintro e w1 ⟨rfl, R2, n2, rfl⟩; rw [H3.out]))
    go_ret
    exact ⟨rfl, (HT.out.grew (by repeat (first | with_reducible exact Grew.refl _ | apply Grew.more | apply Grew.alloc | apply Grew.drew | apply Grew.drewN))).more (Nat.le_succ _), HG.out.trans (by repeat (first | with_reducible exact Grew.refl _ | apply Grew.more | apply Grew.alloc | apply Grew.drew | apply Grew.drewN)), Keep.ofGrew (by repeat (first | with_reducible exact Grew.refl _ | apply Grew.more | apply Grew.alloc | apply Grew.drew | apply Grew.drewN))⟩
  have H1 := Lib.hid h1
  have H2 := Lib.hid h2
  have H3 := Lib.hid h3
  have hx : There ⟨nd, ky, (p0, q0), (p1, q1)⟩ := hth.out.1 h1
  have HX := Lib.hid hx
  have hrr : r = (0, Tab.setT m ⟨nd, ky, (p0, q0), (p1, q1)⟩) := by rw [← HR.out]; unfold setR okEn; rw [show thereB nd ky = true from h1, show rightV (p0, q0) = true from h2, show rightV (p1, q1) = true from h3]; rfl
  subst hrr
  clear h1 h2 h3 hx
  cases hz : (((p0, q0) : Val) == (0, 0) && ((p1, q1) : Val) == (0, 0))
  · have heq := fun W => run_eql_ce p0 q0 p1 q1 W
    rw [hz] at heq
    have hst : Tab.setT m ⟨nd, ky, (p0, q0), (p1, q1)⟩ = ⟨nd, ky, (p0, q0), (p1, q1)⟩ :: m.filter fun y => Tab.num y != Tab.num ⟨nd, ky, (p0, q0), (p1, q1)⟩ := by unfold Tab.setT Tab.nz; rw [hz]; rfl
    have HST := Lib.hid hst
    clear hz hst
    go_enter Tryz.func74, Tryz.ntmps74
    go_upto_region 1 with (first
      | (go_at_call 109; refine (there_any _ _ _).mono ?_; rintro e w1 ⟨rfl, rfl⟩; rw [H1.out])
      | (go_at_call_of 110 (Value.agg #[.int .i64 p0, .int .i64 q0]); refine (right_xy _ _ _).mono ?_; rintro e w1 ⟨rfl, R1, n1, rfl⟩; rw [H2.out])
      | (go_at_call 110; refine (right_xy _ _ _).mono ?_; rintro e w1 ⟨rfl, R2, n2, rfl⟩; rw [H3.out]))
    refine wp_region_seq 8 Tryz.mixed (by kernel_rfl) (by kernel_rfl) ?_
    iterate 8
      apply Seq.val
      focus
        rintro w1 u ⟨R1, n1, rfl⟩ hF
        simp [moreFacts, Fact.more, Oper.deps, Region.binds, List.filter_cons, World.more_drew] at hF
        simp [putFacts, Oper.deps, Region.binds, List.filter_cons, Region.dstOf, Fact.at, Act.put, World.more_drew]
        go_wp2
        exact ⟨by repeat (first | with_reducible exact Grew.refl _ | apply Grew.more | apply Grew.alloc | apply Grew.drew | apply Grew.drewN), rfl, _, _, rfl, rfl, rfl⟩
    rintro u w1 ⟨R1, n1, rfl⟩ hF
    clear hF
    simp [putFacts, Region.dstOf, Fact.at, Act.put, List.range_succ, World.more_drew]
    refine wpList_tabPut (w0 := w0) rfl (.tmp 12) (.tmp 15) (.tmp 16) rfl (HG.out.trans (by repeat (first | with_reducible exact Grew.refl _ | apply Grew.more | apply Grew.alloc | apply Grew.drew | apply Grew.drewN))) hb rfl (HT.out.2.grew (by repeat (first | with_reducible exact Grew.refl _ | apply Grew.more | apply Grew.alloc | apply Grew.drew | apply Grew.drewN))) HN.out ⟨nd, ky, (p0, q0), (p1, q1)⟩ HX.out rfl rfl ?_
    intro W5 h5 g5 k5
    have H5 := Lib.hid h5
    have G5 := Lib.hid g5
    have K5 := Lib.hid k5
    clear h5 g5 k5
    go_wp2
    go_ret
    exact ⟨rfl, ⟨by rw [K5.out.2 t (by have := heap_lt HT.out.1; simp [go_sem]; omega) HNE.out]; exact (HT.out.grew (by repeat (first | with_reducible exact Grew.refl _ | apply Grew.more | apply Grew.alloc | apply Grew.drew | apply Grew.drewN))).1, by rw [HST.out]; exact H5.out⟩, G5.out, (Keep.ofGrew (by repeat (first | with_reducible exact Grew.refl _ | apply Grew.more | apply Grew.alloc | apply Grew.drew | apply Grew.drewN))).trans K5.out⟩
  · have heq := fun W => run_eql_ce p0 q0 p1 q1 W
    rw [hz] at heq
    have hst : Tab.setT m ⟨nd, ky, (p0, q0), (p1, q1)⟩ = m.filter fun y => Tab.num y != Tab.num ⟨nd, ky, (p0, q0), (p1, q1)⟩ := by unfold Tab.setT Tab.nz; rw [hz]; rfl
    have HST := Lib.hid hst
    clear hz hst
    go_enter Tryz.func74, Tryz.ntmps74
    go_wp2_with (first
      | (go_at_call 109; refine (there_any _ _ _).mono ?_; rintro e w1 ⟨rfl, rfl⟩; rw [H1.out])
      | (go_at_call_of 110 (Value.agg #[.int .i64 p0, .int .i64 q0]); refine (right_xy _ _ _).mono ?_; rintro e w1 ⟨rfl, R1, n1, rfl⟩; rw [H2.out])
      | (go_at_call 110; refine (right_xy _ _ _).mono ?_; rintro e w1 ⟨rfl, R2, n2, rfl⟩; rw [H3.out])
      | (refine wpList_tabDel (w0 := w0) rfl (.tmp 45) (.tmp 48) rfl (HG.out.trans (by repeat (first | with_reducible exact Grew.refl _ | apply Grew.more | apply Grew.alloc | apply Grew.drew | apply Grew.drewN))) hb rfl (HT.out.2.grew (by repeat (first | with_reducible exact Grew.refl _ | apply Grew.more | apply Grew.alloc | apply Grew.drew | apply Grew.drewN))) ⟨nd, ky, (p0, q0), (p1, q1)⟩ HX.out rfl ?_; intro W5 h5 g5 k5; (have H5 := Lib.hid h5); (have G5 := Lib.hid g5); (have K5 := Lib.hid k5); clear h5 g5 k5))
    go_ret
    exact ⟨rfl, ⟨by rw [K5.out.2 t (by have := heap_lt HT.out.1; simp [go_sem]; omega) HNE.out]; exact (HT.out.grew (by repeat (first | with_reducible exact Grew.refl _ | apply Grew.more | apply Grew.alloc | apply Grew.drew | apply Grew.drewN))).1, by rw [HST.out]; exact H5.out.more (Nat.le_succ _)⟩, G5.out, (Keep.ofGrew (by repeat (first | with_reducible exact Grew.refl _ | apply Grew.more | apply Grew.alloc | apply Grew.drew | apply Grew.drewN))).trans K5.out⟩
end Go.Proofs.YthlmmfljeblflaaGreatDoor
