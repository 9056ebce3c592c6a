import Derived.Test.YtmdmbimfdpngaaaGreatMs5
import Derived.Deep.LoopGhost
/-! cell: there, Set, New. -/
namespace Go.Proofs.YtmdmbimfdpngaaaGreat
set_option linter.unusedSimpArgs false
set_option linter.unusedVariables false
open Go.RowKit Ga
set_option maxRecDepth 100000

theorem wpList_tabPut {w0 W : World} {ops : Array Oper} {rest : List Oper} {o : Oper} {a : Act} {Q : Exit → Act → World → Prop} {b n : Nat} {M : List Tab.En}
    (hg : o.guard = none) (m k v : Operand) (hop : o.op = Op.mapUpdate 183 m k v) (hgr : Grew w0 W) (hb : w0.heap.size ≤ b)
    (hm : a.eval m = .map (some b)) (h : TabAt W b n M) (hn : n < maxLen) (x : Tab.En) (hx : There x) (hk : a.eval k = ceK x.node x.key) (hv : a.eval v = cev x.c0 x.c1)
    (hK : ∀ W', TabAt W' b (n + 1) (x :: M.filter fun y => Tab.num y != Tab.num x) → Grew w0 W' → Keep b W W' → wpList Tryz.prog ops Q rest (a.put o.dst undef) W') : wpList Tryz.prog ops Q (o :: rest) a W := by
  refine wpList_plain hg fun K' hK' => ?_
  obtain ⟨W', hrun, r1, r2⟩ := h.put hn x hx
  unfold Oper.wp
  simp [execOp, hop, hm, hk, hv, hrun, Result.andThen]
  exact hK' _ _ (hK W' r1 (grew_turned hgr hb r2) (keep_turned r2))
theorem wpList_tabDel {w0 W : World} {ops : Array Oper} {rest : List Oper} {o : Oper} {a : Act} {Q : Exit → Act → World → Prop} {b n : Nat} {M : List Tab.En}
    (hg : o.guard = none) (m k : Operand) (hop : o.op = Op.call { callee := Callee.builtin Builtin.delete, args := #[m, k], argTypes := #[183, 165] }) (hgr : Grew w0 W) (hb : w0.heap.size ≤ b)
    (hm : a.eval m = .map (some b)) (h : TabAt W b n M) (x : Tab.En) (hx : There x) (hk : a.eval k = ceK x.node x.key)
    (hK : ∀ W', TabAt W' b n (M.filter fun y => Tab.num y != Tab.num x) → Grew w0 W' → Keep b W W' → wpList Tryz.prog ops Q rest (a.put o.dst (.tuple #[])) W') : wpList Tryz.prog ops Q (o :: rest) a W := by
  refine wpList_plain hg fun K' hK' => ?_
  obtain ⟨W', hrun, r1, r2⟩ := h.del x hx o.type
  unfold Oper.wp
  simp [execOp, hop, resolve, invoke, builtin, hm, hk, hrun, Result.andThen]
  exact hK' _ _ (hK W' r1 (grew_turned hgr hb r2) (keep_turned r2))
def thereB (n k : Int) : Bool := decide (0 ≤ n) && decide (n < 8) && decide (0 ≤ k) && decide (k < 64)
theorem thereB_iff {x : Tab.En} : thereB x.node x.key = true ↔ There x := by
  unfold thereB There
  simp only [Bool.and_eq_true, decide_eq_true_eq, and_assoc]
set_option maxHeartbeats 4000000 in
theorem there_any (n k : Int) (w : World) : Calls Tryz.prog 139 #[.int .i64 n, .int .i64 k] w fun e w' => e = .returned (.bool (thereB n k)) ∧ w = w' := by
  by_cases h1 : 0 ≤ n
  · by_cases h2 : n < 8
    · by_cases h3 : 0 ≤ k
      · have hb : thereB n k = decide (k < 64) := by unfold thereB; simp [h1, h2, h3]
        rw [hb]
        clear hb
        go_enter Tryz.func139, Tryz.ntmps139
        go_wp2
        go_ret
        exact ⟨rfl, rfl⟩
      · have hb : thereB n k = false := by unfold thereB; simp [h3]
        rw [hb]
        clear hb
        go_enter Tryz.func139, Tryz.ntmps139
        go_wp2
        go_ret
        exact ⟨rfl, rfl⟩
    · have hb : thereB n k = false := by unfold thereB; simp [h2]
      rw [hb]
      clear hb
      go_enter Tryz.func139, Tryz.ntmps139
      go_wp2
      go_ret
      exact ⟨rfl, rfl⟩
  · have hb : thereB n k = false := by unfold thereB; simp [h1]
    rw [hb]
    clear hb
    go_enter Tryz.func139, Tryz.ntmps139
    go_wp2
    go_ret
    exact ⟨rfl, rfl⟩
/-- a table at block t: its map at block b -/
def TableAt (W : World) (t b n : Nat) (m : List Tab.En) : Prop := W.heap[t]? = some (.cells #[.map (some b)] 185) ∧ TabAt W b n m
theorem TableAt.ne {W : World} {t b n : Nat} {m : List Tab.En} (h : TableAt W t b n m) : t ≠ b := fun e => by
  obtain ⟨h1, D, ⟨es, c, h2, -⟩, -⟩ := h
  rw [e, h2] at h1
  cases h1
theorem TableAt.grew {W W' : World} {t b n : Nat} {m : List Tab.En} (h : TableAt W t b n m) (g : Grew W W') : TableAt W' t b n m := ⟨grew_heap g h.1, h.2.grew g⟩
theorem TableAt.more {W : World} {t b n n' : Nat} {m : List Tab.En} (h : TableAt W t b n m) (hn : n ≤ n') : TableAt W t b n' m := ⟨h.1, h.2.more hn⟩
def okEn (x : Tab.En) : Bool := thereB x.node x.key && (rightV x.c0 && rightV x.c1)
/-- the code that Set hands back, and what is kept then -/
def setR (m : List Tab.En) (x : Tab.En) : Int × List Tab.En := if okEn x then (0, Tab.setT m x) else (1, m)
def SetPost (w0 W : World) (t b n : Nat) (r : Int × List Tab.En) (e : Ending) (W' : World) : Prop := e = .returned (.int .i64 r.1) ∧ TableAt W' t b (n + 1) r.2 ∧ Grew w0 W' ∧ Keep b W W'
theorem infoCV : (Tryz.prog.info? 44).map (fun i => (i.zero, i.size, i.bytes)) = some (some (.agg #[.int .i64 0, .int .i64 0]), 2, 16) := by kernel_rfl
theorem right_xy (x y : Int) (w : World) : Calls Tryz.prog 94 #[.agg #[.int .i64 x, .int .i64 y]] w (Gives (.bool (rightV (x, y))) w) := right_any (x, y) w
theorem cellsCV : Tryz.prog.cellsOf 44 = 2 := by kernel_rfl
theorem run_eql_ce (a b c d : Int) (w : World) : (binOp .eql 45 (.agg #[.int .i64 a, .int .i64 b, .int .i64 c, .int .i64 d]) (.agg #[.int .i64 0, .int .i64 0, .int .i64 0, .int .i64 0])).run Tryz.prog w = .ok (.bool (((a, b) : Val) == (0, 0) && ((c, d) : Val) == (0, 0))) w := by
  have h : (Op.equalIn 10000 45 (.agg #[.int .i64 a, .int .i64 b, .int .i64 c, .int .i64 d]) (.agg #[.int .i64 0, .int .i64 0, .int .i64 0, .int .i64 0])).run Tryz.prog w = .ok (((a, b) : Val) == (0, 0) && ((c, d) : Val) == (0, 0)) w := by
    obtain ⟨i, hi, _⟩ := info_parts infoCV
    have h0 := run_equalIn_array (P := Tryz.prog) (w := w) 9999 #[.int .i64 a, .int .i64 b, .int .i64 c, .int .i64 d] #[.int .i64 0, .int .i64 0, .int .i64 0, .int .i64 0] Tryz.underlying45 hi
    rw [h0, show List.range 2 = [0, 1] from rfl, cellsCV]
    simp [Op.eqItems, go_sem, Tryz.underlying44, Tryz.underlying3]
    by_cases h1 : a = 0 <;> by_cases h2 : b = 0 <;> by_cases h3 : c = 0 <;> by_cases h4 : d = 0 <;> simp [h1, h2, h3, h4]
  simp [go_sem, h]
set_option maxHeartbeats 8000000 in
theorem tabSet_any (w0 W : World) (t b n : Nat) (m : List Tab.En) (x : Tab.En) (hT : TableAt W t b n m) (hg : Grew w0 W) (hb : w0.heap.size ≤ b) (hn : n < maxLen) :
    Calls Tryz.prog 115 #[.pointer (some ⟨t, 0, none⟩), .int .i64 x.node, .int .i64 x.key, cev x.c0 x.c1] W (SetPost w0 W t b n (setR m x)) := by
  obtain ⟨nd, ky, ⟨p0, q0⟩, ⟨p1, q1⟩⟩ := x
  have HT := Lib.hid hT
  have HG := Lib.hid hg
  have HN := Lib.hid hn
  have hth := Lib.hid (thereB_iff (x := ⟨nd, ky, (p0, q0), (p1, q1)⟩))
  obtain ⟨r, hr⟩ : ∃ r, setR m ⟨nd, ky, (p0, q0), (p1, q1)⟩ = r := ⟨_, rfl⟩
  rw [hr]
  have HR := Lib.hid hr
  have tc := cell_of (o := 0) hT.1
  simp at tc
  have pt := Pre.mk (heap_lt hT.1)
  have HNE := Lib.hid hT.ne
  clear hT hg hn hr
  show Calls Tryz.prog 115 #[.pointer (some ⟨t, 0, none⟩), .int .i64 nd, .int .i64 ky, .agg #[.int .i64 p0, .int .i64 q0, .int .i64 p1, .int .i64 q1]] W _
  cases h1 : thereB nd ky
  case false =>
    have H1 := Lib.hid h1
    have hrr : r = (1, m) := by rw [← HR.out]; unfold setR okEn; rw [show thereB nd ky = false from h1]; rfl
    subst hrr
    clear h1
    go_enter Tryz.func115, Tryz.ntmps115
    go_wp2_with (go_at_call 139; refine (there_any _ _ _).mono ?_; rintro e w1 ⟨rfl, rfl⟩; rw [H1.out])
    go_ret
    exact ⟨rfl, (HT.out.grew (by repeat (first | with_reducible exact Grew.refl _ | apply Grew.more | apply Grew.alloc | apply Grew.drew | apply Grew.drewN))).more (Nat.le_succ _), HG.out.trans (by repeat (first | with_reducible exact Grew.refl _ | apply Grew.more | apply Grew.alloc | apply Grew.drew | apply Grew.drewN)), Keep.ofGrew (by repeat (first | with_reducible exact Grew.refl _ | apply Grew.more | apply Grew.alloc | apply Grew.drew | apply Grew.drewN))⟩
  cases h2 : rightV (p0, q0)
  case false =>
    have H1 := Lib.hid h1
    have H2 := Lib.hid h2
    have hrr : r = (1, m) := by rw [← HR.out]; unfold setR okEn; rw [show rightV (p0, q0) = false from h2]; simp
    subst hrr
    clear h1 h2
    go_enter Tryz.func115, Tryz.ntmps115
    go_wp2_with (first
      | (go_at_call 139; refine (there_any _ _ _).mono ?_; rintro e w1 ⟨rfl, rfl⟩; rw [H1.out])
      | (go_at_call 94; refine (right_xy _ _ _).mono ?_; rintro e w1 ⟨rfl, R1, n1, rfl⟩; rw [H2.out]))
    go_ret
    exact ⟨rfl, (HT.out.grew (by repeat (first | with_reducible exact Grew.refl _ | apply Grew.more | apply Grew.alloc | apply Grew.drew | apply Grew.drewN))).more (Nat.le_succ _), HG.out.trans (by repeat (first | with_reducible exact Grew.refl _ | apply Grew.more | apply Grew.alloc | apply Grew.drew | apply Grew.drewN)), Keep.ofGrew (by repeat (first | with_reducible exact Grew.refl _ | apply Grew.more | apply Grew.alloc | apply Grew.drew | apply Grew.drewN))⟩
  cases h3 : rightV (p1, q1)
  case false =>
    have H1 := Lib.hid h1
    have H2 := Lib.hid h2
    have H3 := Lib.hid h3
    have hrr : r = (1, m) := by rw [← HR.out]; unfold setR okEn; rw [show rightV (p1, q1) = false from h3]; simp
    subst hrr
    clear h1 h2 h3
    go_enter Tryz.func115, Tryz.ntmps115
    go_wp2_with (first
      | (go_at_call 139; refine (there_any _ _ _).mono ?_; rintro e w1 ⟨rfl, rfl⟩; rw [H1.out])
      | (go_at_call_of 94 (Value.agg #[.int .i64 p0, .int .i64 q0]); refine (right_xy _ _ _).mono ?_; rintro e w1 ⟨rfl, R1, n1, rfl⟩; rw [H2.out])
      | (go_at_call 94; refine (right_xy _ _ _).mono ?_; rintro e w1 ⟨rfl, R2, n2, rfl⟩; rw [H3.out]))
    go_ret
    exact ⟨rfl, (HT.out.grew (by repeat (first | with_reducible exact Grew.refl _ | apply Grew.more | apply Grew.alloc | apply Grew.drew | apply Grew.drewN))).more (Nat.le_succ _), HG.out.trans (by repeat (first | with_reducible exact Grew.refl _ | apply Grew.more | apply Grew.alloc | apply Grew.drew | apply Grew.drewN)), Keep.ofGrew (by repeat (first | with_reducible exact Grew.refl _ | apply Grew.more | apply Grew.alloc | apply Grew.drew | apply Grew.drewN))⟩
  have H1 := Lib.hid h1
  have H2 := Lib.hid h2
  have H3 := Lib.hid h3
  have hx : There ⟨nd, ky, (p0, q0), (p1, q1)⟩ := hth.out.1 h1
  have HX := Lib.hid hx
  have hrr : r = (0, Tab.setT m ⟨nd, ky, (p0, q0), (p1, q1)⟩) := by rw [← HR.out]; unfold setR okEn; rw [show thereB nd ky = true from h1, show rightV (p0, q0) = true from h2, show rightV (p1, q1) = true from h3]; rfl
  subst hrr
  clear h1 h2 h3 hx
  cases hz : (((p0, q0) : Val) == (0, 0) && ((p1, q1) : Val) == (0, 0))
  · have heq := fun W => run_eql_ce p0 q0 p1 q1 W
    rw [hz] at heq
    have hst : Tab.setT m ⟨nd, ky, (p0, q0), (p1, q1)⟩ = ⟨nd, ky, (p0, q0), (p1, q1)⟩ :: m.filter fun y => Tab.num y != Tab.num ⟨nd, ky, (p0, q0), (p1, q1)⟩ := by unfold Tab.setT Tab.nz; rw [hz]; rfl
    have HST := Lib.hid hst
    clear hz hst
    go_enter Tryz.func115, Tryz.ntmps115
    go_upto_region 1 with (first
      | (go_at_call 139; refine (there_any _ _ _).mono ?_; rintro e w1 ⟨rfl, rfl⟩; rw [H1.out])
      | (go_at_call_of 94 (Value.agg #[.int .i64 p0, .int .i64 q0]); refine (right_xy _ _ _).mono ?_; rintro e w1 ⟨rfl, R1, n1, rfl⟩; rw [H2.out])
      | (go_at_call 94; refine (right_xy _ _ _).mono ?_; rintro e w1 ⟨rfl, R2, n2, rfl⟩; rw [H3.out]))
    refine wp_region_seq 8 Tryz.mixed (by kernel_rfl) (by kernel_rfl) ?_
    iterate 8
      apply Seq.val
      focus
        rintro w1 u ⟨R1, n1, rfl⟩ hF
        simp [moreFacts, Fact.more, Oper.deps, Region.binds, List.filter_cons, World.more_drew] at hF
        simp [putFacts, Oper.deps, Region.binds, List.filter_cons, Region.dstOf, Fact.at, Act.put, World.more_drew]
        go_wp2
        exact ⟨by repeat (first | with_reducible exact Grew.refl _ | apply Grew.more | apply Grew.alloc | apply Grew.drew | apply Grew.drewN), rfl, _, _, rfl, rfl, rfl⟩
    rintro u w1 ⟨R1, n1, rfl⟩ hF
    clear hF
    simp [putFacts, Region.dstOf, Fact.at, Act.put, List.range_succ, World.more_drew]
    refine wpList_tabPut (w0 := w0) rfl (.tmp 12) (.tmp 15) (.tmp 16) rfl (HG.out.trans (by repeat (first | with_reducible exact Grew.refl _ | apply Grew.more | apply Grew.alloc | apply Grew.drew | apply Grew.drewN))) hb rfl (HT.out.2.grew (by repeat (first | with_reducible exact Grew.refl _ | apply Grew.more | apply Grew.alloc | apply Grew.drew | apply Grew.drewN))) HN.out ⟨nd, ky, (p0, q0), (p1, q1)⟩ HX.out rfl rfl ?_
    intro W5 h5 g5 k5
    have H5 := Lib.hid h5
    have G5 := Lib.hid g5
    have K5 := Lib.hid k5
    clear h5 g5 k5
    go_wp2
    go_ret
    exact ⟨rfl, ⟨by rw [K5.out.2 t (by have := heap_lt HT.out.1; simp [go_sem]; omega) HNE.out]; exact (HT.out.grew (by repeat (first | with_reducible exact Grew.refl _ | apply Grew.more | apply Grew.alloc | apply Grew.drew | apply Grew.drewN))).1, by rw [HST.out]; exact H5.out⟩, G5.out, (Keep.ofGrew (by repeat (first | with_reducible exact Grew.refl _ | apply Grew.more | apply Grew.alloc | apply Grew.drew | apply Grew.drewN))).trans K5.out⟩
  · have heq := fun W => run_eql_ce p0 q0 p1 q1 W
    rw [hz] at heq
    have hst : Tab.setT m ⟨nd, ky, (p0, q0), (p1, q1)⟩ = m.filter fun y => Tab.num y != Tab.num ⟨nd, ky, (p0, q0), (p1, q1)⟩ := by unfold Tab.setT Tab.nz; rw [hz]; rfl
    have HST := Lib.hid hst
    clear hz hst
    go_enter Tryz.func115, Tryz.ntmps115
    go_wp2_with (first
      | (go_at_call 139; refine (there_any _ _ _).mono ?_; rintro e w1 ⟨rfl, rfl⟩; rw [H1.out])
      | (go_at_call_of 94 (Value.agg #[.int .i64 p0, .int .i64 q0]); refine (right_xy _ _ _).mono ?_; rintro e w1 ⟨rfl, R1, n1, rfl⟩; rw [H2.out])
      | (go_at_call 94; refine (right_xy _ _ _).mono ?_; rintro e w1 ⟨rfl, R2, n2, rfl⟩; rw [H3.out])
      | (refine wpList_tabDel (w0 := w0) rfl (.tmp 45) (.tmp 48) rfl (HG.out.trans (by repeat (first | with_reducible exact Grew.refl _ | apply Grew.more | apply Grew.alloc | apply Grew.drew | apply Grew.drewN))) hb rfl (HT.out.2.grew (by repeat (first | with_reducible exact Grew.refl _ | apply Grew.more | apply Grew.alloc | apply Grew.drew | apply Grew.drewN))) ⟨nd, ky, (p0, q0), (p1, q1)⟩ HX.out rfl ?_; intro W5 h5 g5 k5; (have H5 := Lib.hid h5); (have G5 := Lib.hid g5); (have K5 := Lib.hid k5); clear h5 g5 k5))
    go_ret
    exact ⟨rfl, ⟨by rw [K5.out.2 t (by have := heap_lt HT.out.1; simp [go_sem]; omega) HNE.out]; exact (HT.out.grew (by repeat (first | with_reducible exact Grew.refl _ | apply Grew.more | apply Grew.alloc | apply Grew.drew | apply Grew.drewN))).1, by rw [HST.out]; exact H5.out.more (Nat.le_succ _)⟩, G5.out, (Keep.ofGrew (by repeat (first | with_reducible exact Grew.refl _ | apply Grew.more | apply Grew.alloc | apply Grew.drew | apply Grew.drewN))).trans K5.out⟩
end Go.Proofs.YtmdmbimfdpngaaaGreat

/-! cell.New: a table made of entries. -/
namespace Go.Proofs.YtmdmbimfdpngaaaGreat
set_option linter.unusedSimpArgs false
set_option linter.unusedVariables false
open Go.RowKit Ga
set_option maxRecDepth 100000

/-- an entry as it lies -/
def encEn (x : Tab.En) : List Value := [.int .i64 x.node, .int .i64 x.key, .int .i64 x.c0.1, .int .i64 x.c0.2, .int .i64 x.c1.1, .int .i64 x.c1.2]
theorem encEn_len (x : Tab.En) : (encEn x).length = 6 := rfl
theorem encEn_one (x : Tab.En) : ∀ u ∈ encEn x, u.oneCell' = true := by
  intro u hu
  simp [encEn] at hu
  rcases hu with rfl | rfl | rfl | rfl | rfl | rfl <;> rfl
abbrev EntsAt (w : World) (v : Value) (l : List Tab.En) : Prop := RowsAt 6 encEn w v l
theorem EntsAt.open6 {w : World} {v : Value} {l : List Tab.En} (h : EntsAt w v l) : ∃ a cap, v = .slice a l.length cap ∧ l.length ≤ 9223372036854775807 ∧ ∀ i (hi : i < l.length), ∃ b off, a = some ⟨b, off, none⟩ ∧ Pre b w ∧
    w.cell? ⟨b, off + i * 6, none⟩ = some (.int .i64 l[i].node) ∧ w.cell? ⟨b, off + i * 6 + 1, none⟩ = some (.int .i64 l[i].key) ∧ w.cell? ⟨b, off + i * 6 + 2, none⟩ = some (.int .i64 l[i].c0.1) ∧ w.cell? ⟨b, off + i * 6 + 3, none⟩ = some (.int .i64 l[i].c0.2) ∧ w.cell? ⟨b, off + i * 6 + 4, none⟩ = some (.int .i64 l[i].c1.1) ∧ w.cell? ⟨b, off + i * 6 + 5, none⟩ = some (.int .i64 l[i].c1.2) := by
  obtain ⟨a, cap, rfl, hm, hx⟩ := h
  refine ⟨a, cap, rfl, by unfold maxLen at hm; omega, fun i hi => ?_⟩
  obtain ⟨b, off, rfl, hc⟩ := hx (by intro e; subst e; simp at hi)
  have hj := fun j u => hc i l[i] (List.getElem?_eq_getElem hi) j u
  have h0 := hj 0 _ rfl
  exact ⟨b, off, rfl, Pre.mk (World.block_lt_of_cell? w _ h0), h0, hj 1 _ rfl, hj 2 _ rfl, hj 3 _ rfl, hj 4 _ rfl, hj 5 _ rfl⟩
theorem tabSet_c (w0 W : World) (t b n : Nat) (m : List Tab.En) (nd ky p0 q0 p1 q1 : Int) (hT : TableAt W t b n m) (hg : Grew w0 W) (hb : w0.heap.size ≤ b) (hn : n < maxLen) :
    Calls Tryz.prog 115 #[.pointer (some ⟨t, 0, none⟩), .int .i64 nd, .int .i64 ky, .agg #[.int .i64 p0, .int .i64 q0, .int .i64 p1, .int .i64 q1]] W (SetPost w0 W t b n (setR m ⟨nd, ky, (p0, q0), (p1, q1)⟩)) := tabSet_any w0 W t b n m ⟨nd, ky, (p0, q0), (p1, q1)⟩ hT hg hb hn
def newOk (l : List Tab.En) : Bool := l.all okEn
theorem newOk_false {l : List Tab.En} {k : Nat} (hk : k < l.length) (h : okEn l[k] = false) : newOk l = false := by
  unfold newOk
  rw [List.all_eq_false]
  exact ⟨_, List.getElem_mem hk, by rw [h]; simp⟩
theorem newT_succ {l : List Tab.En} {k : Nat} (hk : k < l.length) : Tab.newT (l.take (k + 1)) = Tab.setT (Tab.newT (l.take k)) l[k] := by
  rw [List.take_succ_eq_append_getElem hk, Tab.newT_snoc]
/-- a table, or none -/
def NewPost (l : List Tab.En) (w : World) (e : Ending) (w' : World) : Prop :=
  (newOk l = true ∧ ∃ t b, e = .returned (.tuple #[.pointer (some ⟨t, 0, none⟩), .int .i64 0]) ∧ TableAt w' t b l.length (Tab.newT l) ∧ w.heap.size ≤ t ∧ w.heap.size ≤ b ∧ Grew w w') ∨
  (newOk l = false ∧ e = .returned (.tuple #[.pointer none, .int .i64 1]) ∧ Grew w w')
set_option maxHeartbeats 8000000 in
theorem tabNew_any (v : Value) (l : List Tab.En) (w : World) (hv : EntsAt w v l) (hl : l.length ≤ 100000) : Calls Tryz.prog 83 #[v] w (NewPost l w) := by
  have HV := Lib.hid hv
  obtain ⟨a, cap, rfl, hm, -⟩ := EntsAt.open6 hv
  have hmm := @run_makeMap Tryz.prog
  clear hv
  go_enter Tryz.func83, Tryz.ntmps83
  go_wp2
  have HT0 : Hid (TableAt ((w.alloc (.map #[] 0)).alloc (.cells #[.map (some w.heap.size)] 185)) (w.heap.size + 1) w.heap.size 0 []) := Lib.hid ⟨heap_new_at _ _ _ (by simp [World.size_alloc]), (TabAt.made w).grew (by repeat (first | with_reducible exact Grew.refl _ | apply Grew.more | apply Grew.alloc | apply Grew.drew | apply Grew.drewN))⟩
  clear hmm
  go_loopg [13] l.length (fun gg s13 wr => ∃ k : Nat, k ≤ l.length ∧ l.length - k ≤ gg ∧ s13 = .int .i64 k ∧ Hid (TableAt wr (w.heap.size + 1) w.heap.size k (Tab.newT (l.take k))) ∧ Hid (Grew w wr) ∧ Hid (∀ i (h : i < l.length), i < k → okEn l[i] = true))
  case atStart => exact ⟨0, by omega, by omega, rfl, HT0, Lib.hid (by repeat (first | with_reducible exact Grew.refl _ | apply Grew.more | apply Grew.alloc | apply Grew.drew | apply Grew.drewN)), Lib.hid fun i _ h => by omega⟩
  case round =>
    obtain ⟨k, hk, hgg, rfl, HT, HG, HOK⟩ := hrel
    by_cases hlt : k < l.length
    · obtain ⟨a', cap', e, -, hx⟩ := EntsAt.open6 (HV.out.grew HG.out)
      cases e
      obtain ⟨b, off, rfl, hb, c0, c1, c2, c3, c4, c5⟩ := hx k hlt
      have HNS := Lib.hid (newT_succ hlt)
      have HNF := Lib.hid fun h => newOk_false hlt h
      have HKX : Hid (okEn l[k] = true → ∀ i (hi : i < l.length), i < k + 1 → okEn l[i] = true) := Lib.hid fun h i hi h2 => (Nat.lt_or_ge i k).elim (HOK.out i hi) fun h3 => by
        obtain rfl : i = k := by omega
        exact h
      clear hx
      generalize l[k] = x at *
      obtain ⟨nd, ky, ⟨p0, q0⟩, ⟨p1, q1⟩⟩ := x
      simp only at c0 c1 c2 c3 c4 c5
      have HS := Lib.hid fun W (g : Grew wr W) => tabSet_c w W (w.heap.size + 1) w.heap.size k _ nd ky p0 q0 p1 q1 (HT.out.grew g) (HG.out.trans g) (Nat.le_refl _) (by unfold maxLen; omega)
      cases hok : okEn ⟨nd, ky, (p0, q0), (p1, q1)⟩
      · have hr : setR (Tab.newT (l.take k)) ⟨nd, ky, (p0, q0), (p1, q1)⟩ = (1, Tab.newT (l.take k)) := by unfold setR; rw [hok]; rfl
        rw [hr] at HS
        have HNF2 := Lib.hid (HNF.out hok)
        clear hok hr
        go_wp2_with (go_at_call 115; refine (HS.out _ (by repeat (first | with_reducible exact Grew.refl _ | apply Grew.more | apply Grew.alloc | apply Grew.drew | apply Grew.drewN))).mono ?_; rintro e w1 ⟨rfl, h1, hg1, hk1⟩; (have HG1 := Lib.hid hg1); clear h1 hg1 hk1; simp only)
        go_ret2
        exact .inr ⟨HNF2.out, rfl, HG1.out⟩
      · have hr : setR (Tab.newT (l.take k)) ⟨nd, ky, (p0, q0), (p1, q1)⟩ = (0, Tab.setT (Tab.newT (l.take k)) ⟨nd, ky, (p0, q0), (p1, q1)⟩) := by unfold setR; rw [hok]; rfl
        rw [hr] at HS
        have HKX2 := Lib.hid (HKX.out hok)
        clear hok hr
        go_wp2_with (go_at_call 115; refine (HS.out _ (by repeat (first | with_reducible exact Grew.refl _ | apply Grew.more | apply Grew.alloc | apply Grew.drew | apply Grew.drewN))).mono ?_; rintro e w1 ⟨rfl, h1, hg1, hk1⟩; (have HG1 := Lib.hid hg1); (have HT1 := Lib.hid h1); clear h1 hg1 hk1; simp only)
        go_roundg (l.length - (k + 1))
        case measure => omega
        case rel => exact ⟨k + 1, by omega, by omega, by go_num, Lib.hid (by rw [HNS.out]; exact HT1.out), HG1, HKX2⟩
    · obtain rfl : k = l.length := by omega
      have hT := HT.out
      rw [List.take_length] at hT
      have HT9 := Lib.hid hT
      clear hT
      go_wp2
      go_ret2
      refine .inl ⟨?_, _, _, rfl, HT9.out, by omega, Nat.le_refl _, HG.out⟩
      unfold newOk
      rw [List.all_eq_true]
      intro x hx
      obtain ⟨i, hi, rfl⟩ := List.mem_iff_getElem.1 hx
      exact HOK.out i hi hi
end Go.Proofs.YtmdmbimfdpngaaaGreat
