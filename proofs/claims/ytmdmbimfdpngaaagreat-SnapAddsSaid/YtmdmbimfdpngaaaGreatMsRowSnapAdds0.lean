import Derived.Test.YtmdmbimfdpngaaaGreatMs48
import Derived.Test.YtmdmbimfdpngaaaGreatMs42
import Derived.Test.YtmdmbimfdpngaaaGreatMs40
/-! Acknowledgements in memory; forebaylaw22.great; a gathering that is not there; the tasks that have come, as the law keeps them. -/
namespace Go.Proofs.YtmdmbimfdpngaaaGreat
set_option linter.unusedSimpArgs false
set_option linter.unusedVariables false
open Go.RowKit Ga
set_option maxRecDepth 100000

def encAk (c : AkC) : List Value := [.int .i64 c.node, .int .i64 c.ix, .int .i64 c.ep, .slice c.ae c.ne c.ce, .slice c.ax c.nx c.cx, .int .i64 c.off]
abbrev AcksAt (w : World) (v : Value) (l : List AkC) : Prop := RowsAt 6 encAk w v l
theorem AcksAt.open6 {w : World} {v : Value} {l : List AkC} (h : AcksAt w v l) : ∃ a cap, v = .slice a l.length cap ∧ l.length ≤ 9223372036854775807 ∧ ∀ i (hi : i < l.length), ∃ b off, a = some ⟨b, off, none⟩ ∧ Pre b w ∧
    w.cell? ⟨b, off + i * 6, none⟩ = some (.int .i64 l[i].node) ∧ w.cell? ⟨b, off + i * 6 + 1, none⟩ = some (.int .i64 l[i].ix) ∧ w.cell? ⟨b, off + i * 6 + 2, none⟩ = some (.int .i64 l[i].ep) ∧
    w.cell? ⟨b, off + i * 6 + 3, none⟩ = some (.slice l[i].ae l[i].ne l[i].ce) ∧ w.cell? ⟨b, off + i * 6 + 4, none⟩ = some (.slice l[i].ax l[i].nx l[i].cx) ∧ w.cell? ⟨b, off + i * 6 + 5, none⟩ = some (.int .i64 l[i].off) := by
  obtain ⟨a, cap, rfl, hm, hx⟩ := h
  refine ⟨a, cap, rfl, by unfold maxLen at hm; omega, fun i hi => ?_⟩
  obtain ⟨b, off, rfl, hc⟩ := hx (by intro e; subst e; simp at hi)
  have hj := fun j u => hc i l[i] (List.getElem?_eq_getElem hi) j u
  have h0 := hj 0 _ rfl
  exact ⟨b, off, rfl, Pre.mk (World.block_lt_of_cell? w _ h0), h0, hj 1 _ rfl, hj 2 _ rfl, hj 3 _ rfl, hj 4 _ rfl, hj 5 _ rfl⟩
def greatA (c : AkC) : Bool := decide (60 < c.ne) || decide (60 < c.nx)
def greatL (g : List Gr.Nd) (p : List Gr.Stp) (l : List AkC) : Bool := (greatG g || greatP p) || (decide (60 < l.length) || l.any greatA)
theorem greatL_no {g : List Gr.Nd} {p : List Gr.Stp} {l : List AkC} (h : greatL g p l = false) : (greatG g = false ∧ greatP p = false) ∧ l.length ≤ 60 ∧ ∀ c ∈ l, c.ne ≤ 60 ∧ c.nx ≤ 60 := by
  unfold greatL at h
  simp only [Bool.or_eq_false_iff, decide_eq_false_iff_not, List.any_eq_false] at h
  refine ⟨h.1, by omega, fun c hc => ?_⟩
  have := h.2.2 c hc
  unfold greatA at this
  simp at this
  omega
set_option maxHeartbeats 8000000 in
theorem great22_any (v u vl : Value) (g : List Gr.Nd) (p : List Gr.Stp) (l : List AkC) (w : World) (hv : NodesAt w v g) (hu : StepsAt w u p) (hl : AcksAt w vl l) : Calls Tryz.prog 15 #[v, vl, u] w (Gives (.bool (greatL g p l)) w) := by
  have HG := Lib.hid fun W (q : Grew w W) => great10_any v u g p W (hv.grew q) (hu.grew q)
  have HL := Lib.hid hl
  obtain ⟨a, cap, rfl, hm, -⟩ := AcksAt.open6 hl
  obtain ⟨av, cv, rfl, -, -⟩ := hv.openC
  obtain ⟨au, cu, rfl, -, -⟩ := hu.openC
  clear hv hu hl
  cases hq : (greatG g || greatP p)
  case true =>
    have hb : greatL g p l = true := by unfold greatL; rw [hq]; rfl
    rw [hq] at HG
    rw [hb]
    clear hq hb
    go_enter Tryz.func15, Tryz.ntmps15
    go_wp2_with (go_at_call 8; refine (HG.out _ (by repeat (first | with_reducible exact Grew.refl _ | apply Grew.more | apply Grew.alloc | apply Grew.drew | apply Grew.drewN))).mono ?_; rintro e w1 ⟨rfl, R1, n1, rfl⟩)
    go_ret
    refine ⟨rfl, ?_⟩
    repeat (first | with_reducible exact Grew.refl _ | apply Grew.more | apply Grew.alloc | apply Grew.drew | apply Grew.drewN)
  by_cases h60 : l.length ≤ 60
  case neg =>
    have hb : greatL g p l = true := by unfold greatL; rw [hq, decide_eq_true (show 60 < l.length by omega)]; rfl
    rw [hq] at HG
    rw [hb]
    clear hq hb
    go_enter Tryz.func15, Tryz.ntmps15
    go_wp2_with (go_at_call 8; refine (HG.out _ (by repeat (first | with_reducible exact Grew.refl _ | apply Grew.more | apply Grew.alloc | apply Grew.drew | apply Grew.drewN))).mono ?_; rintro e w1 ⟨rfl, R1, n1, rfl⟩)
    go_ret
    refine ⟨rfl, ?_⟩
    repeat (first | with_reducible exact Grew.refl _ | apply Grew.more | apply Grew.alloc | apply Grew.drew | apply Grew.drewN)
  have hb : greatL g p l = l.any greatA := by unfold greatL; rw [hq, decide_eq_false (show ¬ 60 < l.length by omega)]; rfl
  rw [hq] at HG
  rw [hb]
  have HANY := Lib.hid (List.any_eq_true (p := greatA) (l := l))
  have HNON := Lib.hid (List.any_eq_false (p := greatA) (l := l))
  generalize l.any greatA = r at *
  clear hq hb
  go_enter Tryz.func15, Tryz.ntmps15
  go_wp2_with (go_at_call 8; refine (HG.out _ (by repeat (first | with_reducible exact Grew.refl _ | apply Grew.more | apply Grew.alloc | apply Grew.drew | apply Grew.drewN))).mono ?_; rintro e w1 ⟨rfl, R1, n1, rfl⟩)
  go_loopg [19] l.length (fun gg s19 wr => ∃ k : Nat, k ≤ l.length ∧ l.length - k ≤ gg ∧ s19 = .int .i64 k ∧ Hid (Grew w wr) ∧ Hid (∀ j (hj : j < l.length), j < k → greatA l[j] = false))
  case atStart => exact ⟨0, by omega, by omega, rfl, Lib.hid (by repeat (first | with_reducible exact Grew.refl _ | apply Grew.more | apply Grew.alloc | apply Grew.drew | apply Grew.drewN)), Lib.hid fun j _ h => by omega⟩
  case round =>
    obtain ⟨k, hk, hgg, rfl, HGR, HNO⟩ := hrel
    by_cases hlt : k < l.length
    · obtain ⟨a', cap', e, -, hx⟩ := AcksAt.open6 (HL.out.grew HGR.out)
      cases e
      obtain ⟨b, off, rfl, hb, c0, c1, c2, c3, c4, c5⟩ := hx k hlt
      have hmem := List.getElem_mem hlt
      have hstep : greatA l[k] = false → ∀ j (hj : j < l.length), j < k + 1 → greatA l[j] = false := fun h j hj h2 => by
        rcases Nat.lt_or_ge j k with h1 | h1
        · exact HNO.out j hj h1
        · obtain rfl : j = k := by omega
          exact h
      clear hx
      generalize l[k] = y at *
      obtain ⟨nd, ix, ce, ae, ne, cae, ax, nx, cax, off⟩ := y
      simp only at c0 c1 c2 c3 c4 c5
      by_cases h1 : ne ≤ 60
      case neg =>
        have hr : r = true := HANY.out.2 ⟨_, hmem, by unfold greatA; simp; omega⟩
        subst hr
        clear hmem hstep
        go_wp2
        go_ret
        exact ⟨rfl, HGR.out.trans (by repeat (first | with_reducible exact Grew.refl _ | apply Grew.more | apply Grew.alloc | apply Grew.drew | apply Grew.drewN))⟩
      by_cases h2 : nx ≤ 60
      case neg =>
        have hr : r = true := HANY.out.2 ⟨_, hmem, by unfold greatA; simp; omega⟩
        subst hr
        clear hmem hstep
        go_wp2
        go_ret
        exact ⟨rfl, HGR.out.trans (by repeat (first | with_reducible exact Grew.refl _ | apply Grew.more | apply Grew.alloc | apply Grew.drew | apply Grew.drewN))⟩
      have HS := Lib.hid (hstep (by unfold greatA; simp; omega))
      clear hmem hstep
      go_wp2
      go_roundg (l.length - (k + 1))
      case measure => omega
      case rel => exact ⟨k + 1, by omega, by omega, by go_num, Lib.hid (HGR.out.trans (by repeat (first | with_reducible exact Grew.refl _ | apply Grew.more | apply Grew.alloc | apply Grew.drew | apply Grew.drewN))), HS⟩
    · obtain rfl : k = l.length := by omega
      have hr : r = false := by
        cases hr : r
        · rfl
        · obtain ⟨x, hx, h⟩ := HANY.out.1 hr
          obtain ⟨i, hi, e⟩ := List.mem_iff_getElem.1 hx
          have := HNO.out i hi hi
          rw [e, h] at this
          cases this
      subst hr
      go_wp2
      go_ret
      exact ⟨rfl, HGR.out⟩
/-! a gathering's epoch; none -/
theorem epoch_any (x b n : Nat) (g : List Gr.Nd) (ep : Int) (m : List (Who × AkC)) (w : World) (h : GatherAt w x b n g ep m) : Calls Tryz.prog 17 #[.pointer (some ⟨x, 0, none⟩)] w (Gives (.int .i64 ep) w) := by
  obtain ⟨v, hx, hv⟩ := h.cells
  have x1 := cell_of (o := 1) hx
  simp at x1
  have px := Pre.mk (heap_lt hx)
  clear h hx hv
  go_enter Tryz.func17, Tryz.ntmps17
  go_wp2
  go_ret
  refine ⟨rfl, ?_⟩
  repeat (first | with_reducible exact Grew.refl _ | apply Grew.more | apply Grew.alloc | apply Grew.drew | apply Grew.drewN)
theorem epochNil_any (w : World) : Calls Tryz.prog 17 #[.pointer none] w (Gives (.int .i64 0) w) := by
  go_enter Tryz.func17, Tryz.ntmps17
  go_wp2
  go_ret
  refine ⟨rfl, ?_⟩
  repeat (first | with_reducible exact Grew.refl _ | apply Grew.more | apply Grew.alloc | apply Grew.drew | apply Grew.drewN)
theorem missNil_any (w : World) : Calls Tryz.prog 20 #[.pointer none] w (Gives (.int .i64 0) w) := by
  go_enter Tryz.func20, Tryz.ntmps20
  go_wp2
  go_ret
  refine ⟨rfl, ?_⟩
  repeat (first | with_reducible exact Grew.refl _ | apply Grew.more | apply Grew.alloc | apply Grew.drew | apply Grew.drewN)
theorem addNil_any (w : World) : Calls Tryz.prog 19 #[.pointer none, akv AkC.zero] w (Gives (.int .i64 1) w) := by
  unfold akv AkC.zero
  go_enter Tryz.func19, Tryz.ntmps19
  go_wp2
  go_ret
  refine ⟨rfl, ?_⟩
  repeat (first | with_reducible exact Grew.refl _ | apply Grew.more | apply Grew.alloc | apply Grew.drew | apply Grew.drewN)
theorem makeNil_any (w : World) : Calls Tryz.prog 21 #[.pointer none, .agg #[.int .i64 0, .int .i64 0, .slice none 0 0, .slice none 0 0, .slice none 0 0, .slice none 0 0, .slice none 0 0], .slice none 0 0] w (Gives (.tuple #[.agg #[.int .i64 0, .int .i64 0, .slice none 0 0, .slice none 0 0, .slice none 0 0, .slice none 0 0, .slice none 0 0], .int .i64 1]) w) := by
  go_enter Tryz.func21, Tryz.ntmps21
  go_wp2
  refine bodyPost_ret (v := .tuple #[.agg #[.int .i64 0, .int .i64 0, .slice none 0 0, .slice none 0 0, .slice none 0 0, .slice none 0 0, .slice none 0 0], .int .i64 1]) (by simp [results, Tryz.results21, go_sem]) rfl ?_
  refine ⟨rfl, ?_⟩
  repeat (first | with_reducible exact Grew.refl _ | apply Grew.more | apply Grew.alloc | refine Grew.set ?_ (by simp [go_sem]) _)
end Go.Proofs.YtmdmbimfdpngaaaGreat

/-! The tasks that have come, as the law keeps them: a map of bools. -/
namespace Go.Proofs.YtmdmbimfdpngaaaGreat
set_option linter.unusedSimpArgs false
set_option linter.unusedVariables false
open Go.RowKit Ga
set_option maxRecDepth 100000

open Classical in
theorem MapAt.put_get {κ ν : Type} {k : κ} {v : ν} {m : List (κ × ν)} {k2 : κ} : mfind ((k, v) :: m) k2 = if k = k2 then some v else mfind m k2 := by
  classical
  unfold mfind
  rw [List.find?_cons]
  by_cases h : k = k2
  · simp [h]
  · simp [h]

theorem keyTypeA2 : Tryz.prog.keyType 61 = true := by kernel_rfl
theorem cellsA2 : Tryz.prog.cellsOf 61 = 2 := by kernel_rfl
theorem a2_law : Maps.Keyed Tryz.prog 61 := Maps.Keyed.of_law (deep_law_laid laidOutC (m := 3) (by decide) (of_decide_eq_true (by kernel_rfl)) (by kernel_rfl) (by kernel_rfl))
theorem keyA2 (x : Who) (h : okWho x) : ∃ kl, keyOf Tryz.prog 61 (whK x) = some kl := by
  have w1 := WalkArith.wf_i64 h.1
  have w2 := WalkArith.wf_i64 h.2
  unfold whK keyOf
  obtain ⟨m, hm⟩ := Nat.exists_eq_succ_of_ne_zero sizeC
  simp only [Tryz.underlying61, keyTypeA2, hm]
  simp [Value.formed, Tryz.underlying61, cellsA2, Program.keyLits, Value.cells, Tryz.underlying3, cellsCI, w1, w2, List.range_succ]
def boR : Value → Option (DataW Unit × List MemPlace)
  | .bool b => some (.lit (.bool b), [])
  | _ => none
theorem boR_inv (u : Value) (ps : List MemPlace) (v : Bool) (h : boR u = some (.lit (.bool v), ps)) : u = .bool v := by
  cases u with
  | bool b =>
    have h2 : some ((DataW.lit (.bool b) : DataW Unit), ([] : List MemPlace)) = some (.lit (.bool v), ps) := h
    simp at h2
    rw [h2.1]
  | _ => cases h
def metS : MSpec Who Bool where
  kt := 61
  law := a2_law
  kenc := whK
  kinj := whK_inj
  ok := okWho
  key := keyA2
  venc := .bool
  dat := fun b => .lit (.bool b)
  R := boR
  rmk := fun v => rfl
  rinv := boR_inv
theorem zeroBo (w : World) : (zeroValue 4).run Tryz.prog w = .ok (.bool false) w := by kernel_rfl
def metOf (m : List (Who × AkC)) : List (Who × Bool) := m.map fun x => (x.1, true)
theorem mfind_met (m : List (Who × AkC)) (k : Who) : (mfind (metOf m) k).getD false = (mfind m k).isSome := by
  induction m with
  | nil => rw [mfind_no (m := metOf []) (fun x hx => by cases hx), mfind_no (m := []) (fun x hx => by cases hx)]; rfl
  | cons x m ih =>
    obtain ⟨a, c⟩ := x
    have e1 : metOf ((a, c) :: m) = (a, true) :: metOf m := rfl
    rw [e1, MapAt.put_get, MapAt.put_get]
    split
    · rfl
    · exact ih
theorem metOf_fresh {m : List (Who × AkC)} {k : Who} (h : ∀ z ∈ m, z.1 ≠ k) : ∀ z ∈ metOf m, z.1 ≠ k := fun z hz => by
  obtain ⟨y, hy, rfl⟩ := List.mem_map.1 hz
  exact h y hy
theorem GatherAt.moren {W : World} {x b n n' : Nat} {g : List Gr.Nd} {ep : Int} {m : List (Who × AkC)} (h : GatherAt W x b n g ep m) (q : n ≤ n') : GatherAt W x b n' g ep m :=
  { h with map := h.map.more q }
theorem GatherAt.keep {W W' : World} {x b n b2 : Nat} {g : List Gr.Nd} {ep : Int} {m : List (Who × AkC)} (h : GatherAt W x b n g ep m) (hk : Keep b2 W W') (h1 : x ≠ b2) (h2 : b ≠ b2) (hb : ∀ c t f, W.heap[b2]? ≠ some (.cells c t f)) : GatherAt W' x b n g ep m := by
  obtain ⟨v, q1, q2⟩ := h.cells
  exact { h with cells := ⟨v, by rw [hk.2 x (heap_lt q1) h1]; exact q1, nodes_keep q2 hk hb⟩, map := h.map.same (hk.2 b h.map.lt h2) }
theorem GatherAt.fresh {W : World} {x b n : Nat} {g : List Gr.Nd} {ep : Int} {m : List (Who × AkC)} (h : GatherAt W x b n g ep m) : x < W.heap.size ∧ b < W.heap.size := by
  obtain ⟨v, q1, -⟩ := h.cells
  exact ⟨heap_lt q1, h.map.lt⟩
/-! how many tasks there are -/
def sumPar (g : List Gr.Nd) : Int := (g.map fun n => n.par).sum
theorem sumPar_snoc (g : List Gr.Nd) (n : Gr.Nd) : sumPar (g ++ [n]) = sumPar g + n.par := by
  unfold sumPar
  rw [List.map_append, List.sum_append]
  simp
theorem sumPar_range : ∀ {g : List Gr.Nd}, (∀ n ∈ g, 1 ≤ n.par ∧ n.par ≤ 3) → 0 ≤ sumPar g ∧ sumPar g ≤ g.length * 3
  | [], _ => by simp [sumPar]
  | n :: g, h => by
    have h1 := sumPar_range fun x hx => h x (List.mem_cons_of_mem _ hx)
    have h2 := h n (List.mem_cons_self ..)
    have h3 : sumPar (n :: g) = n.par + sumPar g := rfl
    rw [h3, List.length_cons]
    omega
theorem tasks_sum : ∀ {g : List Gr.Nd}, (∀ n ∈ g, 1 ≤ n.par ∧ n.par ≤ 3) → ((tasksOf g).length : Int) = sumPar g
  | [], _ => rfl
  | n :: g, h => by
    have h1 := tasks_sum fun x hx => h x (List.mem_cons_of_mem _ hx)
    have h2 := h n (List.mem_cons_self ..)
    have h3 : sumPar (n :: g) = n.par + sumPar g := rfl
    have h4 : tasksOf (n :: g) = ((List.range n.par.toNat).map fun (k : Nat) => (n.id, (k : Int))) ++ tasksOf g := by
      unfold tasksOf
      rw [List.flatMap_cons]
    rw [h3, h4, List.length_append, List.length_map, List.length_range]
    omega
theorem tasks_norm {g : List Gr.Nd} (h : Gr.RightR g) : ((tasksOf (Gr.normG g)).length : Int) = sumPar g := by
  rw [← tasks_sum fun n hn => (right_par h n hn).1]
  have hp := Gr.normG_perm h.ids h.r7
  have : (tasksOf (Gr.normG g)).Perm (tasksOf g) := by
    unfold tasksOf
    exact hp.flatMap_right _
  rw [this.length_eq]
end Go.Proofs.YtmdmbimfdpngaaaGreat

/-! The law SnapAdds, walked. -/
namespace Go.Proofs.YtmdmbimfdpngaaaGreat
set_option linter.unusedSimpArgs false
set_option linter.unusedVariables false
open Go.RowKit Ga
set_option maxRecDepth 100000

set_option maxHeartbeats 16000000 in
theorem snapAdds_out (v vl : Value) (g : List Gr.Nd) (ep : Int) (l : List AkC) (w : World) (hv : NodesAt w v g) (hl : AcksAt w vl l) (hn : greatL g [] l = true ∨ (greatL g [] l = false ∧ (¬ Gr.RightR g ∨ (Gr.RightR g ∧ ¬ (1 ≤ ep ∧ ep ≤ 2147483647))))) : Calls Tryz.prog 4 #[v, .int .i64 ep, vl] w (Gives (.bool true) w) := by
  have HG := Lib.hid fun W (q : Grew w W) => great22_any v (.slice none 0 0) vl g [] l W (hv.grew q) (StepsAt.nil W) (hl.grew q)
  obtain ⟨a, cap, rfl, hm, -⟩ := AcksAt.open6 hl
  rcases hn with hq | ⟨hq, hn⟩
  · rw [hq] at HG
    obtain ⟨av, cv, rfl, -, -⟩ := hv.openC
    clear hv hl hq
    go_enter Tryz.func4, Tryz.ntmps4
    go_wp2_with (first
      | (go_at_call 7; refine (awake22_any _).mono ?_; rintro e w1 ⟨rfl, R1, n1, rfl⟩)
      | (go_at_call 15; refine (HG.out _ (by repeat (first | with_reducible exact Grew.refl _ | apply Grew.more | apply Grew.alloc | apply Grew.drew | apply Grew.drewN))).mono ?_; rintro e w1 ⟨rfl, R2, n2, rfl⟩))
    go_ret
    refine ⟨rfl, ?_⟩
    repeat (first | with_reducible exact Grew.refl _ | apply Grew.more | apply Grew.alloc | apply Grew.drew | apply Grew.drewN)
  obtain ⟨⟨hgg, -⟩, -, -⟩ := greatL_no hq
  have hsm := (great_small hgg).1
  rw [hq] at HG
  have HN := Lib.hid fun W (q : Grew w W) => new_any v g ep W (hv.grew q) hsm
  have HC := Lib.hid fun W (q : Grew w W) => refCheck08_any v g W (hv.grew q)
  obtain ⟨av, cv, rfl, -, -⟩ := hv.openC
  clear hv hl hq hgg hsm
  rcases hn with hr | ⟨hr, he⟩
  · have hck := checkR_pos hr
    have HR := Lib.hid hr
    generalize checkR g = ck at *
    clear hr
    go_enter Tryz.func4, Tryz.ntmps4
    go_wp2_with (first
      | (go_at_call 7; refine (awake22_any _).mono ?_; rintro e w1 ⟨rfl, R1, n1, rfl⟩)
      | (go_at_call 15; refine (HG.out _ (by repeat (first | with_reducible exact Grew.refl _ | apply Grew.more | apply Grew.alloc | apply Grew.drew | apply Grew.drewN))).mono ?_; rintro e w1 ⟨rfl, R2, n2, rfl⟩)
      | (go_at_call 16; refine (HN.out _ (by repeat (first | with_reducible exact Grew.refl _ | apply Grew.more | apply Grew.alloc | apply Grew.drew | apply Grew.drewN))).mono ?_; rintro e w1 ⟨h1, -, -⟩; obtain ⟨rfl, R3, n3, rfl⟩ := h1 HR.out; clear h1)
      | (go_at_call 12; refine (HC.out _ (by repeat (first | with_reducible exact Grew.refl _ | apply Grew.more | apply Grew.alloc | apply Grew.drew | apply Grew.drewN))).mono ?_; rintro e w1 ⟨rfl, R4, n4, rfl⟩))
    go_ret
    exact ⟨rfl, by repeat (first | with_reducible exact Grew.refl _ | apply Grew.more | apply Grew.alloc | apply Grew.drew | apply Grew.drewN)⟩
  · have HR := Lib.hid hr
    have HE := Lib.hid he
    rw [checkR_nil hr] at HC
    rcases (show ep < 1 ∨ 2147483647 < ep by omega) with h1 | h1
    all_goals
      clear hr he
      go_enter Tryz.func4, Tryz.ntmps4
      go_wp2_with (first
        | (go_at_call 7; refine (awake22_any _).mono ?_; rintro e w1 ⟨rfl, R1, n1, rfl⟩)
        | (go_at_call 15; refine (HG.out _ (by repeat (first | with_reducible exact Grew.refl _ | apply Grew.more | apply Grew.alloc | apply Grew.drew | apply Grew.drewN))).mono ?_; rintro e w1 ⟨rfl, R2, n2, rfl⟩)
        | (go_at_call 16; refine (HN.out _ (by repeat (first | with_reducible exact Grew.refl _ | apply Grew.more | apply Grew.alloc | apply Grew.drew | apply Grew.drewN))).mono ?_; rintro e w1 ⟨-, h2, -⟩; obtain ⟨rfl, R3, n3, rfl⟩ := h2 HR.out HE.out; clear h2)
        | (go_at_call 12; refine (HC.out _ (by repeat (first | with_reducible exact Grew.refl _ | apply Grew.more | apply Grew.alloc | apply Grew.drew | apply Grew.drewN))).mono ?_; rintro e w1 ⟨rfl, R4, n4, rfl⟩))
      go_ret
      exact ⟨rfl, by repeat (first | with_reducible exact Grew.refl _ | apply Grew.more | apply Grew.alloc | apply Grew.drew | apply Grew.drewN)⟩
end Go.Proofs.YtmdmbimfdpngaaaGreat
