import Derived.Test.YtmdmbimfdpngaaaGreatMs2
import Derived.ProofKit
import Derived.OpenShut
import Derived.Carry
import Derived.Deep.Slices
/-! How arguments are opened, and how a law's row is closed where nothing old turns. -/
namespace Go
set_option linter.unusedSimpArgs false
set_option linter.unusedVariables false
open Go.RowKit Go.ChangeShapes Go.WideShapes

/-- Whatever reads as type t has the property R. -/
def Opens {α : Type} (P : Program) (t : TypeId) (R : World → List Value → α → Prop) : Prop :=
  ∀ (H : Type) (enc : TypeId × Value → H) (w : World) (fuel : Nat) (cs : List Value) (x : DataW H × List MemPlace), DataW.trod enc P w 0 (fun _ => true) true fuel t cs = some x → ∃ a, R w cs a

theorem Opens.mono {α β : Type} {P : Program} {t : TypeId} {R : World → List Value → α → Prop} {S : World → List Value → β → Prop} (h : Opens P t R) (hs : ∀ w cs a, R w cs a → ∃ b, S w cs b) : Opens P t S :=
  fun H enc w fuel cs x hx => let ⟨a, ha⟩ := h H enc w fuel cs x hx; hs w cs a ha

theorem Opens.int {P : Program} {t : TypeId} {k : IntKind} (ht : P.underlying t = some (.int k)) : Opens P t (fun _ cs (n : Int) => cs = [.int k n] ∧ (Lit.int k n).wf = true) :=
  fun _ _ _ _ _ _ hx => let ⟨n, h1, _, h2⟩ := DataW.trod_int ht hx; ⟨n, h1, h2⟩

theorem wf_range {n : Int} (h : (Lit.int .i64 n).wf = true) : -9223372036854775808 ≤ n ∧ n ≤ 9223372036854775807 := by
  simpa [Lit.wf, IntKind.min, IntKind.max, IntKind.signed, IntKind.bits] using h

theorem Opens.i64 {P : Program} {t : TypeId} (ht : P.underlying t = some (.int .i64)) : Opens P t (fun _ cs (n : Int) => cs = [.int .i64 n] ∧ -9223372036854775808 ≤ n ∧ n ≤ 9223372036854775807) :=
  (Opens.int ht).mono fun _ _ n ⟨h1, h2⟩ => ⟨n, h1, wf_range h2⟩

theorem Opens.bool {P : Program} {t : TypeId} (ht : P.underlying t = some .bool) : Opens P t (fun _ cs (b : Bool) => cs = [.bool b]) := by
  intro H enc w fuel cs x hx
  cases fuel with
  | zero => simp [DataW.trod] at hx
  | succ n =>
    unfold DataW.trod at hx
    rw [ht] at hx
    split at hx <;> simp_all

theorem Opens.string {P : Program} {t : TypeId} (ht : P.underlying t = some .string) : Opens P t (fun _ cs (s : ByteArray) => cs = [.string s] ∧ s.size ≤ maxLen) := by
  intro H enc w fuel cs x hx
  cases fuel with
  | zero => simp [DataW.trod] at hx
  | succ n =>
    unfold DataW.trod at hx
    rw [ht] at hx
    split at hx <;> simp_all

/-- The fields of a struct, each opened. -/
theorem Opens.fields {P : Program} {t : TypeId} {fs : Array Field} (ht : P.underlying t = some (.struct fs)) {H : Type} {enc : TypeId × Value → H} {w : World} {fuel : Nat} {cs : List Value} {x : DataW H × List MemPlace}
    (hx : DataW.trod enc P w 0 (fun _ => true) true fuel t cs = some x) : cs.length = P.cellsOf t ∧ ∀ (i : Nat) (f : Field), fs[i]? = some f → ∃ n y, DataW.trod enc P w 0 (fun _ => true) true n f.type ((cs.drop f.offset).take (P.cellsOf f.type)) = some y := by
  obtain ⟨xs, n, _, _, hl, hlen, hf⟩ := DataW.trod_struct ht hx
  refine ⟨hl, fun i f hi => ?_⟩
  have h1 := hf i f hi
  have h2 : i < xs.length := by rw [hlen]; exact (Array.getElem?_eq_some_iff.1 hi).1
  rw [List.getElem?_eq_getElem h2] at h1
  exact ⟨n, _, h1⟩

/-- The elements of an array, each opened. -/
theorem Opens.elems {P : Program} {t e : TypeId} {n : Nat} (ht : P.underlying t = some (.array n e)) {H : Type} {enc : TypeId × Value → H} {w : World} {fuel : Nat} {cs : List Value} {x : DataW H × List MemPlace}
    (hx : DataW.trod enc P w 0 (fun _ => true) true fuel t cs = some x) : cs.length = P.cellsOf t ∧ ∀ i, i < n → ∃ m y, DataW.trod enc P w 0 (fun _ => true) true m e ((cs.drop (i * P.cellsOf e)).take (P.cellsOf e)) = some y := by
  cases fuel with
  | zero => simp [DataW.trod] at hx
  | succ fuel =>
    unfold DataW.trod at hx
    rw [ht] at hx
    simp only at hx
    split at hx
    · rename_i hl
      refine ⟨hl, fun i hi => ?_⟩
      cases hm : (List.range n).mapM (fun i => DataW.trod enc P w 0 (fun _ => true) true fuel e ((cs.drop (i * P.cellsOf e)).take (P.cellsOf e))) with
      | none => rw [hm] at hx; cases hx
      | some xs =>
        have key : ∀ (l : List Nat) (ys : List (DataW H × List MemPlace)), l.mapM (fun i => DataW.trod enc P w 0 (fun _ => true) true fuel e ((cs.drop (i * P.cellsOf e)).take (P.cellsOf e))) = some ys → ∀ i ∈ l, ∃ y, DataW.trod enc P w 0 (fun _ => true) true fuel e ((cs.drop (i * P.cellsOf e)).take (P.cellsOf e)) = some y := by
          intro l
          induction l with
          | nil => intro ys _ i hi; cases hi
          | cons j l ih =>
            intro ys h i hi
            rw [List.mapM_cons] at h
            cases hj : DataW.trod enc P w 0 (fun _ => true) true fuel e ((cs.drop (j * P.cellsOf e)).take (P.cellsOf e)) with
            | none => rw [hj] at h; cases h
            | some y =>
              rw [hj] at h
              cases hr : l.mapM (fun i => DataW.trod enc P w 0 (fun _ => true) true fuel e ((cs.drop (i * P.cellsOf e)).take (P.cellsOf e))) with
              | none => rw [hr] at h; cases h
              | some zs =>
                rcases List.mem_cons.1 hi with rfl | hi
                · exact ⟨y, hj⟩
                · exact ih zs hr i hi
        obtain ⟨y, hy⟩ := key _ xs hm i (List.mem_range.2 hi)
        exact ⟨fuel, y, hy⟩
    · cases hx

/-- v is a slice; its elements' cells have R. -/
def SlAt {α : Type} (k : Nat) (R : World → List Value → α → Prop) (w : World) (v : Value) (l : List α) : Prop :=
  ∃ a cap, v = .slice a l.length cap ∧ l.length ≤ cap ∧ cap ≤ maxLen ∧ (a = none → cap = 0) ∧ (l ≠ [] → ∃ b off, a = some ⟨b, off, none⟩ ∧ ∀ (i : Nat) (x : α), l[i]? = some x → ∃ cs, cs.length = k ∧ R w cs x ∧ ∀ (j : Nat) (u : Value), cs[j]? = some u → w.cell? ⟨b, off + i * k + j, none⟩ = some u)

theorem cells_of_cells? {w : World} {a : Addr} {n : Nat} {cs : List Value} (h : w.cells? 0 a n = some cs) : cs.length = n ∧ ∀ j u, cs[j]? = some u → w.cell? (a.add j) = some u := by
  obtain ⟨_, h1, h2⟩ := World.cells?_some h
  exact ⟨h1, fun j u hj => (h2 j (h1 ▸ (List.getElem?_eq_some_iff.1 hj).1)).trans hj⟩

theorem addr_of_cell {w : World} {a : Addr} {u : Value} (h : w.cell? a = some u) : a = ⟨a.block, a.off, none⟩ := by
  obtain ⟨b, o, s⟩ := a
  unfold World.cell? at h
  split at h
  · cases s with
    | none => rfl
    | some _ => simp at h
  · cases h

theorem Opens.slice {α : Type} {P : Program} {t e : TypeId} {k : Nat} {R : World → List Value → α → Prop} (ht : P.underlying t = some (.slice e)) (hk : P.cellsOf e = k) (hk0 : 0 < k) (h : Opens P e R) :
    Opens P t (fun w cs (l : List α) => ∃ v, cs = [v] ∧ SlAt k R w v l) := by
  intro H enc w fuel cs x hx
  rcases Deep.open_slice ht hx with ⟨rfl, rfl⟩ | ⟨a, len, cap, m, n, D, Pl, rfl, _, hl, hm, hmm, _, hel⟩
  · exact ⟨[], _, rfl, none, 0, rfl, Nat.le_refl _, Nat.zero_le _, fun _ => rfl, fun h => absurd rfl h⟩
  · have hlm : ∀ i, i < len → i < m := fun i hi => by rw [hmm]; split <;> omega
    have hex : ∀ i, i < len → ∃ y : α × List Value, y.2.length = k ∧ R w y.2 y.1 ∧ ∀ (j : Nat) (u : Value), y.2[j]? = some u → w.cell? ((a.add (i * k)).add j) = some u := by
      intro i hi
      obtain ⟨cs', hc, hr⟩ := hel i (hlm i hi)
      rw [hk] at hc
      obtain ⟨y, hy⟩ := h H enc w n cs' _ hr
      obtain ⟨h1, h2⟩ := cells_of_cells? hc
      exact ⟨(y, cs'), h1, hy, h2⟩
    by_cases hlen : len = 0
    · subst hlen
      exact ⟨[], _, rfl, some a, cap, rfl, by simp, hm, (fun h => by cases h), fun h => absurd rfl h⟩
    · obtain ⟨y0, _⟩ := hex 0 (by omega)
      haveI : Inhabited (α × List Value) := ⟨y0⟩
      obtain ⟨f, hf⟩ := Deep.choose_lt hex
      refine ⟨(List.range len).map fun i => (f i).1, _, rfl, some a, cap, by simp, by simpa using hl, hm, (fun h => by cases h), fun _ => ?_⟩
      have ha : a = ⟨a.block, a.off, none⟩ := by
        obtain ⟨h1, _, h3⟩ := hf 0 (by omega)
        have h4 : (f 0).2[0]? = some ((f 0).2[0]'(by omega)) := List.getElem?_eq_getElem _
        have h5 := h3 0 _ h4
        have h6 : (a.add (0 * k)).add 0 = a := by simp [Addr.add]
        rw [h6] at h5
        exact addr_of_cell h5
      refine ⟨a.block, a.off, by rw [← ha], fun i x' hi => ?_⟩
      have hil : i < len := by
        have := (List.getElem?_eq_some_iff.1 hi).1; simpa using this
      have hx' : x' = (f i).1 := by
        rw [List.getElem?_map, List.getElem?_range hil] at hi
        simpa using hi.symm
      subst hx'
      obtain ⟨h1, h2, h3⟩ := hf i hil
      refine ⟨(f i).2, h1, h2, fun j u hj => ?_⟩
      have h4 := h3 j u hj
      rw [ha] at h4
      have h5 : (Addr.add (Addr.add ⟨a.block, a.off, none⟩ (i * k)) j) = ⟨a.block, a.off + i * k + j, none⟩ := by
        rw [Deep.add_add]
        unfold Addr.add
        split
        · rename_i h0
          have : i * k = 0 ∧ j = 0 := by simp at h0; omega
          simp [this.1, this.2]
        · simp [Nat.add_assoc]
      rw [h5] at h4
      exact h4

/-- Flat elements: cell by cell. -/
theorem SlAt.rows {α : Type} {k : Nat} {enc : α → List Value} {ok : α → Prop} {w : World} {v : Value} {l : List α} (h : SlAt k (fun _ cs (a : α) => cs = enc a ∧ ok a) w v l) : RowsAt k enc w v l ∧ ∀ x ∈ l, ok x := by
  obtain ⟨a, cap, rfl, hl, hm, hnil, hx⟩ := h
  constructor
  · refine ⟨a, cap, rfl, Nat.le_trans hl hm, fun hne => ?_⟩
    obtain ⟨b, off, rfl, hc⟩ := hx hne
    refine ⟨b, off, rfl, fun i x hi j u hu => ?_⟩
    obtain ⟨cs, _, ⟨rfl, _⟩, h2⟩ := hc i x hi
    exact h2 j u hu
  · intro x hxl
    obtain ⟨b, off, rfl, hc⟩ := hx (by intro e; rw [e] at hxl; cases hxl)
    obtain ⟨i, hi⟩ := List.getElem?_of_mem hxl
    obtain ⟨cs, _, ⟨_, h1⟩, _⟩ := hc i x hi
    exact h1

/-- An argument, opened. -/
theorem Opens.arg {α : Type} {P : Program} {t : TypeId} {R : World → List Value → α → Prop} (h : Opens P t R) {H : Type} {enc : TypeId × Value → H} {w : World} {v : Value} {d : DataW H} {ps : List MemPlace}
    (hv : DataW.Trod enc P w 0 (fun _ => true) true t v d ps) : ∃ a, R w v.cells.toList a :=
  let ⟨fuel, hf⟩ := hv; h H enc w fuel _ _ hf

theorem cells_agg {t : TypeId} {fs : Array Field} {P : Program} {w : World} {r : Reach} {b : Nat} {v : Value} {cs : List Value} (ht : P.underlying t = some (.struct fs)) (hv : Value.okWide P w r b t v) (h : v.cells.toList = cs) : v = .agg cs.toArray := by
  obtain ⟨c, rfl, _⟩ := okWide_struct ht hv
  subst h
  simp [Value.cells]

/-- The arguments read as they did. -/
theorem TrodAll.below {H : Type} {enc : TypeId × Value → H} {P : Program} (hl : laidOutB P = true) {W W' : World} (hb : Below W.heap.size W W') : ∀ (ts : List TypeId) (vs : List Value) (ds : List (DataW H)) (ps : List MemPlace),
    (∀ t ∈ ts, P.readableRec t = true ∧ t < P.types.size) → (∀ p ∈ ps, p.block < W.heap.size) → DataW.TrodAll enc P W 0 (fun _ => true) true ts vs ds ps → DataW.TrodAll enc P W' 0 (fun b => decide (b < W.heap.size)) true ts vs ds ps
  | [], [], [], ps, _, _, h => h
  | t :: ts, v :: vs, d :: ds, ps, hr, hlt, h => by
    obtain ⟨p, q, h1, h2, rfl⟩ := h
    refine ⟨p, q, Below.trod hl (hr t List.mem_cons_self).1 (hr t List.mem_cons_self).2 h1 hb (fun x hx => hlt x (List.mem_append_left _ hx)), ?_, rfl⟩
    exact TrodAll.below hl hb ts vs ds q (fun t' ht => hr t' (List.mem_cons_of_mem _ ht)) (fun x hx => hlt x (List.mem_append_right _ hx)) h2
  | [], [], _ :: _, _, _, _, h => h.elim
  | [], _ :: _, _, _, _, _, h => h.elim
  | _ :: _, [], _, _, _, _, h => h.elim
  | _ :: _, _ :: _, [], _, _, _, h => h.elim

/-- A law's row is met where it returns true and there are new blocks, no other. -/
theorem law_post {H : Type} {enc : TypeId × Value → H} {P : Program} {f : Func} {s : ChangeSpec} {W W' : World} {args : Array Value} {ds gs : List (DataW H)} {before : List MemPlace} {tb : TypeId}
    (hl : laidOutB P = true) (hr : f.params.toList.all (fun t => P.readableRec t && decide (t < P.types.size)) = true) (hv : s.vars = []) (hrt : f.resultTypes = #[tb]) (htb : P.underlying tb = some .bool)
    (hW : DataW.Whole enc P f.params.toList s.vars false W args.toList ds gs before) (hfn : ∀ gs, gs = [] → s.fn H (ds ++ gs) = { results := [.lit (.bool true)], args := ds }) (hg : Grew W W') :
    s.post enc P f false true false false W args (.bool true) W' := by
  have hW' := hW
  obtain ⟨p, q, hA, hV, rfl, hfz, hnd⟩ := hW
  have hlt : ∀ x ∈ p ++ q, x.block < W.heap.size := fun x hx => hW'.lt x hx
  rw [hv] at hV
  obtain ⟨rfl, rfl⟩ := trodVars_none hV
  have e := hfn [] rfl
  refine ⟨ds, [], p ++ [], [], p, [], hW', ?_, ?_, ?_, ?_, fun h => by cases h⟩
  · rw [e, hrt]
    exact ⟨[], [], shut_bool htb true, rfl, rfl⟩
  · rw [e]
    exact TrodAll.below hl hg.below _ _ _ _ (fun t ht => by simpa using List.all_eq_true.1 hr t ht) (fun x hx => hlt x (List.mem_append_left _ hx)) hA
  · rw [e, hv]; rfl
  · exact hg.below.frame _

end Go

/-! code.bounds, Right, Fits and the document's. -/
namespace Go.Proofs.YtmdmbimfdpngaaaGreat
set_option linter.unusedSimpArgs false
set_option linter.unusedVariables false
open Go.RowKit Ga
set_option maxRecDepth 100000

theorem ret_bool {a b : Bool} (h : a = b) : Ending.returned (.bool a) = Ending.returned (.bool b) := by rw [h]
theorem lo_else {op : Int} (h1 : op ≠ 1) (h2 : op ≠ 2) (h15 : op ≠ 15) (h16 : op ≠ 16) : Co.lo op = 0 := by
  unfold Co.lo; rw [if_neg (by omega), if_neg (by omega)]
theorem hi_else {op : Int} (h1 : op ≠ 1) (h2 : op ≠ 2) (h4 : op ≠ 4) (h5 : op ≠ 5) (h15 : op ≠ 15) (h16 : op ≠ 16) : Co.hi op = 0 := by
  unfold Co.hi; rw [if_neg (by omega), if_neg (by omega), if_neg (by omega)]
theorem has_else {op : Int} (h1 : op ≠ 1) (h2 : op ≠ 2) (h4 : op ≠ 4) (h5 : op ≠ 5) (h15 : op ≠ 15) (h16 : op ≠ 16) : Co.hasA op = false := by
  unfold Co.hasA; simp [h1, h2, h4, h5, h15, h16]

set_option maxHeartbeats 2000000 in
theorem bounds_any (op : Int) (w : World) : Calls Tryz.prog 207 #[.int .i64 op] w fun e w' => e = .returned (.tuple #[.int .i64 (Co.lo op), .int .i64 (Co.hi op), .bool (Co.hasA op)]) ∧ w' = w := by
  by_cases h1 : op = 1
  · subst h1
    go_enter Tryz.func207, Tryz.ntmps207
    go_wp2
    exact bodyPost_ret (v := .tuple #[.int .i64 (-524288), .int .i64 524287, .bool true]) (by simp [results, Tryz.results207, go_sem]) rfl ⟨by simp [Co.lo, Co.hi, Co.hasA], rfl⟩
  by_cases h2 : op = 2
  · subst h2
    go_enter Tryz.func207, Tryz.ntmps207
    go_wp2
    exact bodyPost_ret (v := .tuple #[.int .i64 (-524288), .int .i64 524287, .bool true]) (by simp [results, Tryz.results207, go_sem]) rfl ⟨by simp [Co.lo, Co.hi, Co.hasA], rfl⟩
  by_cases h4 : op = 4
  · subst h4
    go_enter Tryz.func207, Tryz.ntmps207
    go_wp2
    exact bodyPost_ret (v := .tuple #[.int .i64 0, .int .i64 1, .bool true]) (by simp [results, Tryz.results207, go_sem]) rfl ⟨by simp [Co.lo, Co.hi, Co.hasA], rfl⟩
  by_cases h5 : op = 5
  · subst h5
    go_enter Tryz.func207, Tryz.ntmps207
    go_wp2
    exact bodyPost_ret (v := .tuple #[.int .i64 0, .int .i64 1, .bool true]) (by simp [results, Tryz.results207, go_sem]) rfl ⟨by simp [Co.lo, Co.hi, Co.hasA], rfl⟩
  by_cases h15 : op = 15
  · subst h15
    go_enter Tryz.func207, Tryz.ntmps207
    go_wp2
    exact bodyPost_ret (v := .tuple #[.int .i64 1, .int .i64 24, .bool true]) (by simp [results, Tryz.results207, go_sem]) rfl ⟨by simp [Co.lo, Co.hi, Co.hasA], rfl⟩
  by_cases h16 : op = 16
  · subst h16
    go_enter Tryz.func207, Tryz.ntmps207
    go_wp2
    exact bodyPost_ret (v := .tuple #[.int .i64 1, .int .i64 24, .bool true]) (by simp [results, Tryz.results207, go_sem]) rfl ⟨by simp [Co.lo, Co.hi, Co.hasA], rfl⟩
  have e1 : (op == 1) = false := by simpa using h1
  have e2 : (op == 2) = false := by simpa using h2
  have e4 : (op == 4) = false := by simpa using h4
  have e5 : (op == 5) = false := by simpa using h5
  have e15 : (op == 15) = false := by simpa using h15
  have e16 : (op == 16) = false := by simpa using h16
  rw [lo_else h1 h2 h15 h16, hi_else h1 h2 h4 h5 h15 h16, has_else h1 h2 h4 h5 h15 h16]
  clear h1 h2 h4 h5 h15 h16
  go_enter Tryz.func207, Tryz.ntmps207
  go_wp2
  exact bodyPost_ret (v := .tuple #[.int .i64 0, .int .i64 0, .bool false]) (by simp [results, Tryz.results207, go_sem]) rfl ⟨rfl, rfl⟩

set_option maxHeartbeats 2000000 in
theorem codeRight_any (x y : Int) (w : World) : Calls Tryz.prog 201 #[.agg #[.int .i64 x, .int .i64 y]] w (Gives (.bool (Co.rightI (x, y))) w) := by
  have H : Co.rightI (x, y) = (decide (0 ≤ x) && decide (x < 18) && decide (Co.lo x ≤ y) && decide (y ≤ Co.hi x)) := rfl
  rw [H]
  clear H
  go_enter Tryz.func201, Tryz.ntmps201
  go_wp2_with (go_at_call 207; refine (bounds_any _ _).mono ?_; rintro e w1 ⟨rfl, rfl⟩)
  all_goals
    go_ret
    refine ⟨ret_bool (by grind), ?_⟩
    repeat (first | with_reducible exact Grew.refl _ | apply Grew.more | apply Grew.alloc | apply Grew.drew | apply Grew.drewN)

set_option maxHeartbeats 2000000 in
theorem refRight_any (x y : Int) (w : World) : Calls Tryz.prog 113 #[.agg #[.int .i64 x, .int .i64 y]] w (Gives (.bool (Co.rightI (x, y))) w) := by
  go_enter Tryz.func113, Tryz.ntmps113
  go_wp2
  all_goals
    go_ret
    refine ⟨ret_bool ?_, ?_⟩
    · unfold Co.rightI Co.lo Co.hi
      grind
    repeat (first | with_reducible exact Grew.refl _ | apply Grew.more | apply Grew.alloc | apply Grew.drew | apply Grew.drewN)
end Go.Proofs.YtmdmbimfdpngaaaGreat


/-! code.Fits, forebayref04.Fits and Same. -/
namespace Go.Proofs.YtmdmbimfdpngaaaGreat
set_option linter.unusedSimpArgs false
set_option linter.unusedVariables false
open Go.RowKit Ga
set_option maxRecDepth 100000

theorem fits1_any (x y : Int) (w : World) : Calls Tryz.prog 200 #[.agg #[.int .i64 x, .int .i64 y]] w (Gives (.bool (!Co.rightI (x, y))) w) := by
  go_enter Tryz.func200, Tryz.ntmps200
  go_wp2_with (first
    | (go_at_call 201; refine (codeRight_any _ _ _).mono ?_; rintro e w1 ⟨rfl, R3, n3, rfl⟩)
    )
  go_ret
  refine ⟨rfl, ?_⟩
  repeat (first | with_reducible exact Grew.refl _ | apply Grew.more | apply Grew.alloc | apply Grew.drew | apply Grew.drewN)

theorem take_all_succ {α : Type} {p : α → Bool} {l : List α} {k : Nat} (h : k < l.length) (h1 : (l.take k).all p = true) (h2 : p l[k] = true) : (l.take (k + 1)).all p = true := by
  rw [List.take_succ_eq_append_getElem h, List.all_append, h1]; simp [h2]
theorem all_false_at {α : Type} {p : α → Bool} {l : List α} {k : Nat} (h : k < l.length) (h2 : p l[k] = false) : l.all p = false := by
  rw [List.all_eq_false]; exact ⟨l[k], List.getElem_mem h, by simp [h2]⟩

set_option maxHeartbeats 1000000 in
/-- .. where the first wrong instruction stands. -/
theorem indexWrong_any (v : Value) (l : List Val) (w : World) (hv : ValsAt w v l) :
    Calls Tryz.prog 208 #[v, .func (.func 200) #[] #[]] w fun e w' => ∃ k : Int, e = .returned (.int .i64 k) ∧ decide (0 ≤ k) = !l.all Co.rightI ∧ Grew w w' := by
  obtain ⟨a, cap, rfl, hm, hl⟩ := hv.open2
  go_enter Tryz.func208, Tryz.ntmps208
  go_wp2
  go_loopw [8] (fun i wr => ∃ (k : Nat), k ≤ l.length ∧ i = .int .i64 k ∧ (l.take k).all Co.rightI = true ∧ Grew w wr) (fun i _ => l.length - (intOf i).toNat)
  case atStart => exact ⟨0, Nat.zero_le _, rfl, rfl, Grew.refl _⟩
  case round =>
    obtain ⟨k, hk, rfl, hall, R, n, rfl⟩ := hrel
    have HA := Lib.hid hall
    clear hall
    by_cases hlt : k < l.length
    · obtain ⟨b, off, rfl, hb, hx, hy⟩ := hl k hlt
      have hs := take_all_succ (p := Co.rightI) hlt HA.out
      have hf := all_false_at (p := Co.rightI) hlt
      generalize l[k] = xy at *
      obtain ⟨x, y⟩ := xy
      cases hr : Co.rightI (x, y)
      all_goals
        have HS := Lib.hid hs
        have HF := Lib.hid hf
        have HR := Lib.hid hr
        clear hs hl hf hr
        simp only at hx hy
        go_wp2_with (go_at_call 200; refine (fits1_any _ _ _).mono ?_; rintro e w1 ⟨rfl, R3, n3, rfl⟩; rw [HR.out])
      · go_ret
        refine ⟨k, rfl, ?_, ?_⟩
        · rw [HF.out HR.out]; simp
        · repeat (first | with_reducible exact Grew.refl _ | apply Grew.more | apply Grew.alloc | apply Grew.drew | apply Grew.drewN)
      · go_roundw
        case rel => exact ⟨k + 1, by omega, by go_num, HS.out HR.out, by repeat (first | with_reducible exact Grew.refl _ | apply Grew.more | apply Grew.alloc | apply Grew.drew | apply Grew.drewN)⟩
        case measure => first | (simp [intOf]; done) | (simp [intOf]; omega)
    · obtain rfl : k = l.length := by omega
      have hz := HA.out
      rw [List.take_length] at hz
      have HZ := Lib.hid hz
      clear hz hl HA
      go_wp2
      go_ret
      refine ⟨-1, rfl, ?_, ?_⟩
      · rw [HZ.out]; rfl
      · repeat (first | with_reducible exact Grew.refl _ | apply Grew.more | apply Grew.alloc | apply Grew.drew | apply Grew.drewN)

theorem containsWrong_any (v : Value) (l : List Val) (w : World) (hv : ValsAt w v l) :
    Calls Tryz.prog 202 #[v, .func (.func 200) #[] #[]] w (Gives (.bool (!l.all Co.rightI)) w) := by
  have HV := Lib.hid hv
  clear hv
  go_enter Tryz.func202, Tryz.ntmps202
  go_wp2_with (go_at_call 208; refine (indexWrong_any _ l _ HV.out).mono ?_; rintro e w1 ⟨k, rfl, hk, R3, n3, rfl⟩; (have HK := Lib.hid hk); clear hk)
  go_ret
  refine ⟨ret_bool HK.out, ?_⟩
  repeat (first | with_reducible exact Grew.refl _ | apply Grew.more | apply Grew.alloc | apply Grew.drew | apply Grew.drewN)

set_option maxHeartbeats 1000000 in
theorem codeFits_any (v : Value) (l : List Val) (w : World) (hv : ValsAt w v l) : Calls Tryz.prog 184 #[v] w (Gives (.bool (Co.fitsI l)) w) := by
  obtain ⟨a, cap, rfl, hm, -⟩ := hv.open2
  have HV := Lib.hid hv
  clear hv
  have hF : Co.fitsI l = (decide (l.length ≤ 24) && l.all Co.rightI) := rfl
  have HF := Lib.hid hF
  clear hF
  go_enter Tryz.func184, Tryz.ntmps184
  go_wp2_with (go_at_call 202; refine (containsWrong_any _ l _ HV.out).mono ?_; rintro e w1 ⟨rfl, R3, n3, rfl⟩)
  all_goals
    go_ret
    refine ⟨ret_bool (by rw [HF.out]; grind), ?_⟩
    repeat (first | with_reducible exact Grew.refl _ | apply Grew.more | apply Grew.alloc | apply Grew.drew | apply Grew.drewN)

set_option maxHeartbeats 1000000 in
theorem refFits_any (v : Value) (l : List Val) (w : World) (hv : ValsAt w v l) : Calls Tryz.prog 78 #[v] w (Gives (.bool (Co.fitsI l)) w) := by
  obtain ⟨a, cap, rfl, hm, hl⟩ := hv.open2
  have hF : Co.fitsI l = (decide (l.length ≤ 24) && l.all Co.rightI) := rfl
  have HF := Lib.hid hF
  clear hF
  go_enter Tryz.func78, Tryz.ntmps78
  go_wp2
  go_loopw [3] (fun i wr => ∃ (k : Nat), k ≤ l.length ∧ i = .int .i64 k ∧ (l.take k).all Co.rightI = true ∧ Grew w wr) (fun i _ => l.length - (intOf i).toNat)
  case atStart => exact ⟨0, Nat.zero_le _, rfl, rfl, Grew.refl _⟩
  case round =>
    obtain ⟨k, hk, rfl, hall, R, n, rfl⟩ := hrel
    have HA := Lib.hid hall
    clear hall
    by_cases hlt : k < l.length
    · obtain ⟨b, off, rfl, hb, hx, hy⟩ := hl k hlt
      have hs := take_all_succ (p := Co.rightI) hlt HA.out
      have hf := all_false_at (p := Co.rightI) hlt
      generalize l[k] = xy at *
      obtain ⟨x, y⟩ := xy
      cases hr : Co.rightI (x, y)
      all_goals
        have HS := Lib.hid hs
        have HF2 := Lib.hid hf
        have HR := Lib.hid hr
        clear hs hl hf hr
        simp only at hx hy
        go_wp2_with (go_at_call 113; refine (refRight_any _ _ _).mono ?_; rintro e w1 ⟨rfl, R3, n3, rfl⟩; rw [HR.out])
      · go_ret
        refine ⟨ret_bool ?_, ?_⟩
        · rw [HF.out, HF2.out HR.out]; simp
        · repeat (first | with_reducible exact Grew.refl _ | apply Grew.more | apply Grew.alloc | apply Grew.drew | apply Grew.drewN)
      · go_roundw
        case rel => exact ⟨k + 1, by omega, by go_num, HS.out HR.out, by repeat (first | with_reducible exact Grew.refl _ | apply Grew.more | apply Grew.alloc | apply Grew.drew | apply Grew.drewN)⟩
        case measure => first | (simp [intOf]; done) | (simp [intOf]; omega)
    · obtain rfl : k = l.length := by omega
      have hz := HA.out
      rw [List.take_length] at hz
      have HZ := Lib.hid hz
      clear hz hl HA
      go_wp2
      go_ret
      refine ⟨ret_bool ?_, ?_⟩
      · rw [HF.out, HZ.out]; simp; omega
      · repeat (first | with_reducible exact Grew.refl _ | apply Grew.more | apply Grew.alloc | apply Grew.drew | apply Grew.drewN)

theorem run_neq_ins (x y p q : Int) (b : Bool) (hb : b = !(decide (x = p) && decide (y = q))) (w : World) : (binOp .neq 153 (.agg #[.int .i64 x, .int .i64 y]) (.agg #[.int .i64 p, .int .i64 q])).run Tryz.prog w = .ok (.bool b) w := by
  subst hb
  by_cases h1 : x = p <;> by_cases h2 : y = q <;> simp [go_sem, h1, h2, Tryz.underlying153, Tryz.underlying3]
theorem take_eq_succ {α : Type} {l m : List α} {k : Nat} (h : k < l.length) (hm : k < m.length) (h1 : l.take k = m.take k) (h2 : l[k] = m[k]) : l.take (k + 1) = m.take (k + 1) := by
  rw [List.take_succ_eq_append_getElem h, List.take_succ_eq_append_getElem hm, h1, h2]
theorem neq_at {α : Type} {l m : List α} {k : Nat} (h : k < l.length) (hm : k < m.length) (h2 : l[k] ≠ m[k]) : l ≠ m := by
  rintro rfl; exact h2 rfl

set_option maxHeartbeats 2000000 in
theorem refSame_any (v u : Value) (l m : List Val) (w : World) (hv : ValsAt w v l) (hu : ValsAt w u m) : Calls Tryz.prog 82 #[v, u] w (Gives (.bool (decide (l = m))) w) := by
  obtain ⟨a, cap, rfl, hm, hl⟩ := hv.open2
  obtain ⟨a2, cap2, rfl, hm2, hl2⟩ := hu.open2
  clear hv hu
  by_cases hlen : l.length = m.length
  · have hD : decide ((l.length : Int) = (m.length : Int)) = true := by rw [hlen]; simp
    have hD2 : ((l.length : Int) != (m.length : Int)) = false := by rw [hlen]; simp
    have HLEN := Lib.hid hlen
    clear hlen
    go_enter Tryz.func82, Tryz.ntmps82
    go_wp2
    go_loopw [5] (fun i wr => ∃ (k : Nat), k ≤ l.length ∧ i = .int .i64 k ∧ l.take k = m.take k ∧ Grew w wr) (fun i _ => l.length - (intOf i).toNat)
    case atStart => exact ⟨0, Nat.zero_le _, rfl, rfl, Grew.refl _⟩
    case round =>
      obtain ⟨k, hk, rfl, hall, R, n, rfl⟩ := hrel
      have HA := Lib.hid hall
      clear hall
      by_cases hlt : k < l.length
      · have hlt2 : k < m.length := by have := HLEN.out; omega
        obtain ⟨b, off, rfl, hb, hx, hy⟩ := hl k hlt
        obtain ⟨b2, off2, rfl, hb2, hx2, hy2⟩ := hl2 k hlt2
        have hs := take_eq_succ hlt hlt2 HA.out
        have hf := neq_at hlt hlt2
        generalize l[k] = xy at *
        generalize m[k] = xy2 at *
        obtain ⟨x, y⟩ := xy
        obtain ⟨x2, y2⟩ := xy2
        simp only at hx hy hx2 hy2
        by_cases hr : ((x, y) : Val) = (x2, y2)
        all_goals
          have HS := Lib.hid hs
          have HF2 := Lib.hid hf
          have HR := Lib.hid hr
          clear hs hl hl2 hf
        · cases hr
          go_wp2
          refine wp_region_seq 9 Tryz.mixed (by kernel_rfl) (by kernel_rfl) ?_
          iterate 9
            apply Seq.val
            focus
              rintro w1 u ⟨R1, n1, rfl⟩ hF
              simp [moreFacts, Fact.more, Oper.deps, Region.binds, List.filter_cons, World.more_drew] at hF
              simp [putFacts, Oper.deps, Region.binds, List.filter_cons, Region.dstOf, Fact.at, Act.put, World.more_drew]
              go_wp2
              exact ⟨by repeat (first | with_reducible exact Grew.refl _ | apply Grew.more | apply Grew.alloc | apply Grew.drew | apply Grew.drewN), rfl, _, _, rfl, rfl, rfl⟩
          rintro u w1 ⟨R1, n1, rfl⟩ hF
          clear hF
          simp [putFacts, Region.dstOf, Fact.at, Act.put, List.range_succ, World.more_drew]
          go_wp2
          go_roundw
          case rel => exact ⟨k + 1, by omega, by go_num, HS.out (by first | exact rfl | trivial), by repeat (first | with_reducible exact Grew.refl _ | apply Grew.more | apply Grew.alloc | apply Grew.drew | apply Grew.drewN)⟩
          case measure => first | (simp [intOf]; done) | (simp [intOf]; omega)
        · have hq := run_neq_ins x y x2 y2 true (by
            have := HR.out
            by_cases e1 : x = x2 <;> by_cases e2 : y = y2 <;> simp [e1, e2]
            exact this (by rw [e1, e2]))
          go_wp2
          refine wp_region_seq 9 Tryz.mixed (by kernel_rfl) (by kernel_rfl) ?_
          iterate 9
            apply Seq.val
            focus
              rintro w1 u ⟨R1, n1, rfl⟩ hF
              simp [moreFacts, Fact.more, Oper.deps, Region.binds, List.filter_cons, World.more_drew] at hF
              simp [putFacts, Oper.deps, Region.binds, List.filter_cons, Region.dstOf, Fact.at, Act.put, World.more_drew]
              go_wp2
              exact ⟨by repeat (first | with_reducible exact Grew.refl _ | apply Grew.more | apply Grew.alloc | apply Grew.drew | apply Grew.drewN), rfl, _, _, rfl, rfl, rfl⟩
          rintro u w1 ⟨R1, n1, rfl⟩ hF
          clear hF
          simp [putFacts, Region.dstOf, Fact.at, Act.put, List.range_succ, World.more_drew]
          go_wp2
          go_ret
          refine ⟨ret_bool (by rw [decide_eq_false (HF2.out HR.out)]), ?_⟩
          repeat (first | with_reducible exact Grew.refl _ | apply Grew.more | apply Grew.alloc | apply Grew.drew | apply Grew.drewN)
      · obtain rfl : k = l.length := by omega
        have hz := HA.out
        rw [List.take_length, List.take_of_length_le (by have := HLEN.out; omega)] at hz
        have HZ := Lib.hid hz
        clear hz hl hl2 HA
        go_wp2
        go_ret
        refine ⟨ret_bool ?_, ?_⟩
        · rw [HZ.out]; simp
        · repeat (first | with_reducible exact Grew.refl _ | apply Grew.more | apply Grew.alloc | apply Grew.drew | apply Grew.drewN)
  · have hD2 : ((l.length : Int) != (m.length : Int)) = true := by rw [bne_iff_ne]; omega
    have hne : l ≠ m := fun e => hlen (by rw [e])
    have HNE := Lib.hid hne
    clear hne hlen hl hl2
    go_enter Tryz.func82, Tryz.ntmps82
    go_wp2
    go_ret
    refine ⟨ret_bool (by rw [decide_eq_false HNE.out]), ?_⟩
    repeat (first | with_reducible exact Grew.refl _ | apply Grew.more | apply Grew.alloc | apply Grew.drew | apply Grew.drewN)
end Go.Proofs.YtmdmbimfdpngaaaGreat
