import Derived.Test.YtmdmbimfdpngaaaGreatMs44
import Derived.Test.YtmdmbimfdpngaaaGreatMs18
import Derived.Test.YtmdmbimfdpngaaaGreatMs23
import Derived.Test.YtmdmbimfdpngaaaGreatMs6
import Derived.Test.YtmdmbimfdpngaaaGreatMs11
import Derived.Test.YtmdmbimfdpngaaaGreatMs3
import Derived.Test.YtmdmbimfdpngaaaGreatMs9
import Derived.Deep.QuietTactic
import Derived.BigQuiet
/-! pack.Right: it is the document's. -/
namespace Go.Proofs.YtmdmbimfdpngaaaGreat
set_option linter.unusedSimpArgs false
set_option linter.unusedVariables false
open Go.RowKit Ga
set_option maxRecDepth 100000

def srtE (l : List Tab.En) : List Tab.En := l.mergeSort fun a b => decide (Tab.num a ≤ Tab.num b)
theorem srtE_perm (l : List Tab.En) : (srtE l).Perm l := List.mergeSort_perm l _
theorem srtE_sorted (l : List Tab.En) : (srtE l).Pairwise fun a b => Tab.num a ≤ Tab.num b := by
  have := List.pairwise_mergeSort (le := fun a b : Tab.En => decide (Tab.num a ≤ Tab.num b)) (fun a b c h1 h2 => by simp at *; omega) (fun a b => by simp; omega) l
  exact this.imp fun h => by simpa using h
theorem badE_no {g : List Gr.Nd} {x : Tab.En} : badE g x = false ↔ ∃ n, Gr.nodeOf g x.node = some n ∧ n.kind = 1 := by
  unfold badE
  cases h : Gr.nodeOf g x.node with
  | none => simp
  | some n =>
    simp only [Option.some.injEq]
    constructor
    · intro hk
      exact ⟨n, rfl, by simpa using hk⟩
    · rintro ⟨m, rfl, hk⟩
      simp [hk]
theorem lineB_iff {x : Gr.Ln} : lineB x = true ↔ (0 ≤ x.sink ∧ x.sink ≤ 7) ∧ (0 ≤ x.frm ∧ x.frm ≤ 7) ∧ (0 ≤ x.key ∧ x.key < 64) ∧ rightV x.v = true := by
  unfold lineB
  simp only [Bool.and_eq_true, numB_iff]
  constructor
  · rintro ⟨h1, h2, h3, h4⟩
    exact ⟨h1, h2, ⟨h3.1, by omega⟩, h4⟩
  · rintro ⟨h1, h2, h3, h4⟩
    exact ⟨h1, h2, ⟨h3.1, by omega⟩, h4⟩
theorem okEn_iff {x : Tab.En} : okEn x = true ↔ (0 ≤ x.node ∧ x.node < 8) ∧ (0 ≤ x.key ∧ x.key < 64) ∧ rightV x.c0 = true ∧ rightV x.c1 = true := by
  unfold okEn
  rw [Bool.and_eq_true, Bool.and_eq_true, thereB_iff]
  unfold There
  exact ⟨fun ⟨⟨a, b⟩, c, d⟩ => ⟨a, b, c, d⟩, fun ⟨a, b, c, d⟩ => ⟨⟨a, b⟩, c, d⟩⟩
theorem any_not {α : Type} {l : List α} {p : α → Bool} : (!(l.any fun x => !(p x))) = true ↔ ∀ x ∈ l, p x = true := by
  rw [Bool.not_eq_true', List.any_eq_false]
  constructor
  · intro h x hx
    have := h x hx
    simpa using this
  · intro h x hx
    rw [h x hx]
    simp
open Classical in
theorem entB_iff {l : List Tab.En} {g : List Gr.Nd} : entB l g = true ↔ (∀ x ∈ l, okEn x = true) ∧ ((l.Pairwise fun a b => Tab.num a < Tab.num b) ∧ ∀ x ∈ l, Tab.nz x = true) ∧ ∀ x ∈ l, badE g x = false := by
  unfold entB newOk
  rw [Bool.and_eq_true, Bool.and_eq_true, List.all_eq_true, decide_eq_true_eq, Bool.not_eq_true', List.any_eq_false]
  refine ⟨fun ⟨h1, h2, h3⟩ => ⟨h1, h2, fun x hx => ?_⟩, fun ⟨h1, h2, h3⟩ => ⟨h1, h2, fun x hx => ?_⟩⟩
  · have := h3 x hx
    simpa using this
  · rw [h3 x hx]
    simp
open Classical in
theorem plB_iff {p : List Gr.Stp} : plB p = true ↔ p = [] ∨ (Gr.OkPl fitsP p ∧ p.map Gr.cleanS = p) := by unfold plB; rw [decide_eq_true_eq]
theorem sortedB_iff {l : List Gr.Nd} : sortedB l = true ↔ Gr.sortedG l := by unfold sortedB Gr.sortedG; rw [decide_eq_true_eq]
open Classical in
theorem rightB_iff {m : Gr.Mf} : rightB m = true ↔ Gr.RightM fitsP m := by
  rw [← Gr.rightM_iff (s := srtE (Tab.newT m.ents)) (srtE_perm _) (srtE_sorted _)]
  have hal := Tab.all_iff (srtE_perm (Tab.newT m.ents)) (srtE_sorted _)
  unfold rightB
  rw [Bool.and_eq_true, Bool.and_eq_true, Bool.and_eq_true, Bool.and_eq_true, Bool.and_eq_true, Bool.and_eq_true, Bool.and_eq_true, Bool.and_eq_true, Bool.and_eq_true, numB_iff, numB_iff, decide_eq_true_eq, decide_eq_true_eq, plB_iff, any_not, entB_iff, any_not, beq_iff_eq]
  constructor
  · rintro ⟨h1, h2, h3, h4, h5, h6, h7, h8, ⟨h9, h10, h11⟩, h12⟩
    have hr := checkR_zero h3
    obtain ⟨src, hsrc⟩ := source_some hr
    have hal2 := hal.2 h10
    refine ⟨h1, h2, hr, ?_, by omega, h6, ⟨src, hsrc, ?_⟩, fun x hx => numB_iff.1 (h8 x hx), fun x hx => okEn_iff.1 (h9 x hx), hal2, fun x hx => badE_no.1 (h11 x (by rw [← hal2]; exact hx)), fun x hx => lineB_iff.1 (h12 x hx)⟩
    · exact sortedB_iff.1 h4
    · rw [h7]
      unfold parOf
      rw [hsrc]
  · intro h
    refine ⟨h.ep, h.pl, checkR_ok h.gr.len h.gr, ?_, by have := h.ol; omega, h.pn, ?_, fun x hx => numB_iff.2 (h.o4 x hx), ⟨fun x hx => okEn_iff.2 (h.en x hx), hal.1 h.al, fun x hx => badE_no.2 (h.ft x (by rw [h.al]; exact hx))⟩, fun x hx => lineB_iff.2 (h.ou x hx)⟩
    · exact sortedB_iff.2 h.so
    · obtain ⟨n, hn, e⟩ := h.of
      rw [e]
      unfold parOf
      rw [hn]
end Go.Proofs.YtmdmbimfdpngaaaGreat

/-! snap.First. -/
namespace Go.Proofs.YtmdmbimfdpngaaaGreat
set_option linter.unusedSimpArgs false
set_option linter.unusedVariables false
open Go.RowKit Ga
set_option maxRecDepth 100000

/-- a graph's first manifest -/
def firstM (g : List Gr.Nd) : Gr.Mf := ⟨0, 0, List.replicate (parOf g).toNat 0, Gr.normG g, [], [], []⟩
theorem parOf_range {g : List Gr.Nd} (h : Gr.RightR g) : 1 ≤ parOf g ∧ parOf g ≤ 3 := by
  obtain ⟨n, hn⟩ := source_some h
  unfold parOf
  rw [hn]
  exact (right_par h n (Gr.nodeOf_some hn).1).1
theorem first_right {g : List Gr.Nd} (h : Gr.RightR g) : rightB (firstM g) = true := by
  refine rightB_iff.2 ?_
  have hn := right_norm h
  have hs := Gr.normG_sorted g
  have hno : ∀ {α : Type} {p : α → Prop}, ∀ x ∈ ([] : List α), p x := fun x hx => by cases hx
  refine { ep := ⟨Int.le_refl _, ?_⟩, pl := ⟨Int.le_refl _, ?_⟩, gr := hn, so := hs, of := ?_, o4 := ?_, en := hno, ei := List.Pairwise.nil, ek := hno, ol := Nat.zero_le _, ou := hno, pn := .inl rfl }
  · show (0 : Int) ≤ 2147483647; decide
  · show (0 : Int) ≤ 2147483647; decide
  · obtain ⟨n, h1⟩ := source_some hn
    refine ⟨n, ?_, ?_⟩
    · show (Gr.normG g).head? = some n
      rw [← Gr.head_source hn hs]; exact h1
    · have hp := parOf_range h
      show ((List.replicate (parOf g).toNat (0 : Int)).length : Int) = n.par
      rw [List.length_replicate]
      have : parOf g = n.par := by
        unfold parOf
        rw [← nodeOf_norm h, h1]
      omega
  · intro x hx
    obtain ⟨-, rfl⟩ := List.mem_replicate.1 hx
    omega
def FirstPost (w : World) (g : List Gr.Nd) (e : Ending) (w' : World) : Prop :=
  (Gr.RightR g → ∃ ao co ag cg, e = .returned (.tuple #[.agg #[.int .i64 0, .int .i64 0, .slice ao (parOf g).toNat co, .slice ag (Gr.normG g).length cg, .slice none 0 0, .slice none 0 0, .slice none 0 0], .int .i64 0]) ∧ IntsAt w' (.slice ao (parOf g).toNat co) (List.replicate (parOf g).toNat 0) ∧ NodesAt w' (.slice ag (Gr.normG g).length cg) (Gr.normG g)) ∧
  (¬ Gr.RightR g → e = .returned (.tuple #[.agg #[.int .i64 0, .int .i64 0, .slice none 0 0, .slice none 0 0, .slice none 0 0, .slice none 0 0, .slice none 0 0], .int .i64 10])) ∧ Grew w w'
def IntsZ (base p : Nat) (v : Value) (w : World) : Prop := ∃ b : Nat, v = .slice (some ⟨b, 0, none⟩) p p ∧ base ≤ b ∧ w.heap[b]? = some (.cells (Array.replicate p (.int .i64 0)) 3)
theorem IntsZ.st (base p : Nat) : ∀ v w w', IntsZ base p v w → Grew w w' → IntsZ base p v w' := fun _ _ _ ⟨b, h1, h2, h3⟩ g => ⟨b, h1, h2, grew_heap g h3⟩
theorem IntsZ.ints {base p : Nat} {v : Value} {w : World} (h : IntsZ base p v w) (hp : p ≤ 100) : IntsAt w v (List.replicate p 0) := by
  obtain ⟨b, rfl, -, h3⟩ := h
  refine ⟨_, p, by simp, by simp [maxLen]; omega, fun _ => ⟨b, 0, rfl, fun i x hi j u hu => ?_⟩⟩
  rw [cell_of h3]
  rw [List.getElem?_replicate] at hi
  split at hi
  · cases hi
    match j, hu with
    | 0, hu =>
      simp at hu
      subst hu
      rw [show 0 + i * 1 + 0 = i by omega, Array.getElem?_replicate, if_pos ‹_›]
  · cases hi
def IsFirst (base p : Nat) (g : List Gr.Nd) (v : Value) (w : World) : Prop := ∃ (b : Nat) (ag : Option Addr) (cg : Nat), v = .agg #[.int .i64 0, .int .i64 0, .slice (some ⟨b, 0, none⟩) p p, .slice ag g.length cg, .slice none 0 0, .slice none 0 0, .slice none 0 0] ∧ IntsZ base p (.slice (some ⟨b, 0, none⟩) p p) w ∧ NodesV base g (.slice ag g.length cg) w
theorem IsFirst.st (base p : Nat) (g : List Gr.Nd) : ∀ v w w', IsFirst base p g v w → Grew w w' → IsFirst base p g v w' := fun _ _ _ ⟨b, a, c, h1, h2, h3⟩ q => ⟨b, a, c, h1, IntsZ.st _ _ _ _ _ h2 q, NodesV.st _ _ _ _ _ h3 q⟩
theorem IsFirst.keep {base p : Nat} {g : List Gr.Nd} {b : Nat} {ag : Option Addr} {cg : Nat} {w w' : World} (h : IntsZ base p (.slice (some ⟨b, 0, none⟩) p p) w ∧ NodesV base g (.slice ag g.length cg) w) (hk : ∀ b, base ≤ b → b < w.heap.size → w'.heap[b]? = w.heap[b]?) (hp : p ≤ 100) : IntsAt w' (.slice (some ⟨b, 0, none⟩) p p) (List.replicate p 0) ∧ NodesAt w' (.slice ag g.length cg) g := by
  refine ⟨?_, (h.2.keep hk).at'⟩
  obtain ⟨⟨b', h1, h2, h3⟩, -⟩ := h
  cases h1
  exact IntsZ.ints ⟨b, rfl, h2, by rw [hk b h2 (heap_lt h3)]; exact h3⟩ hp
/-- two worlds that differ in one block at most -/
def SameBut (r : Nat) (W W' : World) : Prop := W.heap.size = W'.heap.size ∧ ∀ b, b ≠ r → W'.heap[b]? = W.heap[b]?
theorem SameBut.mk (w : World) (o o' : Obj) : SameBut w.heap.size (w.alloc o) (w.alloc o') := by
  refine ⟨by simp [World.size_alloc], fun b hb => ?_⟩
  show (w.heap.push o')[b]? = (w.heap.push o)[b]?
  rw [Array.getElem?_push, Array.getElem?_push, if_neg hb, if_neg hb]
theorem SameBut.more {r : Nat} {W W' : World} (h : SameBut r W W') (R : Array Obj) (n : Nat) : SameBut r (W.more R n) (W'.more R n) := by
  refine ⟨by simp [World.more_size, h.1], fun b hb => ?_⟩
  rcases Nat.lt_or_ge b W.heap.size with q | q
  · rw [World.heap_more R n b q, World.heap_more R n b (by rw [← h.1]; exact q)]
    exact h.2 b hb
  · exact heap_more_same h.1 R n b q
theorem SameBut.alloc {r : Nat} {W W' : World} (h : SameBut r W W') (o : Obj) : SameBut r (W.alloc o) (W'.alloc o) := by
  refine ⟨by simp [World.size_alloc, h.1], fun b hb => ?_⟩
  show (W'.heap.push o)[b]? = (W.heap.push o)[b]?
  rw [Array.getElem?_push, Array.getElem?_push, h.1]
  split
  · rfl
  · exact h.2 b hb
theorem SameBut.drewl {r : Nat} {W W' : World} (h : SameBut r W W') : SameBut r W.drew W' := h
theorem SameBut.at {r : Nat} {W W' : World} (h : SameBut r W W') (b : Nat) (hb : b ≠ r) : W'.heap[b]? = W.heap[b]? := h.2 b hb
theorem infoIntF : (Tryz.prog.info? 3).map (fun i => (i.zero, i.size, i.bytes)) = some (some (.int .i64 0), 1, 8) := by kernel_rfl
theorem make_ints (p : Nat) (hp3 : p = 1 ∨ p = 2 ∨ p = 3) (W : World) : (Instr.makeSlice 22 (.int .i64 (p : Int)) (.int .i64 (p : Int))).run Tryz.prog W = .ok (.slice (some ⟨W.heap.size, 0, none⟩) p p) (W.alloc (.cells (Array.replicate p (.int .i64 0)) 3)) := by
  obtain ⟨i, hi, hz0, hz1, hz2⟩ := info_parts infoIntF
  have h := run_makeSlice (P := Tryz.prog) W 22 3 i (.int .i64 0) Tryz.underlying22 hi hz0 .i64 .i64 (p : Int) (p : Int) (by omega) (by omega) (by rw [hz1]; omega) (by rw [hz2]; omega) (by omega)
  rw [h, hz1]
  have hm : ∀ q : Nat, q = 1 ∨ q = 2 ∨ q = 3 → madeCells (Value.int .i64 0).cells ((q : Int).toNat * 1) = Array.replicate q (Value.int .i64 0) := fun q hq => by
    rcases hq with rfl | rfl | rfl <;> kernel_rfl
  rw [hm p hp3, Int.toNat_natCast]
set_option maxHeartbeats 8000000 in
theorem first_any (v : Value) (g : List Gr.Nd) (w : World) (hv : NodesAt w v g) (hs : Small g) : Calls Tryz.prog 11 #[v] w (FirstPost w g) := by
  have HC := Lib.hid fun W (q : Grew w W) => check_graph v g W (hv.grew q) hs
  by_cases hr : Gr.RightR g
  case neg =>
    refine Calls.mono (R := Gives (.tuple #[.agg #[.int .i64 0, .int .i64 0, .slice none 0 0, .slice none 0 0, .slice none 0 0, .slice none 0 0, .slice none 0 0], .int .i64 10]) w) ?_ fun e w' h => ⟨fun q => absurd q hr, fun _ => h.1, h.2⟩
    have hck := checkR_pos hr
    generalize checkR g = ck at *
    obtain ⟨a, cap, rfl, hm, -⟩ := hv.openC
    clear hv hs hr
    go_enter Tryz.func11, Tryz.ntmps11
    go_wp2_with (go_at_call 32; refine (HC.out _ (by repeat (first | with_reducible exact Grew.refl _ | apply Grew.more | apply Grew.alloc | apply Grew.drew | apply Grew.drewN))).mono ?_; rintro e w1 ⟨rfl, R1, n1, rfl⟩)
    refine bodyPost_ret (v := .tuple #[.agg #[.int .i64 0, .int .i64 0, .slice none 0 0, .slice none 0 0, .slice none 0 0, .slice none 0 0, .slice none 0 0], .int .i64 10]) (by simp [results, Tryz.results11, go_sem]) rfl ?_
    refine ⟨rfl, ?_⟩
    repeat (first | with_reducible exact Grew.refl _ | apply Grew.more | apply Grew.alloc | refine Grew.set ?_ (Nat.le_refl _) _)
  have hck := checkR_nil hr
  rw [hck] at HC
  have hpr := parOf_range hr
  obtain ⟨src, hsrc⟩ := source_some hr
  have hpo : parOf g = src.par := by unfold parOf; rw [hsrc]
  have HF := Lib.hid fun W (q : Grew w W) => find_any v g 0 W (hv.grew q) hs
  rw [hsrc] at HF
  have HN := Lib.hid fun W (q : Grew w W) => normO_any v g W (hv.grew q) hs hr
  obtain ⟨p, hp⟩ : ∃ p : Nat, src.par = (p : Int) := ⟨src.par.toNat, by omega⟩
  have hp3 : p = 1 ∨ p = 2 ∨ p = 3 := by omega
  have hpn : (parOf g).toNat = p := by omega
  have HPN := Lib.hid hpn
  have hmk := make_ints p hp3
  have HSP := Lib.hid hp
  have HP3 := Lib.hid hp3
  have hp1 : 1 ≤ p := by omega
  have hp9 : p ≤ 3 := by omega
  obtain ⟨a, cap, rfl, hm, -⟩ := hv.openC
  refine Calls.mono (R := fun e w' => ∃ ao co ag cg, e = .returned (.tuple #[.agg #[.int .i64 0, .int .i64 0, .slice ao (parOf g).toNat co, .slice ag (Gr.normG g).length cg, .slice none 0 0, .slice none 0 0, .slice none 0 0], .int .i64 0]) ∧ IntsAt w' (.slice ao (parOf g).toNat co) (List.replicate (parOf g).toNat 0) ∧ NodesAt w' (.slice ag (Gr.normG g).length cg) (Gr.normG g) ∧ Grew w w') ?_ fun e w' ⟨ao, co, ag, cg, h1, h2, h3, h4⟩ => ⟨fun _ => ⟨ao, co, ag, cg, h1, h2, h3⟩, fun q => absurd hr q, h4⟩
  clear hv hs hr hck hpr hsrc hpo hpn hp hp3
  rw [HPN.out]
  go_enter Tryz.func11, Tryz.ntmps11
  go_wp2_with (first
    | (go_at_call 32; refine (HC.out _ (by repeat (first | with_reducible exact Grew.refl _ | apply Grew.more | apply Grew.alloc | apply Grew.drew | apply Grew.drewN))).mono ?_; rintro e w1 ⟨rfl, R1, n1, rfl⟩)
    | (go_at_call 33; refine (HF.out _ (by repeat (first | with_reducible exact Grew.refl _ | apply Grew.more | apply Grew.alloc | apply Grew.drew | apply Grew.drewN))).mono ?_; rintro e w2 ⟨c9, rfl, hc9, -, R2, n2, rfl⟩; (have hcp := hc9.par); rw [HSP.out] at hcp; (have HCP := Lib.hid hcp); clear hc9 hcp))
  rw [← HCP.out]
  refine wp_region_seq 6 Tryz.mixed (by kernel_rfl) (by kernel_rfl) ?_
  iterate 2
    apply Seq.val
    focus
      rintro w1 u ⟨R1, n1, rfl⟩ hF
      simp [moreFacts, Fact.more, Oper.deps, Region.binds, List.filter_cons, World.more_drew] at hF
      simp [putFacts, Oper.deps, Region.binds, List.filter_cons, Region.dstOf, Fact.at, Act.put, World.more_drew]
      go_wp2
      exact ⟨by repeat (first | with_reducible exact Grew.refl _ | apply Grew.more | apply Grew.alloc | apply Grew.drew | apply Grew.drewN), rfl, _, _, rfl, rfl, rfl⟩
  apply Seq.of (IntsZ (w.heap.size + 1) p) (IntsZ.st _ p)
  focus
    rintro w1 u ⟨R1, n1, rfl⟩ hF
    simp [moreFacts, Fact.more, Oper.deps, Region.binds, List.filter_cons, World.more_drew] at hF
    simp [putFacts, Oper.deps, Region.binds, List.filter_cons, Region.dstOf, Fact.at, Act.put, World.more_drew]
    go_wp2_with fail
    exact ⟨by repeat (first | with_reducible exact Grew.refl _ | apply Grew.more | apply Grew.alloc | apply Grew.drew | apply Grew.drewN), rfl, _, _, rfl, rfl, ⟨_, rfl, by first | omega | (simp [go_sem]; omega), heap_new_at _ _ _ (by first | rfl | simp [go_sem] | (simp [go_sem]; omega))⟩⟩
  iterate 1
    apply Seq.val
    focus
      rintro w1 u ⟨R1, n1, rfl⟩ hF
      simp [moreFacts, Fact.more, Oper.deps, Region.binds, List.filter_cons, World.more_drew] at hF
      simp [putFacts, Oper.deps, Region.binds, List.filter_cons, Region.dstOf, Fact.at, Act.put, World.more_drew]
      go_wp2
      exact ⟨by repeat (first | with_reducible exact Grew.refl _ | apply Grew.more | apply Grew.alloc | apply Grew.drew | apply Grew.drewN), rfl, _, _, rfl, rfl, rfl⟩
  apply Seq.of (NodesV (w.heap.size + 1) (Gr.normG g)) (NodesV.st _ _)
  focus
    rintro w1 u ⟨R1, n1, rfl⟩ hF
    simp [moreFacts, Fact.more, Oper.deps, Region.binds, List.filter_cons, World.more_drew] at hF
    simp [putFacts, Oper.deps, Region.binds, List.filter_cons, Region.dstOf, Fact.at, Act.put, World.more_drew]
    go_wp2_with (first
      | (go_at_call 34; go_loud (refine (HN.out _ (by repeat (first | with_reducible exact Grew.refl _ | apply Grew.more | apply Grew.alloc | apply Grew.drew | apply Grew.drewN))).mono ?_); rintro e w3 ⟨v3, lc3, rfl, hv3, hi3, R3, n3, rfl⟩; obtain ⟨a3, c3, hv9, -, -⟩ := (hi3.at hv3).openC; subst hv9; (have HV3 : Hid (NodesV _ (Gr.normG g) _ _) := Lib.hid ⟨a3, c3, lc3, rfl, hv3, hi3⟩); clear hv3 hi3)
      )
    exact ⟨by repeat (first | with_reducible exact Grew.refl _ | apply Grew.more | apply Grew.alloc | apply Grew.drew | apply Grew.drewN), rfl, _, _, rfl, rfl, NodesV.low HV3.out (by simp [go_sem]; omega)⟩
  apply Seq.of (IsFirst (w.heap.size + 1) p (Gr.normG g)) (IsFirst.st _ _ _)
  focus
    rintro w1 u ⟨R1, n1, rfl⟩ hF
    simp [moreFacts, Fact.more, Oper.deps, Region.binds, List.filter_cons, World.more_drew] at hF
    simp [putFacts, Oper.deps, Region.binds, List.filter_cons, Region.dstOf, Fact.at, Act.put, World.more_drew]
    obtain ⟨⟨b2, hu2, h2⟩, a4, c4, lc4, hu4, h4⟩ := hF; rw [hu2, hu4]; (have H2 := Lib.hid h2); (have H4 := Lib.hid h4); clear h2 h4
    go_wp2
    exact ⟨by repeat (first | with_reducible exact Grew.refl _ | apply Grew.more | apply Grew.alloc | apply Grew.drew | apply Grew.drewN), rfl, _, _, rfl, rfl, ⟨_, _, _, rfl, ⟨_, rfl, H2.out⟩, ⟨_, _, _, rfl, by rw [← hu4]; exact H4.out⟩⟩⟩
  rintro u w1 ⟨R4, n4, rfl⟩ hF
  simp [moreFacts, Fact.more, apartFacts, Fact.isNew, List.range_succ] at hF
  simp [putFacts, Region.dstOf, Fact.at, Act.put, List.range_succ, World.more_drew]
  obtain ⟨-, -, b9, ag9, cg9, hu9, h9⟩ := hF
  rw [hu9]
  have H9 := Lib.hid h9
  clear h9
  go_wp2_with fail
  refine bodyPost_ret (v := .tuple #[.agg #[.int .i64 0, .int .i64 0, .slice (some ⟨b9, 0, none⟩) p p, .slice ag9 (Gr.normG g).length cg9, .slice none 0 0, .slice none 0 0, .slice none 0 0], .int .i64 0]) (by simp [results, Tryz.results11, go_sem]) rfl ?_
  refine ⟨_, _, _, _, rfl, ?_⟩
  rw [← and_assoc]
  refine ⟨IsFirst.keep H9.out (fun b hb _ => SameBut.at (r := w.heap.size) ?_ b (by omega)) (by omega), by repeat (first | with_reducible exact Grew.refl _ | apply Grew.more | apply Grew.alloc | apply Grew.drew | apply Grew.drewN)⟩
  repeat (first | with_reducible exact SameBut.mk _ _ _ | with_reducible apply SameBut.more | with_reducible apply SameBut.alloc | with_reducible apply SameBut.drewl)
end Go.Proofs.YtmdmbimfdpngaaaGreat

/-! route: Right, Task. -/
namespace Go.Proofs.YtmdmbimfdpngaaaGreat
set_option linter.unusedSimpArgs false
set_option linter.unusedVariables false
open Go.RowKit Ga
set_option maxRecDepth 100000

theorem tmod8r' (k : Int) : -8 < k.tmod 8 ∧ k.tmod 8 < 8 ∧ (k.tmod 8) % 8 = k % 8 := by
  rw [Int.tmod_eq_emod]
  split <;> simp <;> omega
theorem tmod8' (k : Int) : (k.tmod 8 + 8).tmod 8 = k % 8 := by
  obtain ⟨h1, h2, h3⟩ := tmod8r' k
  rw [Int.tmod_eq_emod_of_nonneg (by omega)]
  omega
theorem groupOf_any (k : Int) (w : World) : Calls Tryz.prog 103 #[.int .i64 k] w fun e w' => e = .returned (.int .i64 (k % 8)) ∧ w = w' := by
  obtain ⟨h1, h3, -⟩ := tmod8r' k
  have h2 := tmod8' k
  go_enter Tryz.func103, Tryz.ntmps103
  go_wp2
  go_ret
  exact ⟨rfl, rfl⟩
/-- may a route be? -/
def rtB (par : Int) (r : List Int) : Bool := decide (1 ≤ par) && (decide (par ≤ 3) && r.all fun t => decide (0 ≤ t) && decide (t < par))
theorem rtB_iff {par : Int} {r : List Int} : rtB par r = true ↔ (1 ≤ par ∧ par ≤ 3) ∧ ∀ t ∈ r, 0 ≤ t ∧ t < par := by
  unfold rtB
  simp [and_assoc]
theorem index8 (r0 r1 r2 r3 r4 r5 r6 r7 : Int) (k : Nat) (hk : k < 8) (w : World) : (Instr.index 40 (.agg #[.int .i64 r0, .int .i64 r1, .int .i64 r2, .int .i64 r3, .int .i64 r4, .int .i64 r5, .int .i64 r6, .int .i64 r7]) (.int .i64 k)).run Tryz.prog w = .ok (.int .i64 ([r0, r1, r2, r3, r4, r5, r6, r7].getD k 0)) w := by
  rcases (show k = 0 ∨ k = 1 ∨ k = 2 ∨ k = 3 ∨ k = 4 ∨ k = 5 ∨ k = 6 ∨ k = 7 by omega) with rfl | rfl | rfl | rfl | rfl | rfl | rfl | rfl <;> kernel_rfl
set_option maxHeartbeats 4000000 in
theorem routeRight_any (par r0 r1 r2 r3 r4 r5 r6 r7 : Int) (w : World) : Calls Tryz.prog 67 #[.int .i64 par, .agg #[.int .i64 r0, .int .i64 r1, .int .i64 r2, .int .i64 r3, .int .i64 r4, .int .i64 r5, .int .i64 r6, .int .i64 r7]] w (Gives (.bool (rtB par [r0, r1, r2, r3, r4, r5, r6, r7])) w) := by
  have hmem : ∀ k, k < 8 → [r0, r1, r2, r3, r4, r5, r6, r7].getD k 0 ∈ [r0, r1, r2, r3, r4, r5, r6, r7] := fun k hk => by
    rw [List.getD_eq_getElem?_getD, List.getElem?_eq_getElem (by simpa using hk)]
    exact List.getElem_mem _
  have hall : (∀ k, k < 8 → 0 ≤ [r0, r1, r2, r3, r4, r5, r6, r7].getD k 0 ∧ [r0, r1, r2, r3, r4, r5, r6, r7].getD k 0 < par) → ∀ t ∈ [r0, r1, r2, r3, r4, r5, r6, r7], 0 ≤ t ∧ t < par := fun h t ht => by
    obtain ⟨i, hi, e⟩ := List.mem_iff_getElem.1 ht
    have := h i (by simpa using hi)
    rw [List.getD_eq_getElem?_getD, List.getElem?_eq_getElem hi, e] at this
    exact this
  have hix := index8 r0 r1 r2 r3 r4 r5 r6 r7
  have HIFF := Lib.hid (rtB_iff (par := par) (r := [r0, r1, r2, r3, r4, r5, r6, r7]))
  have HMEM := Lib.hid hmem
  have HALL := Lib.hid hall
  have HIX := Lib.hid hix
  clear hmem hall hix
  generalize hQ : rtB par [r0, r1, r2, r3, r4, r5, r6, r7] = q at *
  clear hQ
  by_cases h1 : 1 ≤ par
  case neg =>
    have hq : q = false := by cases hq : q; · rfl
                              · exact absurd (HIFF.out.1 hq).1.1 h1
    subst hq
    go_enter Tryz.func67, Tryz.ntmps67
    go_wp2
    go_ret
    refine ⟨rfl, ?_⟩
    repeat (first | with_reducible exact Grew.refl _ | apply Grew.more | apply Grew.alloc | apply Grew.drew | apply Grew.drewN)
  by_cases h2 : par ≤ 3
  case neg =>
    have hq : q = false := by cases hq : q; · rfl
                              · exact absurd (HIFF.out.1 hq).1.2 h2
    subst hq
    go_enter Tryz.func67, Tryz.ntmps67
    go_wp2
    go_ret
    refine ⟨rfl, ?_⟩
    repeat (first | with_reducible exact Grew.refl _ | apply Grew.more | apply Grew.alloc | apply Grew.drew | apply Grew.drewN)
  go_enter Tryz.func67, Tryz.ntmps67
  go_wp2
  go_loopg [14] 8 (fun gg s14 wr => ∃ k : Nat, k ≤ 8 ∧ 8 - k ≤ gg ∧ s14 = .int .i64 k ∧ Hid (Grew w wr) ∧ Hid (∀ j, j < k → 0 ≤ [r0, r1, r2, r3, r4, r5, r6, r7].getD j 0 ∧ [r0, r1, r2, r3, r4, r5, r6, r7].getD j 0 < par))
  case atStart => exact ⟨0, by omega, by omega, rfl, Lib.hid (by repeat (first | with_reducible exact Grew.refl _ | apply Grew.more | apply Grew.alloc | apply Grew.drew | apply Grew.drewN)), Lib.hid fun j h => by omega⟩
  case round =>
    obtain ⟨k, hk, hgg, rfl, HG, HNO⟩ := hrel
    by_cases hlt : k < 8
    · have hi := HIX.out k hlt
      have hm := HMEM.out k hlt
      have hstep : (0 ≤ [r0, r1, r2, r3, r4, r5, r6, r7].getD k 0 ∧ [r0, r1, r2, r3, r4, r5, r6, r7].getD k 0 < par) → ∀ j, j < k + 1 → 0 ≤ [r0, r1, r2, r3, r4, r5, r6, r7].getD j 0 ∧ [r0, r1, r2, r3, r4, r5, r6, r7].getD j 0 < par := fun h j hj => by
        rcases Nat.lt_or_ge j k with h1 | h1
        · exact HNO.out j h1
        · obtain rfl : j = k := by omega
          exact h
      generalize hy : [r0, r1, r2, r3, r4, r5, r6, r7].getD k 0 = y at *
      by_cases h3 : 0 ≤ y
      case neg =>
        have hq : q = false := by cases hq : q; · rfl
                                  · exact absurd ((HIFF.out.1 hq).2 y hm).1 h3
        subst hq
        clear hm hstep hy
        go_wp2
        go_ret
        exact ⟨rfl, HG.out.trans (by repeat (first | with_reducible exact Grew.refl _ | apply Grew.more | apply Grew.alloc | apply Grew.drew | apply Grew.drewN))⟩
      by_cases h4 : y < par
      case neg =>
        have hq : q = false := by cases hq : q; · rfl
                                  · exact absurd ((HIFF.out.1 hq).2 y hm).2 h4
        subst hq
        clear hm hstep hy
        go_wp2
        go_ret
        exact ⟨rfl, HG.out.trans (by repeat (first | with_reducible exact Grew.refl _ | apply Grew.more | apply Grew.alloc | apply Grew.drew | apply Grew.drewN))⟩
      have HS := Lib.hid (hstep ⟨h3, h4⟩)
      clear hm hstep hy
      go_wp2
      go_roundg (8 - (k + 1))
      case measure => omega
      case rel => exact ⟨k + 1, by omega, by omega, by go_num, HG, HS⟩
    · obtain rfl : k = 8 := by omega
      have hq : q = true := HIFF.out.2 ⟨⟨h1, h2⟩, HALL.out HNO.out⟩
      subst hq
      go_wp2
      go_ret
      exact ⟨rfl, HG.out.trans (by repeat (first | with_reducible exact Grew.refl _ | apply Grew.more | apply Grew.alloc | apply Grew.drew | apply Grew.drewN))⟩
set_option maxHeartbeats 4000000 in
theorem routeTask_any (r0 r1 r2 r3 r4 r5 r6 r7 k : Int) (w : World) : Calls Tryz.prog 68 #[.agg #[.int .i64 r0, .int .i64 r1, .int .i64 r2, .int .i64 r3, .int .i64 r4, .int .i64 r5, .int .i64 r6, .int .i64 r7], .int .i64 k] w (Gives (.int .i64 ([r0, r1, r2, r3, r4, r5, r6, r7].getD (k % 8).toNat 0)) w) := by
  obtain ⟨g, hg⟩ : ∃ g : Nat, (k % 8).toNat = g := ⟨_, rfl⟩
  have hk : k % 8 = (g : Int) := by omega
  have hg8 : g < 8 := by omega
  rw [hg]
  have HC := Lib.hid fun W => groupOf_any k W
  rw [hk] at HC
  clear hg hk
  have hc : ∀ W : World, W.heap[w.heap.size]? = some (.cells #[.int .i64 r0, .int .i64 r1, .int .i64 r2, .int .i64 r3, .int .i64 r4, .int .i64 r5, .int .i64 r6, .int .i64 r7] 40) → W.cell? ⟨w.heap.size, g, none⟩ = some (.int .i64 ([r0, r1, r2, r3, r4, r5, r6, r7].getD g 0)) := fun W h => by
    rw [cell_of h]
    rcases (show g = 0 ∨ g = 1 ∨ g = 2 ∨ g = 3 ∨ g = 4 ∨ g = 5 ∨ g = 6 ∨ g = 7 by omega) with rfl | rfl | rfl | rfl | rfl | rfl | rfl | rfl <;> rfl
  have c0 := hc _ (heap_new_at w (.cells #[.int .i64 r0, .int .i64 r1, .int .i64 r2, .int .i64 r3, .int .i64 r4, .int .i64 r5, .int .i64 r6, .int .i64 r7] 40) _ rfl)
  clear hc
  generalize [r0, r1, r2, r3, r4, r5, r6, r7].getD g 0 = y at *
  go_enter Tryz.func68, Tryz.ntmps68
  go_wp2_with (go_at_call 103; refine (HC.out _).mono ?_; rintro e w1 ⟨rfl, rfl⟩)
  go_ret
  refine ⟨rfl, ?_⟩
  repeat (first | with_reducible exact Grew.refl _ | apply Grew.more | apply Grew.alloc | apply Grew.drew | apply Grew.drewN)
end Go.Proofs.YtmdmbimfdpngaaaGreat
