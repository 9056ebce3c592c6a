import Derived.Test.YtpbohimddmploaaGreatCd30
import Derived.Test.YtpbohimddmploaaGreatCd44
import Derived.Deep.LoopGhost
set_option linter.unusedSimpArgs false
set_option linter.unusedVariables false
set_option maxRecDepth 100000
set_option maxHeartbeats 64000000
namespace Go.Proofs.YtpbohimddmploaaGreat
open Go.RowKit Ga

def firstM (g : List Gr.Nd) : Gr.Mf := ⟨0, 0, List.replicate (parOf g).toNat 0, Gr.normG g, [], [], []⟩
theorem parOf_range {g : List Gr.Nd} (h : Gr.RightR g) : 1 ≤ parOf g ∧ parOf g ≤ 3 := by
  obtain ⟨n, hn⟩ := source_some h
  unfold parOf
  rw [hn]
  exact (right_par h n (Gr.nodeOf_some hn).1).1
theorem first_right {g : List Gr.Nd} (h : Gr.RightR g) : rightB (firstM g) = true := by
  refine rightB_iff.2 ?_
  have hn := right_norm h
  have hs := Gr.normG_sorted g
  have hno : ∀ {α : Type} {p : α → Prop}, ∀ x ∈ ([] : List α), p x := fun x hx => by cases hx
  refine { ep := ⟨Int.le_refl _, ?_⟩, pl := ⟨Int.le_refl _, ?_⟩, gr := hn, so := hs, of := ?_, o4 := ?_, en := hno, ei := List.Pairwise.nil, ek := hno, ol := Nat.zero_le _, ou := hno, pn := .inl rfl }
  · show (0 : Int) ≤ 2147483647; decide
  · show (0 : Int) ≤ 2147483647; decide
  · obtain ⟨n, h1⟩ := source_some hn
    refine ⟨n, ?_, ?_⟩
    · show (Gr.normG g).head? = some n
      rw [← Gr.head_source hn hs]; exact h1
    · have hp := parOf_range h
      show ((List.replicate (parOf g).toNat (0 : Int)).length : Int) = n.par
      rw [List.length_replicate]
      have : parOf g = n.par := by
        unfold parOf
        rw [← nodeOf_norm h, h1]
      omega
  · intro x hx
    obtain ⟨-, rfl⟩ := List.mem_replicate.1 hx
    omega
def FirstPost (w : World) (g : List Gr.Nd) (e : Ending) (w' : World) : Prop :=
  (Gr.RightR g → ∃ ao co ag cg, e = .returned (.tuple #[.agg #[.int .i64 0, .int .i64 0, .slice ao (parOf g).toNat co, .slice ag (Gr.normG g).length cg, .slice none 0 0, .slice none 0 0, .slice none 0 0], .int .i64 0]) ∧ IntsAt w' (.slice ao (parOf g).toNat co) (List.replicate (parOf g).toNat 0) ∧ NodesAt w' (.slice ag (Gr.normG g).length cg) (Gr.normG g)) ∧
  (¬ Gr.RightR g → e = .returned (.tuple #[.agg #[.int .i64 0, .int .i64 0, .slice none 0 0, .slice none 0 0, .slice none 0 0, .slice none 0 0, .slice none 0 0], .int .i64 10])) ∧ Grew w w'
def IntsZ (base p : Nat) (v : Value) (w : World) : Prop := ∃ b : Nat, v = .slice (some ⟨b, 0, none⟩) p p ∧ base ≤ b ∧ w.heap[b]? = some (.cells (Array.replicate p (.int .i64 0)) 3)
theorem IntsZ.st (base p : Nat) : ∀ v w w', IntsZ base p v w → Grew w w' → IntsZ base p v w' := fun _ _ _ ⟨b, h1, h2, h3⟩ g => ⟨b, h1, h2, grew_heap g h3⟩
theorem IntsZ.ints {base p : Nat} {v : Value} {w : World} (h : IntsZ base p v w) (hp : p ≤ 100) : IntsAt w v (List.replicate p 0) := by
  obtain ⟨b, rfl, -, h3⟩ := h
  refine ⟨_, p, by simp, by simp [maxLen]; omega, fun _ => ⟨b, 0, rfl, fun i x hi j u hu => ?_⟩⟩
  rw [cell_of h3]
  rw [List.getElem?_replicate] at hi
  split at hi
  · cases hi
    match j, hu with
    | 0, hu =>
      simp at hu
      subst hu
      rw [show 0 + i * 1 + 0 = i by omega, Array.getElem?_replicate, if_pos ‹_›]
  · cases hi
def IsFirst (base p : Nat) (g : List Gr.Nd) (v : Value) (w : World) : Prop := ∃ (b : Nat) (ag : Option Addr) (cg : Nat), v = .agg #[.int .i64 0, .int .i64 0, .slice (some ⟨b, 0, none⟩) p p, .slice ag g.length cg, .slice none 0 0, .slice none 0 0, .slice none 0 0] ∧ IntsZ base p (.slice (some ⟨b, 0, none⟩) p p) w ∧ NodesV base g (.slice ag g.length cg) w
theorem IsFirst.st (base p : Nat) (g : List Gr.Nd) : ∀ v w w', IsFirst base p g v w → Grew w w' → IsFirst base p g v w' := fun _ _ _ ⟨b, a, c, h1, h2, h3⟩ q => ⟨b, a, c, h1, IntsZ.st _ _ _ _ _ h2 q, NodesV.st _ _ _ _ _ h3 q⟩
theorem IsFirst.keep {base p : Nat} {g : List Gr.Nd} {b : Nat} {ag : Option Addr} {cg : Nat} {w w' : World} (h : IntsZ base p (.slice (some ⟨b, 0, none⟩) p p) w ∧ NodesV base g (.slice ag g.length cg) w) (hk : ∀ b, base ≤ b → b < w.heap.size → w'.heap[b]? = w.heap[b]?) (hp : p ≤ 100) : IntsAt w' (.slice (some ⟨b, 0, none⟩) p p) (List.replicate p 0) ∧ NodesAt w' (.slice ag g.length cg) g := by
  refine ⟨?_, (h.2.keep hk).at'⟩
  obtain ⟨⟨b', h1, h2, h3⟩, -⟩ := h
  cases h1
  exact IntsZ.ints ⟨b, rfl, h2, by rw [hk b h2 (heap_lt h3)]; exact h3⟩ hp
def SameBut (r : Nat) (W W' : World) : Prop := W.heap.size = W'.heap.size ∧ ∀ b, b ≠ r → W'.heap[b]? = W.heap[b]?
theorem SameBut.mk (w : World) (o o' : Obj) : SameBut w.heap.size (w.alloc o) (w.alloc o') := by
  refine ⟨by simp [World.size_alloc], fun b hb => ?_⟩
  show (w.heap.push o')[b]? = (w.heap.push o)[b]?
  rw [Array.getElem?_push, Array.getElem?_push, if_neg hb, if_neg hb]
theorem SameBut.more {r : Nat} {W W' : World} (h : SameBut r W W') (R : Array Obj) (n : Nat) : SameBut r (W.more R n) (W'.more R n) := by
  refine ⟨by simp [World.more_size, h.1], fun b hb => ?_⟩
  rcases Nat.lt_or_ge b W.heap.size with q | q
  · rw [World.heap_more R n b q, World.heap_more R n b (by rw [← h.1]; exact q)]
    exact h.2 b hb
  · exact heap_more_same h.1 R n b q
theorem SameBut.alloc {r : Nat} {W W' : World} (h : SameBut r W W') (o : Obj) : SameBut r (W.alloc o) (W'.alloc o) := by
  refine ⟨by simp [World.size_alloc, h.1], fun b hb => ?_⟩
  show (W'.heap.push o)[b]? = (W.heap.push o)[b]?
  rw [Array.getElem?_push, Array.getElem?_push, h.1]
  split
  · rfl
  · exact h.2 b hb
theorem SameBut.drewl {r : Nat} {W W' : World} (h : SameBut r W W') : SameBut r W.drew W' := h
theorem SameBut.at {r : Nat} {W W' : World} (h : SameBut r W W') (b : Nat) (hb : b ≠ r) : W'.heap[b]? = W.heap[b]? := h.2 b hb
theorem infoIntF : (Tryz.prog.info? 3).map (fun i => (i.zero, i.size, i.bytes)) = some (some (.int .i64 0), 1, 8) := by kernel_rfl
theorem make_ints (p : Nat) (hp3 : p = 1 ∨ p = 2 ∨ p = 3) (W : World) : (Instr.makeSlice 47 (.int .i64 (p : Int)) (.int .i64 (p : Int))).run Tryz.prog W = .ok (.slice (some ⟨W.heap.size, 0, none⟩) p p) (W.alloc (.cells (Array.replicate p (.int .i64 0)) 3)) := by
  obtain ⟨i, hi, hz0, hz1, hz2⟩ := info_parts infoIntF
  have h := run_makeSlice (P := Tryz.prog) W 47 3 i (.int .i64 0) Tryz.underlying47 hi hz0 .i64 .i64 (p : Int) (p : Int) (by omega) (by omega) (by rw [hz1]; omega) (by rw [hz2]; omega) (by omega)
  rw [h, hz1]
  have hm : ∀ q : Nat, q = 1 ∨ q = 2 ∨ q = 3 → madeCells (Value.int .i64 0).cells ((q : Int).toNat * 1) = Array.replicate q (Value.int .i64 0) := fun q hq => by
    rcases hq with rfl | rfl | rfl <;> kernel_rfl
  rw [hm p hp3, Int.toNat_natCast]
theorem first_any (v : Value) (g : List Gr.Nd) (w : World) (hv : NodesAt w v g) (hs : Small g) : Calls Tryz.prog 37 #[v] w (FirstPost w g) := by
  have HC := Lib.hid fun W (q : Grew w W) => check_graph v g W (hv.grew q) hs
  by_cases hr : Gr.RightR g
  case neg =>
    refine Calls.mono (R := Gives (.tuple #[.agg #[.int .i64 0, .int .i64 0, .slice none 0 0, .slice none 0 0, .slice none 0 0, .slice none 0 0, .slice none 0 0], .int .i64 10]) w) ?_ fun e w' h => ⟨fun q => absurd q hr, fun _ => h.1, h.2⟩
    have hck := checkR_pos hr
    generalize checkR g = ck at *
    obtain ⟨a, cap, rfl, hm, -⟩ := hv.openC
    clear hv hs hr
    go_enter Tryz.func37, Tryz.ntmps37
    go_wp2_with (go_at_call 8; refine (HC.out _ (by repeat (first | with_reducible exact Grew.refl _ | apply Grew.more | apply Grew.alloc | apply Grew.drew | apply Grew.drewN))).mono ?_; rintro e w1 ⟨rfl, R1, n1, rfl⟩)
    refine bodyPost_ret (v := .tuple #[.agg #[.int .i64 0, .int .i64 0, .slice none 0 0, .slice none 0 0, .slice none 0 0, .slice none 0 0, .slice none 0 0], .int .i64 10]) (by simp [results, Tryz.results37, go_sem]) rfl ?_
    refine ⟨rfl, ?_⟩
    repeat (first | with_reducible exact Grew.refl _ | apply Grew.more | apply Grew.alloc | refine Grew.set ?_ (Nat.le_refl _) _)
  have hck := checkR_nil hr
  rw [hck] at HC
  have hpr := parOf_range hr
  obtain ⟨src, hsrc⟩ := source_some hr
  have hpo : parOf g = src.par := by unfold parOf; rw [hsrc]
  have HF := Lib.hid fun W (q : Grew w W) => find_any v g 0 W (hv.grew q) hs
  rw [hsrc] at HF
  have HN := Lib.hid fun W (q : Grew w W) => normO_any v g W (hv.grew q) hs hr
  obtain ⟨p, hp⟩ : ∃ p : Nat, src.par = (p : Int) := ⟨src.par.toNat, by omega⟩
  have hp3 : p = 1 ∨ p = 2 ∨ p = 3 := by omega
  have hpn : (parOf g).toNat = p := by omega
  have HPN := Lib.hid hpn
  have hmk := make_ints p hp3
  have HSP := Lib.hid hp
  have HP3 := Lib.hid hp3
  have hp1 : 1 ≤ p := by omega
  have hp9 : p ≤ 3 := by omega
  obtain ⟨a, cap, rfl, hm, -⟩ := hv.openC
  refine Calls.mono (R := fun e w' => ∃ ao co ag cg, e = .returned (.tuple #[.agg #[.int .i64 0, .int .i64 0, .slice ao (parOf g).toNat co, .slice ag (Gr.normG g).length cg, .slice none 0 0, .slice none 0 0, .slice none 0 0], .int .i64 0]) ∧ IntsAt w' (.slice ao (parOf g).toNat co) (List.replicate (parOf g).toNat 0) ∧ NodesAt w' (.slice ag (Gr.normG g).length cg) (Gr.normG g) ∧ Grew w w') ?_ fun e w' ⟨ao, co, ag, cg, h1, h2, h3, h4⟩ => ⟨fun _ => ⟨ao, co, ag, cg, h1, h2, h3⟩, fun q => absurd hr q, h4⟩
  clear hv hs hr hck hpr hsrc hpo hpn hp hp3
  rw [HPN.out]
  go_enter Tryz.func37, Tryz.ntmps37
  go_wp2_with (first
    | (go_at_call 8; refine (HC.out _ (by repeat (first | with_reducible exact Grew.refl _ | apply Grew.more | apply Grew.alloc | apply Grew.drew | apply Grew.drewN))).mono ?_; rintro e w1 ⟨rfl, R1, n1, rfl⟩)
    | (go_at_call 79; refine (HF.out _ (by repeat (first | with_reducible exact Grew.refl _ | apply Grew.more | apply Grew.alloc | apply Grew.drew | apply Grew.drewN))).mono ?_; rintro e w2 ⟨c9, rfl, hc9, -, R2, n2, rfl⟩; (have hcp := hc9.par); rw [HSP.out] at hcp; (have HCP := Lib.hid hcp); clear hc9 hcp))
  rw [← HCP.out]
  refine wp_region_seq 6 Tryz.mixed (by kernel_rfl) (by kernel_rfl) ?_
  iterate 2
    apply Seq.val
    focus
      rintro w1 u ⟨R1, n1, rfl⟩ hF
      simp [moreFacts, Fact.more, Oper.deps, Region.binds, List.filter_cons, World.more_drew] at hF
      simp [putFacts, Oper.deps, Region.binds, List.filter_cons, Region.dstOf, Fact.at, Act.put, World.more_drew]
      go_wp2
      exact ⟨by repeat (first | with_reducible exact Grew.refl _ | apply Grew.more | apply Grew.alloc | apply Grew.drew | apply Grew.drewN), rfl, _, _, rfl, rfl, rfl⟩
  apply Seq.of (IntsZ (w.heap.size + 1) p) (IntsZ.st _ p)
  focus
    rintro w1 u ⟨R1, n1, rfl⟩ hF
    simp [moreFacts, Fact.more, Oper.deps, Region.binds, List.filter_cons, World.more_drew] at hF
    simp [putFacts, Oper.deps, Region.binds, List.filter_cons, Region.dstOf, Fact.at, Act.put, World.more_drew]
    go_wp2_with fail
    exact ⟨by repeat (first | with_reducible exact Grew.refl _ | apply Grew.more | apply Grew.alloc | apply Grew.drew | apply Grew.drewN), rfl, _, _, rfl, rfl, ⟨_, rfl, by first | omega | (simp [go_sem]; omega), heap_new_at _ _ _ (by first | rfl | simp [go_sem] | (simp [go_sem]; omega))⟩⟩
  iterate 1
    apply Seq.val
    focus
      rintro w1 u ⟨R1, n1, rfl⟩ hF
      simp [moreFacts, Fact.more, Oper.deps, Region.binds, List.filter_cons, World.more_drew] at hF
      simp [putFacts, Oper.deps, Region.binds, List.filter_cons, Region.dstOf, Fact.at, Act.put, World.more_drew]
      go_wp2
      exact ⟨by repeat (first | with_reducible exact Grew.refl _ | apply Grew.more | apply Grew.alloc | apply Grew.drew | apply Grew.drewN), rfl, _, _, rfl, rfl, rfl⟩
  apply Seq.of (NodesV (w.heap.size + 1) (Gr.normG g)) (NodesV.st _ _)
  focus
    rintro w1 u ⟨R1, n1, rfl⟩ hF
    simp [moreFacts, Fact.more, Oper.deps, Region.binds, List.filter_cons, World.more_drew] at hF
    simp [putFacts, Oper.deps, Region.binds, List.filter_cons, Region.dstOf, Fact.at, Act.put, World.more_drew]
    go_wp2_with (first
      | (go_at_call 58; go_loud (refine (HN.out _ (by repeat (first | with_reducible exact Grew.refl _ | apply Grew.more | apply Grew.alloc | apply Grew.drew | apply Grew.drewN))).mono ?_); rintro e w3 ⟨v3, lc3, rfl, hv3, hi3, R3, n3, rfl⟩; obtain ⟨a3, c3, hv9, -, -⟩ := (hi3.at hv3).openC; subst hv9; (have HV3 : Hid (NodesV _ (Gr.normG g) _ _) := Lib.hid ⟨a3, c3, lc3, rfl, hv3, hi3⟩); clear hv3 hi3)
      )
    exact ⟨by repeat (first | with_reducible exact Grew.refl _ | apply Grew.more | apply Grew.alloc | apply Grew.drew | apply Grew.drewN), rfl, _, _, rfl, rfl, NodesV.low HV3.out (by simp [go_sem]; omega)⟩
  apply Seq.of (IsFirst (w.heap.size + 1) p (Gr.normG g)) (IsFirst.st _ _ _)
  focus
    rintro w1 u ⟨R1, n1, rfl⟩ hF
    simp [moreFacts, Fact.more, Oper.deps, Region.binds, List.filter_cons, World.more_drew] at hF
    simp [putFacts, Oper.deps, Region.binds, List.filter_cons, Region.dstOf, Fact.at, Act.put, World.more_drew]
    obtain ⟨⟨b2, hu2, h2⟩, a4, c4, lc4, hu4, h4⟩ := hF; rw [hu2, hu4]; (have H2 := Lib.hid h2); (have H4 := Lib.hid h4); clear h2 h4
    go_wp2
    exact ⟨by repeat (first | with_reducible exact Grew.refl _ | apply Grew.more | apply Grew.alloc | apply Grew.drew | apply Grew.drewN), rfl, _, _, rfl, rfl, ⟨_, _, _, rfl, ⟨_, rfl, H2.out⟩, ⟨_, _, _, rfl, by rw [← hu4]; exact H4.out⟩⟩⟩
  rintro u w1 ⟨R4, n4, rfl⟩ hF
  simp [moreFacts, Fact.more, apartFacts, Fact.isNew, List.range_succ] at hF
  simp [putFacts, Region.dstOf, Fact.at, Act.put, List.range_succ, World.more_drew]
  obtain ⟨-, -, b9, ag9, cg9, hu9, h9⟩ := hF
  rw [hu9]
  have H9 := Lib.hid h9
  clear h9
  go_wp2_with fail
  refine bodyPost_ret (v := .tuple #[.agg #[.int .i64 0, .int .i64 0, .slice (some ⟨b9, 0, none⟩) p p, .slice ag9 (Gr.normG g).length cg9, .slice none 0 0, .slice none 0 0, .slice none 0 0], .int .i64 0]) (by simp [results, Tryz.results37, go_sem]) rfl ?_
  refine ⟨_, _, _, _, rfl, ?_⟩
  rw [← and_assoc]
  refine ⟨IsFirst.keep H9.out (fun b hb _ => SameBut.at (r := w.heap.size) ?_ b (by omega)) (by omega), by repeat (first | with_reducible exact Grew.refl _ | apply Grew.more | apply Grew.alloc | apply Grew.drew | apply Grew.drewN)⟩
  repeat (first | with_reducible exact SameBut.mk _ _ _ | with_reducible apply SameBut.more | with_reducible apply SameBut.alloc | with_reducible apply SameBut.drewl)

theorem sumStep_any (x c : Int) (w : World) : Calls Tryz.prog 191 #[.int .u32 x, .int .u8 c] w fun e w' => ∃ y : Int, Gives (.int .u32 y) w e w' := by
  go_enter Tryz.func191, Tryz.ntmps191
  go_wp2
  go_loopg [0, 10] 8 (fun gg s0 s10 wr => ∃ k : Nat, k ≤ 8 ∧ 8 - k ≤ gg ∧ s10 = .int .i64 k ∧ (∃ y : Int, s0 = .int .u32 y) ∧ wr = w)
  case atStart => exact ⟨0, by omega, by omega, rfl, ⟨_, rfl⟩, rfl⟩
  case round =>
    obtain ⟨k, hk, hgg, rfl, ⟨y, rfl⟩, rfl⟩ := hrel
    by_cases hlt : k < 8
    · have hb : (k : Int) < 8 := by omega
      go_wp2
      all_goals
        go_roundg (8 - (k + 1))
        case measure => omega
        case rel => exact ⟨k + 1, by omega, by omega, by go_num, ⟨_, rfl⟩, rfl⟩
    · obtain rfl : k = 8 := by omega
      have hb : ¬ ((8 : Int) < 8) := by omega
      go_wp2
      go_ret
      exact ⟨_, rfl, Grew.refl _⟩
end Go.Proofs.YtpbohimddmploaaGreat
