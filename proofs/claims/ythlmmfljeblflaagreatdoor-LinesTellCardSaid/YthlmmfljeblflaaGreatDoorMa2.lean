import Derived.Test.YthlmmfljeblflaaGreatDoorMa1
/-! lines: the document's example, written: a step. -/
namespace Go.Proofs.YthlmmfljeblflaaGreatDoor
set_option linter.unusedSimpArgs false
set_option linter.unusedVariables false
open Go.RowKit Ga
set_option maxRecDepth 100000

theorem S2_lit {W : World} {d : StC} (h : StepIs W d S2) : ∃ af cf ap cp, d = ⟨2, ⟨2, 2, af, 1, cf, ap, 0, cp, 1, 0, 0, 0, 0, 0, 0, 0, 0⟩, false⟩ := by
  obtain ⟨kd, rs, id, kind, af, cf, ap, cp, par, r0, r1, r2, r3, r4, r5, r6, r7, rfl⟩ := h.lit
  have e1 := h.kind
  have e2 := h.reset
  have e3 := h.nd.id
  have e4 := h.nd.kind
  have e5 := h.nd.par
  have e6 := h.nd.route
  simp [S2, N2, List.replicate] at e1 e2 e3 e4 e5 e6
  obtain ⟨rfl, rfl, rfl, rfl, rfl, rfl, rfl, rfl⟩ := e6
  subst e1 e2 e3 e4 e5
  exact ⟨af, cf, ap, cp, rfl⟩
theorem eqNd_self (n : Gr.Nd) : eqNd n n = true := by unfold eqNd; simp
theorem n2_small : N2.frm.length ≤ 1000 ∧ N2.prog.length ≤ 1000 := by decide
set_option maxHeartbeats 8000000 in
theorem same0 (af ap af2 ap2 : Option Addr) (cf cp cf2 cp2 : Nat) (w : World) (h1 : NodeIs w ⟨2, 2, af, 1, cf, ap, 0, cp, 1, 0, 0, 0, 0, 0, 0, 0, 0⟩ N2) (h2 : NodeIs w ⟨2, 2, af2, 1, cf2, ap2, 0, cp2, 1, 0, 0, 0, 0, 0, 0, 0, 0⟩ N2) : Calls Tryz.prog 50 #[.agg #[.int .i64 2, .int .i64 2, .int .i64 2, .slice af 1 cf, .slice ap 0 cp, .int .i64 1, .int .i64 0, .int .i64 0, .int .i64 0, .int .i64 0, .int .i64 0, .int .i64 0, .int .i64 0, .int .i64 0, .bool false], .agg #[.int .i64 2, .int .i64 2, .int .i64 2, .slice af2 1 cf2, .slice ap2 0 cp2, .int .i64 1, .int .i64 0, .int .i64 0, .int .i64 0, .int .i64 0, .int .i64 0, .int .i64 0, .int .i64 0, .int .i64 0, .bool false]] w (Gives (.bool true) w) := by
  have H1 := Lib.hid h1
  have H2 := Lib.hid h2
  clear h1 h2
  go_enter Tryz.func50, Tryz.ntmps50
  go_wp2_with (go_at_call 38; refine Calls.mono (same_one _ _ N2 N2 _ ?_ ?_ n2_small n2_small) ?_; (focus (refine NodesAt.grew ?_ ((Grew.refl _).alloc _); exact NodesAt.one (H1.out.grew (by repeat (first | with_reducible exact Grew.refl _ | apply Grew.more | apply Grew.alloc | apply Grew.drew | apply Grew.drewN))) _ (by simp [go_sem]) _ rfl)); (focus exact NodesAt.one (H2.out.grew (by repeat (first | with_reducible exact Grew.refl _ | apply Grew.more | apply Grew.alloc | apply Grew.drew | apply Grew.drewN))) _ (by simp [go_sem]) _ rfl); rintro e w1 ⟨rfl, R1, n1, rfl⟩; rw [eqNd_self])
  go_ret
  exact ⟨rfl, by repeat (first | with_reducible exact Grew.refl _ | apply Grew.more | apply Grew.alloc | apply Grew.drew | apply Grew.drewN)⟩
theorem nodeText0l (af ap : Option Addr) (cf cp : Nat) (w : World) (hP : Pow w) (hf : IntsAt w (.slice af 1 cf) [0]) : Calls Tryz.prog 49 #[.agg #[.int .i64 2, .int .i64 2, .slice af 1 cf, .slice ap 0 cp, .int .i64 1, .int .i64 0, .int .i64 0, .int .i64 0, .int .i64 0, .int .i64 0, .int .i64 0, .int .i64 0, .int .i64 0]] w (Gives (.string ⟨#[50, 32, 83, 73, 78, 75, 32, 48, 32, 49, 32, 48, 48, 48, 48, 48, 48, 48, 48]⟩) w) := nodeText0 af ap cf cp w hP hf
/-- a step that says S2 -/
def IsS2 (v : Value) (w : World) : Prop := ∃ (af : Option Addr) (cf : Nat) (ap : Option Addr) (cp : Nat), v = .agg #[.int .i64 2, .int .i64 2, .int .i64 2, .slice af 1 cf, .slice ap 0 cp, .int .i64 1, .int .i64 0, .int .i64 0, .int .i64 0, .int .i64 0, .int .i64 0, .int .i64 0, .int .i64 0, .int .i64 0, .bool false] ∧ NodeIs w ⟨2, 2, af, 1, cf, ap, 0, cp, 1, 0, 0, 0, 0, 0, 0, 0, 0⟩ N2
theorem IsS2.st : ∀ v w w', IsS2 v w → Grew w w' → IsS2 v w' := fun _ _ _ ⟨af, cf, ap, cp, h1, h2⟩ g => ⟨af, cf, ap, cp, h1, h2.grew g⟩
set_option maxHeartbeats 8000000 in
theorem told0 (af ap : Option Addr) (cf cp : Nat) (w : World) (hP : Pow w) (hn : NodeIs w ⟨2, 2, af, 1, cf, ap, 0, cp, 1, 0, 0, 0, 0, 0, 0, 0, 0⟩ N2) : Calls Tryz.prog 27 #[.agg #[.int .i64 2, .int .i64 2, .int .i64 2, .slice af 1 cf, .slice ap 0 cp, .int .i64 1, .int .i64 0, .int .i64 0, .int .i64 0, .int .i64 0, .int .i64 0, .int .i64 0, .int .i64 0, .int .i64 0, .bool false]] w (Gives (.bool true) w) := by
  have hf : IntsAt w (.slice af 1 cf) [0] := hn.f
  have HF := Lib.hid fun W (q : Grew w W) => fits0 af ap cf cp W (hf.grew q)
  have HT := Lib.hid fun W (q : Grew w W) => nodeText0l af ap cf cp W (hP.grew q) (hf.grew q)
  have HC := Lib.hid fun W (q : Grew w W) => clean49_any ⟨2, ⟨2, 2, af, 1, cf, ap, 0, cp, 1, 0, 0, 0, 0, 0, 0, 0, 0⟩, false⟩ S2 W ⟨rfl, hn.grew q, rfl⟩ n2_small
  rw [show Gr.cleanS S2 = S2 from rfl] at HC
  have HN := Lib.hid hn
  clear hP hn hf
  go_enter Tryz.func27, Tryz.ntmps27
  go_wp2_with (first
    | (go_at_call 48; refine (HF.out _ (by repeat (first | with_reducible exact Grew.refl _ | apply Grew.more | apply Grew.alloc | apply Grew.drew | apply Grew.drewN))).mono ?_; rintro e w1 ⟨rfl, R1, n1, rfl⟩)
    | (go_at_call 49; refine (HT.out _ (by repeat (first | with_reducible exact Grew.refl _ | apply Grew.more | apply Grew.alloc | apply Grew.drew | apply Grew.drewN))).mono ?_; rintro e w1 ⟨rfl, R2, n2, rfl⟩)
    | fail)
  refine wp_region_seq 5 Tryz.mixed (by kernel_rfl) (by kernel_rfl) ?_
  iterate 2
    apply Seq.val
    focus
      rintro w1 u ⟨R1, n1, rfl⟩ hF
      simp [moreFacts, Fact.more, Oper.deps, Region.binds, List.filter_cons, World.more_drew] at hF
      simp [putFacts, Oper.deps, Region.binds, List.filter_cons, Region.dstOf, Fact.at, Act.put, World.more_drew]
      go_wp2
      exact ⟨by repeat (first | with_reducible exact Grew.refl _ | apply Grew.more | apply Grew.alloc | apply Grew.drew | apply Grew.drewN), rfl, _, _, rfl, rfl, rfl⟩
  apply Seq.of IsS2 IsS2.st
  focus
    rintro w1 u ⟨R1, n1, rfl⟩ hF
    simp [moreFacts, Fact.more, Oper.deps, Region.binds, List.filter_cons, World.more_drew] at hF
    simp [putFacts, Oper.deps, Region.binds, List.filter_cons, Region.dstOf, Fact.at, Act.put, World.more_drew]
    go_wp2_with (first
      | (go_at_call 51; refine (HC.out _ (by repeat (first | with_reducible exact Grew.refl _ | apply Grew.more | apply Grew.alloc | apply Grew.drew | apply Grew.drewN))).mono ?_; rintro e w2 ⟨d1, rfl, h9, -, R3, n3, rfl⟩; obtain ⟨af2, cf2, ap2, cp2, rfl⟩ := S2_lit h9)
      )
    exact ⟨by repeat (first | with_reducible exact Grew.refl _ | apply Grew.more | apply Grew.alloc | apply Grew.drew | apply Grew.drewN), rfl, _, _, rfl, rfl, ⟨af2, cf2, ap2, cp2, rfl, h9.nd⟩⟩
  apply Seq.val
  focus
    rintro w1 u ⟨R1, n1, rfl⟩ hF
    simp [moreFacts, Fact.more, Oper.deps, Region.binds, List.filter_cons, World.more_drew] at hF
    simp [putFacts, Oper.deps, Region.binds, List.filter_cons, Region.dstOf, Fact.at, Act.put, World.more_drew]
    obtain ⟨af2, cf2, ap2, cp2, hu, hn2⟩ := hF; rw [hu]
    go_wp2_with (first
      | (go_at_call 50; refine (same0 af ap af2 ap2 cf cp cf2 cp2 _ (HN.out.grew (by repeat (first | with_reducible exact Grew.refl _ | apply Grew.more | apply Grew.alloc | apply Grew.drew | apply Grew.drewN))) (hn2.grew (by repeat (first | with_reducible exact Grew.refl _ | apply Grew.more | apply Grew.alloc | apply Grew.drew | apply Grew.drewN)))).mono ?_; rintro e w1 ⟨rfl, R4, n4, rfl⟩)
      )
    exact ⟨by repeat (first | with_reducible exact Grew.refl _ | apply Grew.more | apply Grew.alloc | apply Grew.drew | apply Grew.drewN), rfl, _, _, rfl, rfl, rfl⟩
  iterate 1
    apply Seq.val
    focus
      rintro w1 u ⟨R1, n1, rfl⟩ hF
      simp [moreFacts, Fact.more, Oper.deps, Region.binds, List.filter_cons, World.more_drew] at hF
      simp [putFacts, Oper.deps, Region.binds, List.filter_cons, Region.dstOf, Fact.at, Act.put, World.more_drew]
      go_wp2
      exact ⟨by repeat (first | with_reducible exact Grew.refl _ | apply Grew.more | apply Grew.alloc | apply Grew.drew | apply Grew.drewN), rfl, _, _, rfl, rfl, rfl⟩
  rintro u w1 ⟨R1, n1, rfl⟩ hF
  clear hF
  simp [putFacts, Region.dstOf, Fact.at, Act.put, List.range_succ, World.more_drew]
  go_wp2
  go_ret
  exact ⟨rfl, by repeat (first | with_reducible exact Grew.refl _ | apply Grew.more | apply Grew.alloc | apply Grew.drew | apply Grew.drewN)⟩
set_option maxHeartbeats 8000000 in
theorem step0 (af ap : Option Addr) (cf cp : Nat) (w : World) (hP : Pow w) (hf : IntsAt w (.slice af 1 cf) [0]) : Calls Tryz.prog 28 #[.agg #[.int .i64 2, .int .i64 2, .int .i64 2, .slice af 1 cf, .slice ap 0 cp, .int .i64 1, .int .i64 0, .int .i64 0, .int .i64 0, .int .i64 0, .int .i64 0, .int .i64 0, .int .i64 0, .int .i64 0, .bool false]] w (Gives (.string ⟨stL.toArray⟩) w) := by
  have HI := Lib.hid fun W (q : Grew w W) => itoa_any 2 (by decide) W (hP.grew q)
  have HT := Lib.hid fun W (q : Grew w W) => nodeText0l af ap cf cp W (hP.grew q) (hf.grew q)
  clear hP hf
  go_enter Tryz.func28, Tryz.ntmps28
  go_wp2_with (first
    | (go_at_call 16; refine (HI.out _ (by repeat (first | with_reducible exact Grew.refl _ | apply Grew.more | apply Grew.alloc | apply Grew.drew | apply Grew.drewN))).mono ?_; rintro e w1 ⟨rfl, R1, n1, rfl⟩)
    | (go_at_call 49; refine (HT.out _ (by repeat (first | with_reducible exact Grew.refl _ | apply Grew.more | apply Grew.alloc | apply Grew.drew | apply Grew.drewN))).mono ?_; rintro e w1 ⟨rfl, R2, n2, rfl⟩))
  go_ret
  exact ⟨by first | rfl | decide +kernel, by repeat (first | with_reducible exact Grew.refl _ | apply Grew.more | apply Grew.alloc | apply Grew.drew | apply Grew.drewN)⟩
end Go.Proofs.YthlmmfljeblflaaGreatDoor

/-! lines: Plan, ParsePlan at the document's example; forebaylaw27.awake. -/
namespace Go.Proofs.YthlmmfljeblflaaGreatDoor
set_option linter.unusedSimpArgs false
set_option linter.unusedVariables false
open Go.RowKit Ga
set_option maxRecDepth 100000

theorem stepIs_S2 {w : World} {af ap : Option Addr} {cf cp : Nat} (h : NodeIs w ⟨2, 2, af, 1, cf, ap, 0, cp, 1, 0, 0, 0, 0, 0, 0, 0, 0⟩ N2) : StepIs w ⟨2, ⟨2, 2, af, 1, cf, ap, 0, cp, 1, 0, 0, 0, 0, 0, 0, 0, 0⟩, false⟩ S2 := ⟨rfl, h, rfl⟩
theorem join_st : Lib.join [stL] [32, 124, 32] = stL := by decide +kernel
set_option maxHeartbeats 8000000 in
theorem plan0 (v : Value) (w : World) (hP : Pow w) (hv : StepsAt w v [S2]) : Calls Tryz.prog 15 #[v] w (Gives (.string ⟨stL.toArray⟩) w) := by
  have HV := Lib.hid hv
  have HP := Lib.hid hP
  obtain ⟨a, cap, rfl, -, hx⟩ := hv.openC
  obtain ⟨b, off, c, rfl, hb, hs, g0, g1, g2, g3, g4, g5, g6, g7, g8, g9, g10, g11, g12, g13, g14⟩ := hx 0 (by decide)
  obtain ⟨af, cf, ap, cp, rfl⟩ := S2_lit hs
  have HT := Lib.hid fun W (q : Grew w W) => told0 af ap cf cp W (hP.grew q) (hs.nd.grew q)
  have HS := Lib.hid fun W (q : Grew w W) => step0 af ap cf cp W (hP.grew q) (hs.nd.f.grew q)
  simp only [Nat.zero_mul, Nat.add_zero] at g0 g1 g2 g3 g4 g5 g6 g7 g8 g9 g10 g11 g12 g13 g14
  have G0 := Lib.hid g0
  have G1 := Lib.hid g1
  have G2 := Lib.hid g2
  have G3 := Lib.hid g3
  have G4 := Lib.hid g4
  have G5 := Lib.hid g5
  have G6 := Lib.hid g6
  have G7 := Lib.hid g7
  have G8 := Lib.hid g8
  have G9 := Lib.hid g9
  have G10 := Lib.hid g10
  have G11 := Lib.hid g11
  have G12 := Lib.hid g12
  have G13 := Lib.hid g13
  have G14 := Lib.hid g14
  clear hP hv hb hs hx g0 g1 g2 g3 g4 g5 g6 g7 g8 g9 g10 g11 g12 g13 g14
  show Calls Tryz.prog _ #[.slice (some ⟨b, off, none⟩) 1 cap] w _
  go_enter Tryz.func15, Tryz.ntmps15
  go_wp2
  go_loopg [3, 16] 1 (fun gg s3 s16 wr => ∃ k : Nat, k ≤ 1 ∧ 1 - k ≤ gg ∧ s16 = .int .i64 k ∧ Hid (Grew w wr) ∧ Hid (OwnAt w.heap.size 9 1 encS wr s3 (List.replicate k stL)))
  case atStart => exact ⟨0, by omega, by omega, rfl, Lib.hid (Grew.refl _), Lib.hid (OwnAt.nil _)⟩
  case round =>
    obtain ⟨k, hk, hgg, rfl, HG, HO⟩ := hrel
    rename World => wa
    by_cases hlt : k < 1
    · obtain rfl : k = 0 := by omega
      have g0 := cell_grew G0.out HG.out
      have g1 := cell_grew G1.out HG.out
      have g2 := cell_grew G2.out HG.out
      have g3 := cell_grew G3.out HG.out
      have g4 := cell_grew G4.out HG.out
      have g5 := cell_grew G5.out HG.out
      have g6 := cell_grew G6.out HG.out
      have g7 := cell_grew G7.out HG.out
      have g8 := cell_grew G8.out HG.out
      have g9 := cell_grew G9.out HG.out
      have g10 := cell_grew G10.out HG.out
      have g11 := cell_grew G11.out HG.out
      have g12 := cell_grew G12.out HG.out
      have g13 := cell_grew G13.out HG.out
      have g14 := cell_grew G14.out HG.out
      have p0 := Pre.ofCell g0
      generalize hsl : stL = sl at *
      go_wp2_with (first
        | (go_at_call 27; refine (HT.out _ (HG.out.trans (by repeat (first | with_reducible exact Grew.refl _ | apply Grew.more | apply Grew.alloc | apply Grew.drew | apply Grew.drewN)))).mono ?_; rintro e w1 ⟨rfl, R1, n1, rfl⟩)
        | (go_at_call 28; refine (HS.out _ (HG.out.trans (by repeat (first | with_reducible exact Grew.refl _ | apply Grew.more | apply Grew.alloc | apply Grew.drew | apply Grew.drewN)))).mono ?_; rintro e w1 ⟨rfl, R2, n2, rfl⟩)
        | (at_builtin; go_loud (refine wpList_ownK (w0 := w) rfl (.tmp 23) (.tmp 26) 42 _ _ _ _ [sl] rfl Tryz.underlying42 infoStr rfl (by decide) encS_len encS_one rfl (OwnAt.grew HO.out (by repeat (first | with_reducible exact Grew.refl _ | apply Grew.more | apply Grew.alloc | apply Grew.drew | apply Grew.drewN))) (HG.out.trans (by repeat (first | with_reducible exact Grew.refl _ | apply Grew.more | apply Grew.alloc | apply Grew.drew | apply Grew.drewN))) rfl (str_at _ _ _ _ _ rfl rfl (by simp [go_sem])) (by simp) (by decide) (by simp) ?_); intro v7 W7 hA; (have HA7 := Lib.hid hA); clear hA))
      go_roundg 0
      case measure => omega
      case rel => exact ⟨1, by omega, by omega, by go_num, Lib.hid HA7.out.1, Lib.hid HA7.out.2.1⟩
    · obtain rfl : k = 1 := by omega
      have HJ := Lib.hid fun W v (q : OwnAt w.heap.size 9 1 encS W v [stL]) => join_any v [stL] [32, 124, 32] _ W q (by decide) (by decide +kernel)
      rw [join_st] at HJ
      generalize stL = sl at *
      go_wp2_with (go_at_call 29; refine (HJ.out _ _ (HO.out.grew (by repeat (first | with_reducible exact Grew.refl _ | apply Grew.more | apply Grew.alloc | apply Grew.drew | apply Grew.drewN)))).mono ?_; rintro e w1 ⟨rfl, R3, n3, rfl⟩)
      go_ret
      exact ⟨rfl, HG.out.trans (by repeat (first | with_reducible exact Grew.refl _ | apply Grew.more | apply Grew.alloc | apply Grew.drew | apply Grew.drewN))⟩
theorem stepsAt_S2 {W : World} {v : Value} {base : Nat} {af ap : Option Addr} {cf cp : Nat} (h : OwnAt base 60 15 encSt W v [⟨2, ⟨2, 2, af, 1, cf, ap, 0, cp, 1, 0, 0, 0, 0, 0, 0, 0, 0⟩, false⟩]) (hn : NodeIs W ⟨2, 2, af, 1, cf, ap, 0, cp, 1, 0, 0, 0, 0, 0, 0, 0, 0⟩ N2) : StepsAt W v [S2] := by
  refine ⟨_, OwnAt.rows h encSt_len, rfl, fun i c s hc hs => ?_⟩
  match i with
  | 0 =>
    cases hc
    cases hs
    exact stepIs_S2 hn
  | i + 1 => cases hc
end Go.Proofs.YthlmmfljeblflaaGreatDoor

/-! lines.ParsePlan at the document's example; forebaylaw27.awake. -/
namespace Go.Proofs.YthlmmfljeblflaaGreatDoor
set_option linter.unusedSimpArgs false
set_option linter.unusedVariables false
open Go.RowKit Ga
set_option maxRecDepth 100000

theorem st_at1 (W : World) (x : StC) (t : TypeId) (b : Nat) {c : Array Value} (hc : c = (encSt x).toArray) (hb : b = W.heap.size) : ∀ j u, (([x] : List StC).flatMap encSt)[j]? = some u → (W.alloc (.cells c t)).cell? ⟨b, j, none⟩ = some u := by
  subst hc
  intro j u hu
  rw [new_cells W _ t b hb j]
  simpa using hu
theorem infoStep1 : (Tryz.prog.info? 60).map (fun i => (i.zero, i.size, i.bytes)) = some (some (.agg #[.int .i64 0, .int .i64 0, .int .i64 0, .slice none 0 0, .slice none 0 0, .int .i64 0, .int .i64 0, .int .i64 0, .int .i64 0, .int .i64 0, .int .i64 0, .int .i64 0, .int .i64 0, .int .i64 0, .bool false]), 15, 152) := by kernel_rfl
theorem encSt_one1 (c : StC) : ∀ u ∈ encSt c, u.oneCell' = true := by
  intro u hu
  simp [encSt] at hu
  rcases hu with rfl | rfl | rfl | rfl | rfl | rfl | rfl | rfl | rfl | rfl | rfl | rfl | rfl | rfl | rfl <;> rfl
def steps1 (k : Nat) (c : StC) : List StC := List.replicate k c
set_option maxHeartbeats 8000000 in
theorem parsePlan0 (w : World) (hV : Env27 w) : Calls Tryz.prog 14 #[.string ⟨stL.toArray⟩] w (fun e w' => ∃ v, e = .returned (.tuple #[v, .int .i64 0]) ∧ StepsAt w' v [S2] ∧ Grew w w') := by
  have HS := Lib.hid fun W (q : Grew w W) => split_at ⟨stL.toArray⟩ ⟨#[32, 124, 32]⟩ [stL] split_st (by decide) (by decide) (by decide) W (hV.m.grew q)
  have HP := Lib.hid fun W (q : Grew w W) => parseStep0 W (hV.grew q)
  have HL := Lib.hid fun W (q : Grew w W) v hv => plan0 v W (hV.p.grew q) hv
  have hz : stL.isEmpty = false := rfl
  clear hV
  generalize hsl : stL = sl at *
  clear hsl
  go_enter Tryz.func14, Tryz.ntmps14
  go_wp2_with (go_at_call 25; refine (HS.out _ (by repeat (first | with_reducible exact Grew.refl _ | apply Grew.more | apply Grew.alloc | apply Grew.drew | apply Grew.drewN))).mono ?_; rintro e w1 ⟨v1, rfl, hv1, R1, n1, rfl⟩; obtain ⟨bs, cs, rfl, hbs, hcs⟩ := strs_open hv1 (by simp); (have s0 := hcs 0 (by simp)); clear hv1 hcs)
  simp at s0
  have HS0 := Lib.hid s0
  clear s0
  have hgw : Hid (Grew w (w.more R1 n1)) := Lib.hid (by repeat (first | with_reducible exact Grew.refl _ | apply Grew.more | apply Grew.alloc | apply Grew.drew | apply Grew.drewN))
  generalize w.more R1 n1 = w1 at *
  go_loopg [4, 10] 1 (fun gg s4 s10 wr => ∃ (k : Nat) (af : Option Addr) (cf : Nat) (ap : Option Addr) (cp : Nat), k ≤ 1 ∧ 1 - k ≤ gg ∧ s10 = .int .i64 k ∧ Hid (Grew w1 wr) ∧ Hid (OwnAt w1.heap.size 60 15 encSt wr s4 (steps1 k ⟨2, ⟨2, 2, af, 1, cf, ap, 0, cp, 1, 0, 0, 0, 0, 0, 0, 0, 0⟩, false⟩)) ∧ Hid (k = 1 → OwnAt w1.heap.size 3 1 encN wr (.slice af 1 cf) [0]))
  case atStart => exact ⟨0, none, 0, none, 0, by omega, by omega, rfl, Lib.hid (Grew.refl _), Lib.hid (OwnAt.nil _), Lib.hid fun q => absurd q (by decide)⟩
  case round =>
    obtain ⟨k, af0, cf0, ap0, cp0, hk, hgg, rfl, HG, HO, HI⟩ := hrel
    rename World => wa
    by_cases hlt : k < 1
    · obtain rfl : k = 0 := by omega
      have s0 := cell_grew HS0.out HG.out
      have p0 := Pre.ofCell s0
      have HO0 : Hid (OwnAt w1.heap.size 60 15 encSt wa _ []) := HO
      clear HO
      go_wp2_with (first
        | (go_at_call 26; refine (HP.out _ ((hgw.out.trans HG.out).trans (by repeat (first | with_reducible exact Grew.refl _ | apply Grew.more | apply Grew.alloc | apply Grew.drew | apply Grew.drewN)))).mono ?_; rintro e w2 ⟨af, cf, ap, cp, rfl, ho, R2, n2, rfl⟩; (have HO2 := Lib.hid ho); clear ho)
        | (at_builtin; go_loud (refine wpList_ownK (w0 := w1) rfl (.tmp 14) (.tmp 17) 33 _ _ _ _ [⟨2, ⟨2, 2, af, 1, cf, ap, 0, cp, 1, 0, 0, 0, 0, 0, 0, 0, 0⟩, false⟩] rfl Tryz.underlying33 infoStep1 rfl (by decide) encSt_len encSt_one1 rfl (OwnAt.grew HO0.out (by repeat (first | with_reducible exact Grew.refl _ | apply Grew.more | apply Grew.alloc | apply Grew.drew | apply Grew.drewN))) (HG.out.trans (by repeat (first | with_reducible exact Grew.refl _ | apply Grew.more | apply Grew.alloc | apply Grew.drew | apply Grew.drewN))) rfl (st_at1 _ _ _ _ rfl (by simp [go_sem])) (by simp) (by decide) (by simp) ?_); intro v7 W7 hA; (have HA7 := Lib.hid hA); clear hA))
      go_roundg 0
      case measure => omega
      case rel =>
        refine ⟨1, af, cf, ap, cp, by omega, by omega, by go_num, Lib.hid HA7.out.1, Lib.hid HA7.out.2.1, Lib.hid fun _ => ?_⟩
        obtain ⟨a1, a2, a3, a4, a5⟩ := HA7.out
        refine OwnAt.same (OwnAt.low HO2.out HG.out.below.size) fun b hb => ?_
        obtain ⟨-, cs2, hc2⟩ := OwnAt.block HO2.out hb
        refine (a4 b ?_ ?_).trans ?_
        · exact heap_lt (heap_alloc' hc2 _)
        · exact OwnAt.other (w := wa.more R2 n2) (OwnAt.grew HO0.out (by repeat (first | with_reducible exact Grew.refl _ | apply Grew.more | apply Grew.alloc | apply Grew.drew | apply Grew.drewN))) hc2 (by decide)
        · exact (heap_alloc' hc2 _).trans hc2.symm
    · obtain rfl : k = 1 := by omega
      have hi := HI.out rfl
      have hst := stepsAt_S2 HO.out (node_N2 (ap := ap0) (cp := cp0) hi)
      have HST := Lib.hid hst
      obtain ⟨a9, c9, hv9, -⟩ := hst.openC
      have hv9' : _ = Value.slice a9 1 c9 := hv9
      subst hv9'
      clear hi hst
      go_wp2_with (go_at_call 15; refine (HL.out _ ((hgw.out.trans HG.out).trans (by repeat (first | with_reducible exact Grew.refl _ | apply Grew.more | apply Grew.alloc | apply Grew.drew | apply Grew.drewN))) _ (HST.out.grew (by repeat (first | with_reducible exact Grew.refl _ | apply Grew.more | apply Grew.alloc | apply Grew.drew | apply Grew.drewN)))).mono ?_; rintro e w2 ⟨rfl, R3, n3, rfl⟩)
      go_ret2
      exact ⟨_, rfl, HST.out.grew (by repeat (first | with_reducible exact Grew.refl _ | apply Grew.more | apply Grew.alloc | apply Grew.drew | apply Grew.drewN)), (hgw.out.trans HG.out).trans (by repeat (first | with_reducible exact Grew.refl _ | apply Grew.more | apply Grew.alloc | apply Grew.drew | apply Grew.drewN))⟩
end Go.Proofs.YthlmmfljeblflaaGreatDoor

/-! forebaylaw27.awake. -/
namespace Go.Proofs.YthlmmfljeblflaaGreatDoor
set_option linter.unusedSimpArgs false
set_option linter.unusedVariables false
open Go.RowKit Ga
set_option maxRecDepth 100000

set_option maxHeartbeats 8000000 in
theorem awake27_any (w : World) (hV : Env27 w) : Calls Tryz.prog 5 #[] w (Gives (.bool true) w) := by
  have HP := Lib.hid (parsePlan0 w hV)
  have HL := Lib.hid fun W (q : Grew w W) v hv => plan0 v W (hV.p.grew q) hv
  clear hV
  go_enter Tryz.func5, Tryz.ntmps5
  show Code.wp _ _ _ _ _
  go_wp2_with fail
  refine HP.out.mono ?_
  rintro e w1 ⟨v, rfl, hv, R1, n1, rfl⟩
  have HV := Lib.hid hv
  obtain ⟨a, cap, rfl, -, hx⟩ := hv.openC
  obtain ⟨b, off, c, rfl, hb, hs, g0, g1, g2, g3, g4, g5, -⟩ := hx 0 (by decide)
  obtain ⟨af, cf, ap, cp, rfl⟩ := S2_lit hs
  simp only [Nat.zero_mul, Nat.add_zero] at g0 g1 g5
  clear hv hx hs g2 g3 g4
  go_wp2_with (go_at_call 15; refine (HL.out _ (by repeat (first | with_reducible exact Grew.refl _ | apply Grew.more | apply Grew.alloc | apply Grew.drew | apply Grew.drewN)) _ (HV.out.grew (by repeat (first | with_reducible exact Grew.refl _ | apply Grew.more | apply Grew.alloc | apply Grew.drew | apply Grew.drewN)))).mono ?_; rintro e w2 ⟨rfl, R3, n3, rfl⟩)
  go_ret
  exact ⟨rfl, by repeat (first | with_reducible exact Grew.refl _ | apply Grew.more | apply Grew.alloc | apply Grew.drew | apply Grew.drewN)⟩
end Go.Proofs.YthlmmfljeblflaaGreatDoor
