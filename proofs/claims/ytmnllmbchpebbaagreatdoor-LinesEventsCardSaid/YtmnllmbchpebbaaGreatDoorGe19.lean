import Derived.Test.YtmnllmbchpebbaaGreatDoorGe16
/-! lines: words, node, ParseNode. -/
namespace Go.Proofs.YtmnllmbchpebbaaGreatDoor
set_option linter.unusedSimpArgs false
set_option linter.unusedVariables false
open Go.RowKit Ga
set_option maxRecDepth 100000

set_option maxHeartbeats 8000000 in
theorem words_any (s : List UInt8) (hs : s.length ≤ 100000) (w : World) (hV : Env27 w) : Calls Tryz.prog 61 #[.string ⟨s.toArray⟩] w (fun e w' => ∃ v1 v2, e = .returned (.tuple #[v1, v2]) ∧ OwnAt w.heap.size 9 1 encS w' v1 (Li.wordsP s).1 ∧ OwnAt w.heap.size 131 2 encI w' v2 (Li.wordsP s).2 ∧ Grew w w') := by
  obtain ⟨c1, c2⟩ := cut_len s Li.behind
  have HC := Lib.hid fun W (q : Grew w W) => cut_any s [58, 32] (by omega) W (hV.m.grew q)
  have HP := Lib.hid fun W (q : Grew w W) => codeParseO_any (Lib.cut s Li.behind).2.1 (by omega) W (hV.m.grew q) (hV.e.grew q) (hV.p.grew q) (hV.a.grew q)
  have HS := Lib.hid fun W (q : Grew w W) => split_any (Lib.cut s Li.behind).1 [32] (by omega) (by decide) W (hV.m.grew q)
  have e1 : Lib.cut s [58, 32] = Lib.cut s Li.behind := rfl
  rw [e1] at HC
  unfold Li.wordsP
  clear hV e1
  simp only
  generalize (Lib.cut s Li.behind).1 = ca at *
  generalize (Lib.cut s Li.behind).2.1 = cb at *
  generalize (Lib.cut s Li.behind).2.2 = cc at *
  generalize Co.parseI cb = pc at *
  generalize Lib.split ca [32] = xs at *
  go_enter Tryz.func61, Tryz.ntmps61
  go_wp2_with (first
    | (go_at_call 54; refine (HC.out _ (by repeat (first | with_reducible exact Grew.refl _ | apply Grew.more | apply Grew.alloc | apply Grew.drew | apply Grew.drewN))).mono ?_; rintro e w1 ⟨rfl, R1, n1, rfl⟩)
    | (go_at_call 103; refine (HP.out _ (by repeat (first | with_reducible exact Grew.refl _ | apply Grew.more | apply Grew.alloc | apply Grew.drew | apply Grew.drewN))).mono ?_; rintro e w1 ⟨v2, rfl, hv2, R2, n2, rfl⟩; (have HV2 := Lib.hid hv2); clear hv2)
    | (go_at_call 22; refine (HS.out _ (by repeat (first | with_reducible exact Grew.refl _ | apply Grew.more | apply Grew.alloc | apply Grew.drew | apply Grew.drewN))).mono ?_; rintro e w1 ⟨v3, rfl, hv3, R3, n3, rfl⟩; (have HV3 := Lib.hid hv3); clear hv3))
  go_ret2
  exact ⟨_, _, rfl, OwnAt.low HV3.out (by simp [World.more_size]; omega), OwnAt.low (HV2.out.grew (by repeat (first | with_reducible exact Grew.refl _ | apply Grew.more | apply Grew.alloc | apply Grew.drew | apply Grew.drewN))) (by simp [World.more_size]), by repeat (first | with_reducible exact Grew.refl _ | apply Grew.more | apply Grew.alloc | apply Grew.drew | apply Grew.drewN)⟩
theorem nd_mk {base : Nat} {W : World} {ia kd ic x0 x1 x2 x3 x4 x5 x6 x7 : Int} {af ap : Option Addr} {nf cf np cp : Nat} {frm r : List Int} {p : List Val} (hf : OwnAt base 3 1 encN W (.slice af nf cf) frm) (hp : OwnAt base 131 2 encI W (.slice ap np cp) p) (hr : r = [x0, x1, x2, x3, x4, x5, x6, x7]) :
    NodeIs W ⟨ia, kd, af, nf, cf, ap, np, cp, ic, x0, x1, x2, x3, x4, x5, x6, x7⟩ ⟨ia, kd, frm, p, ic, r⟩ ∧ OwnsNd base W ⟨ia, kd, af, nf, cf, ap, np, cp, ic, x0, x1, x2, x3, x4, x5, x6, x7⟩ ⟨ia, kd, frm, p, ic, r⟩ :=
  ⟨⟨rfl, rfl, OwnAt.rows hf encN_len, OwnAt.rows hp encI_len, rfl, hr, OwnAt.cap hf⟩, hf, hp⟩
def NdGives (base : Nat) (n : Gr.Nd) (w : World) (e : Ending) (w' : World) : Prop := ∃ c : NdC, e = .returned (.agg #[.int .i64 c.id, .int .i64 c.kind, .slice c.af c.nf c.cf, .slice c.ap c.np c.cp, .int .i64 c.par, .int .i64 c.r0, .int .i64 c.r1, .int .i64 c.r2, .int .i64 c.r3, .int .i64 c.r4, .int .i64 c.r5, .int .i64 c.r6, .int .i64 c.r7]) ∧ NodeIs w' c n ∧ OwnsNd base w' c n ∧ Grew w w'
theorem nd_none {base : Nat} {W : World} : NodeIs W ⟨0, -1, none, 0, 0, none, 0, 0, 0, 0, 0, 0, 0, 0, 0, 0, 0⟩ ⟨0, -1, [], [], 0, Gr.zeros⟩ ∧ OwnsNd base W ⟨0, -1, none, 0, 0, none, 0, 0, 0, 0, 0, 0, 0, 0, 0, 0, 0⟩ ⟨0, -1, [], [], 0, Gr.zeros⟩ := nd_mk (OwnAt.nil W) (OwnAt.nil W) rfl
set_option maxHeartbeats 16000000 in
theorem node_src (base : Nat) (v1 : Value) (ap : Option Addr) (cp : Nat) (p : List Val) (a c d : List UInt8)  (hl : ∀ x ∈ ([a, Li.sSOURCE, c, d] : List (List UInt8)), x.length ≤ 100000) (w : World) (hV : Env27 w) (h1 : OwnAt base 9 1 encS w v1 [a, Li.sSOURCE, c, d]) (h2 : OwnAt base 131 2 encI w (.slice ap p.length cp) p) (hb : base ≤ w.heap.size) : Calls Tryz.prog 63 #[v1, .slice ap p.length cp] w (NdGives base ⟨Co.atoiVal a, 0, [], p, Co.atoiVal c, Li.routeP d⟩ w) := by
  obtain ⟨b, cap, rfl, hpre, hc⟩ := strs_open h1 (by simp)
  have s0 := hc 0 (by simp)
  have s1 := hc 1 (by simp)
  have s2 := hc 2 (by simp)
  have s3 := hc 3 (by simp)
  simp at s0 s1 s2 s3
  have HA := Lib.hid fun W (q : Grew w W) => atoiL_any a (by have := hl a (by simp); omega) W (hV.e.grew q)
  have hra := Co.atoiVal_range a
  have hlc := hl c (by simp)
  have hld := hl d (by simp)
  have HE := Lib.hid fun W (q : Grew w W) => hV.e.grew q
  have H2 := Lib.hid h2
  have HB := Lib.hid hb
  clear hV h1 h2 hc hl hb
  show Calls Tryz.prog _ #[.slice (some ⟨b, 0, none⟩) 4 cap, .slice ap p.length cp] w _
  generalize Co.atoiVal a = ia at *
  go_enter Tryz.func63, Tryz.ntmps63
  go_wp2_with (first | (go_at_call 62; refine (HA.out _ (by repeat (first | with_reducible exact Grew.refl _ | apply Grew.more | apply Grew.alloc | apply Grew.drew | apply Grew.drewN))).mono ?_; rintro e w1 ⟨v3, rfl, RA, nA, rfl⟩) | fail)
  obtain ⟨x0, x1, x2, x3, x4, x5, x6, x7, hx, hpl⟩ := placed_any ia 0 0 0 0 0 0 0 0 0 0 none ap 0 0 p.length cp c d hlc hld w (HE.out w (Grew.refl _))
  have HPL := Lib.hid fun W (q : Grew w W) => (placed_any ia 0 0 0 0 0 0 0 0 0 0 none ap 0 0 p.length cp c d hlc hld W (HE.out W q))
  clear hpl
  have HPL2 : Hid (∀ W, Grew w W → Calls Tryz.prog 64 #[.agg #[.int .i64 ia, .int .i64 0, .slice none 0 0, .slice ap p.length cp, .int .i64 0, .int .i64 0, .int .i64 0, .int .i64 0, .int .i64 0, .int .i64 0, .int .i64 0, .int .i64 0, .int .i64 0], .string ⟨c.toArray⟩, .string ⟨d.toArray⟩] W (Gives (.agg #[.int .i64 ia, .int .i64 0, .slice none 0 0, .slice ap p.length cp, .int .i64 (Co.atoiVal c), .int .i64 x0, .int .i64 x1, .int .i64 x2, .int .i64 x3, .int .i64 x4, .int .i64 x5, .int .i64 x6, .int .i64 x7]) W)) := Lib.hid fun W q => by
    obtain ⟨y0, y1, y2, y3, y4, y5, y6, y7, hy, hc⟩ := HPL.out W q
    rw [hx] at hy
    cases hy
    exact hc
  clear HPL
  refine wp_region_seq 8 Tryz.mixed (by kernel_rfl) (by kernel_rfl) ?_
  iterate 7
    apply Seq.val
    focus
      rintro w1 u ⟨R1, n1, rfl⟩ hF
      simp [moreFacts, Fact.more, Oper.deps, Region.binds, List.filter_cons, World.more_drew] at hF
      simp [putFacts, Oper.deps, Region.binds, List.filter_cons, Region.dstOf, Fact.at, Act.put, World.more_drew]
      go_wp2
      exact ⟨by repeat (first | with_reducible exact Grew.refl _ | apply Grew.more | apply Grew.alloc | apply Grew.drew | apply Grew.drewN), rfl, _, _, rfl, rfl, rfl⟩
  apply Seq.val
  focus
    rintro w1 u ⟨R1, n1, rfl⟩ hF
    simp [moreFacts, Fact.more, Oper.deps, Region.binds, List.filter_cons, World.more_drew] at hF
    simp [putFacts, Oper.deps, Region.binds, List.filter_cons, Region.dstOf, Fact.at, Act.put, World.more_drew]
    go_wp2_with (first
      | (go_at_call 64; go_loud (refine (HPL2.out _ (by repeat (first | with_reducible exact Grew.refl _ | apply Grew.more | apply Grew.alloc | apply Grew.drew | apply Grew.drewN))).mono ?_); rintro e w1 ⟨rfl, R3, n3, rfl⟩)
      )
    exact ⟨by repeat (first | with_reducible exact Grew.refl _ | apply Grew.more | apply Grew.alloc | apply Grew.drew | apply Grew.drewN), rfl, _, _, rfl, rfl, rfl⟩
  rintro u w1 ⟨R1, n1, rfl⟩ hF
  clear hF
  simp [putFacts, Region.dstOf, Fact.at, Act.put, List.range_succ, World.more_drew]
  go_wp2
  refine bodyPost_ret (v := .agg #[.int .i64 ia, .int .i64 0, .slice none 0 0, .slice ap p.length cp, .int .i64 (Co.atoiVal c), .int .i64 x0, .int .i64 x1, .int .i64 x2, .int .i64 x3, .int .i64 x4, .int .i64 x5, .int .i64 x6, .int .i64 x7]) (by simp [results, Tryz.results63, go_sem]) rfl ⟨_, rfl, (nd_mk (OwnAt.nil _) (H2.out.grew (by repeat (first | with_reducible exact Grew.refl _ | apply Grew.more | apply Grew.alloc | apply Grew.drew | apply Grew.drewN))) hx).1, (nd_mk (OwnAt.nil _) (H2.out.grew (by repeat (first | with_reducible exact Grew.refl _ | apply Grew.more | apply Grew.alloc | apply Grew.drew | apply Grew.drewN))) hx).2, by repeat (first | with_reducible exact Grew.refl _ | apply Grew.more | apply Grew.alloc | apply Grew.drew | apply Grew.drewN)⟩
set_option maxHeartbeats 16000000 in
theorem node_no4 (base : Nat) (v1 : Value) (ap : Option Addr) (cp : Nat) (p : List Val) (a bb c d : List UInt8) (hbb : bb ≠ Li.sSOURCE) (hl : ∀ x ∈ ([a, bb, c, d] : List (List UInt8)), x.length ≤ 100000) (w : World) (hV : Env27 w) (h1 : OwnAt base 9 1 encS w v1 [a, bb, c, d]) (h2 : OwnAt base 131 2 encI w (.slice ap p.length cp) p) (hb : base ≤ w.heap.size) : Calls Tryz.prog 63 #[v1, .slice ap p.length cp] w (NdGives base ⟨0, -1, [], [], 0, Gr.zeros⟩ w) := by
  obtain ⟨b, cap, rfl, hpre, hc⟩ := strs_open h1 (by simp)
  have s0 := hc 0 (by simp)
  have s1 := hc 1 (by simp)
  have s2 := hc 2 (by simp)
  have s3 := hc 3 (by simp)
  simp at s0 s1 s2 s3
  have HA := Lib.hid fun W (q : Grew w W) => atoiL_any a (by have := hl a (by simp); omega) W (hV.e.grew q)
  have hra := Co.atoiVal_range a
  have hbe : (bb == [83, 79, 85, 82, 67, 69]) = false := by simpa [Li.sSOURCE] using hbb
  clear hbb
  have H2 := Lib.hid h2
  have HB := Lib.hid hb
  clear hV h1 h2 hc hl hb
  show Calls Tryz.prog _ #[.slice (some ⟨b, 0, none⟩) 4 cap, .slice ap p.length cp] w _
  generalize Co.atoiVal a = ia at *
  go_enter Tryz.func63, Tryz.ntmps63
  go_wp2_with (first | (go_at_call 62; refine (HA.out _ (by repeat (first | with_reducible exact Grew.refl _ | apply Grew.more | apply Grew.alloc | apply Grew.drew | apply Grew.drewN))).mono ?_; rintro e w1 ⟨v3, rfl, RA, nA, rfl⟩) | fail)
  refine bodyPost_ret (v := .agg #[.int .i64 0, .int .i64 (-1), .slice none 0 0, .slice none 0 0, .int .i64 0, .int .i64 0, .int .i64 0, .int .i64 0, .int .i64 0, .int .i64 0, .int .i64 0, .int .i64 0, .int .i64 0]) (by simp [results, Tryz.results63, go_sem]) rfl ⟨_, rfl, (nd_none (base := base)).1, (nd_none (base := base)).2, by repeat (first | with_reducible exact Grew.refl _ | apply Grew.more | apply Grew.alloc | apply Grew.drew | apply Grew.drewN)⟩
set_option maxHeartbeats 16000000 in
theorem node_no5 (base : Nat) (v1 : Value) (ap : Option Addr) (cp : Nat) (p : List Val) (a bb c d ee : List UInt8) (hb1 : bb ≠ Li.sOP) (hb2 : bb ≠ Li.sSINK) (hl : ∀ x ∈ ([a, bb, c, d, ee] : List (List UInt8)), x.length ≤ 100000) (w : World) (hV : Env27 w) (h1 : OwnAt base 9 1 encS w v1 [a, bb, c, d, ee]) (h2 : OwnAt base 131 2 encI w (.slice ap p.length cp) p) (hb : base ≤ w.heap.size) : Calls Tryz.prog 63 #[v1, .slice ap p.length cp] w (NdGives base ⟨0, -1, [], [], 0, Gr.zeros⟩ w) := by
  obtain ⟨b, cap, rfl, hpre, hc⟩ := strs_open h1 (by simp)
  have s0 := hc 0 (by simp)
  have s1 := hc 1 (by simp)
  have s2 := hc 2 (by simp)
  have s3 := hc 3 (by simp)
  have s4 := hc 4 (by simp)
  simp at s0 s1 s2 s3 s4
  have HA := Lib.hid fun W (q : Grew w W) => atoiL_any a (by have := hl a (by simp); omega) W (hV.e.grew q)
  have hra := Co.atoiVal_range a
  have hbe : (bb == [79, 80]) = false := by simpa [Li.sOP] using hb1
  have hbf : (bb == [83, 73, 78, 75]) = false := by simpa [Li.sSINK] using hb2
  clear hb1 hb2
  have H2 := Lib.hid h2
  have HB := Lib.hid hb
  clear hV h1 h2 hc hl hb
  show Calls Tryz.prog _ #[.slice (some ⟨b, 0, none⟩) 5 cap, .slice ap p.length cp] w _
  generalize Co.atoiVal a = ia at *
  go_enter Tryz.func63, Tryz.ntmps63
  go_wp2_with (first | (go_at_call 62; refine (HA.out _ (by repeat (first | with_reducible exact Grew.refl _ | apply Grew.more | apply Grew.alloc | apply Grew.drew | apply Grew.drewN))).mono ?_; rintro e w1 ⟨v3, rfl, RA, nA, rfl⟩) | fail)
  refine bodyPost_ret (v := .agg #[.int .i64 0, .int .i64 (-1), .slice none 0 0, .slice none 0 0, .int .i64 0, .int .i64 0, .int .i64 0, .int .i64 0, .int .i64 0, .int .i64 0, .int .i64 0, .int .i64 0, .int .i64 0]) (by simp [results, Tryz.results63, go_sem]) rfl ⟨_, rfl, (nd_none (base := base)).1, (nd_none (base := base)).2, by repeat (first | with_reducible exact Grew.refl _ | apply Grew.more | apply Grew.alloc | apply Grew.drew | apply Grew.drewN)⟩
set_option maxHeartbeats 16000000 in
theorem node_op (base : Nat) (v1 : Value) (ap : Option Addr) (cp : Nat) (p : List Val) (a c d ee : List UInt8)  (hl : ∀ x ∈ ([a, Li.sOP, c, d, ee] : List (List UInt8)), x.length ≤ 100000) (w : World) (hV : Env27 w) (h1 : OwnAt base 9 1 encS w v1 [a, Li.sOP, c, d, ee]) (h2 : OwnAt base 131 2 encI w (.slice ap p.length cp) p) (hb : base ≤ w.heap.size) : Calls Tryz.prog 63 #[v1, .slice ap p.length cp] w (NdGives base ⟨Co.atoiVal a, 1, Li.numsP c, p, Co.atoiVal d, Li.routeP ee⟩ w) := by
  obtain ⟨b, cap, rfl, hpre, hc⟩ := strs_open h1 (by simp)
  have s0 := hc 0 (by simp)
  have s1 := hc 1 (by simp)
  have s2 := hc 2 (by simp)
  have s3 := hc 3 (by simp)
  have s4 := hc 4 (by simp)
  simp at s0 s1 s2 s3 s4
  have HA := Lib.hid fun W (q : Grew w W) => atoiL_any a (by have := hl a (by simp); omega) W (hV.e.grew q)
  have hra := Co.atoiVal_range a
  have hlc := hl c (by simp)
  have hld := hl d (by simp)
  have hle := hl ee (by simp)
  have HN := Lib.hid fun W (q : Grew w W) => numbers_any c hlc W (hV.grew q)
  have HE := Lib.hid fun W (q : Grew w W) => hV.e.grew q
  have H2 := Lib.hid h2
  have HB := Lib.hid hb
  clear hV h1 h2 hc hl hb
  show Calls Tryz.prog _ #[.slice (some ⟨b, 0, none⟩) 5 cap, .slice ap p.length cp] w _
  generalize Co.atoiVal a = ia at *
  go_enter Tryz.func63, Tryz.ntmps63
  generalize Li.numsP c = fr at *
  go_wp2_with (first
    | (go_at_call 62; refine (HA.out _ (by repeat (first | with_reducible exact Grew.refl _ | apply Grew.more | apply Grew.alloc | apply Grew.drew | apply Grew.drewN))).mono ?_; rintro e w1 ⟨v3, rfl, RA, nA, rfl⟩)
    | (go_at_call 65; refine (HN.out _ (by repeat (first | with_reducible exact Grew.refl _ | apply Grew.more | apply Grew.alloc | apply Grew.drew | apply Grew.drewN))).mono ?_; rintro e w1 ⟨v4, rfl, hv4, RB, nB, rfl⟩; obtain ⟨af, cf, rfl⟩ := (OwnAt.rows hv4 encN_len).len; (have HV4 := Lib.hid hv4); clear hv4)
    | fail)
  obtain ⟨x0, x1, x2, x3, x4, x5, x6, x7, hx, hpl⟩ := placed_any ia 1 0 0 0 0 0 0 0 0 0 af ap fr.length cf p.length cp d ee hld hle w (HE.out w (Grew.refl _))
  have HPL := Lib.hid fun W (q : Grew w W) => (placed_any ia 1 0 0 0 0 0 0 0 0 0 af ap fr.length cf p.length cp d ee hld hle W (HE.out W q))
  clear hpl
  have HPL2 : Hid (∀ W, Grew w W → Calls Tryz.prog 64 #[.agg #[.int .i64 ia, .int .i64 1, .slice af fr.length cf, .slice ap p.length cp, .int .i64 0, .int .i64 0, .int .i64 0, .int .i64 0, .int .i64 0, .int .i64 0, .int .i64 0, .int .i64 0, .int .i64 0], .string ⟨d.toArray⟩, .string ⟨ee.toArray⟩] W (Gives (.agg #[.int .i64 ia, .int .i64 1, .slice af fr.length cf, .slice ap p.length cp, .int .i64 (Co.atoiVal d), .int .i64 x0, .int .i64 x1, .int .i64 x2, .int .i64 x3, .int .i64 x4, .int .i64 x5, .int .i64 x6, .int .i64 x7]) W)) := Lib.hid fun W q => by
    obtain ⟨y0, y1, y2, y3, y4, y5, y6, y7, hy, hc⟩ := HPL.out W q
    rw [hx] at hy
    cases hy
    exact hc
  clear HPL
  refine wp_region_seq 8 Tryz.mixed (by kernel_rfl) (by kernel_rfl) ?_
  iterate 7
    apply Seq.val
    focus
      rintro w1 u ⟨R1, n1, rfl⟩ hF
      simp [moreFacts, Fact.more, Oper.deps, Region.binds, List.filter_cons, World.more_drew] at hF
      simp [putFacts, Oper.deps, Region.binds, List.filter_cons, Region.dstOf, Fact.at, Act.put, World.more_drew]
      go_wp2
      exact ⟨by repeat (first | with_reducible exact Grew.refl _ | apply Grew.more | apply Grew.alloc | apply Grew.drew | apply Grew.drewN), rfl, _, _, rfl, rfl, rfl⟩
  apply Seq.val
  focus
    rintro w1 u ⟨R1, n1, rfl⟩ hF
    simp [moreFacts, Fact.more, Oper.deps, Region.binds, List.filter_cons, World.more_drew] at hF
    simp [putFacts, Oper.deps, Region.binds, List.filter_cons, Region.dstOf, Fact.at, Act.put, World.more_drew]
    go_wp2_with (first
      | (go_at_call 64; go_loud (refine (HPL2.out _ (by repeat (first | with_reducible exact Grew.refl _ | apply Grew.more | apply Grew.alloc | apply Grew.drew | apply Grew.drewN))).mono ?_); rintro e w1 ⟨rfl, R3, n3, rfl⟩)
      )
    exact ⟨by repeat (first | with_reducible exact Grew.refl _ | apply Grew.more | apply Grew.alloc | apply Grew.drew | apply Grew.drewN), rfl, _, _, rfl, rfl, rfl⟩
  rintro u w1 ⟨R1, n1, rfl⟩ hF
  clear hF
  simp [putFacts, Region.dstOf, Fact.at, Act.put, List.range_succ, World.more_drew]
  go_wp2
  have hof : OwnAt base 3 1 encN (((((w.alloc (.cells #[.int .i64 ia, .int .i64 1, .slice af fr.length cf, .slice ap p.length cp, .int .i64 (Co.atoiVal d), .int .i64 x0, .int .i64 x1, .int .i64 x2, .int .i64 x3, .int .i64 x4, .int .i64 x5, .int .i64 x6, .int .i64 x7] 42)).alloc (.cells #[.int .i64 ia, .int .i64 1, .slice af fr.length cf, .slice ap p.length cp, .int .i64 0, .int .i64 0, .int .i64 0, .int .i64 0, .int .i64 0, .int .i64 0, .int .i64 0, .int .i64 0, .int .i64 0] 42)).more RA nA).more RB nB)) (.slice af fr.length cf) fr :=
    OwnAt.low (own_swap (Y := ((w.alloc (.cells #[.int .i64 ia, .int .i64 1, .slice af fr.length cf, .slice ap p.length cp, .int .i64 (Co.atoiVal d), .int .i64 x0, .int .i64 x1, .int .i64 x2, .int .i64 x3, .int .i64 x4, .int .i64 x5, .int .i64 x6, .int .i64 x7] 42)).alloc (.cells #[.int .i64 ia, .int .i64 1, .slice af fr.length cf, .slice ap p.length cp, .int .i64 0, .int .i64 0, .int .i64 0, .int .i64 0, .int .i64 0, .int .i64 0, .int .i64 0, .int .i64 0, .int .i64 0] 42)).more RA nA) HV4.out (by simp [World.more_size, World.size_alloc]) (Nat.le_refl _)) (by have := HB.out; simp [World.more_size, World.size_alloc]; omega)
  refine bodyPost_ret (v := .agg #[.int .i64 ia, .int .i64 1, .slice af fr.length cf, .slice ap p.length cp, .int .i64 (Co.atoiVal d), .int .i64 x0, .int .i64 x1, .int .i64 x2, .int .i64 x3, .int .i64 x4, .int .i64 x5, .int .i64 x6, .int .i64 x7]) (by simp [results, Tryz.results63, go_sem]) rfl ⟨_, rfl, (nd_mk (hof.grew (by repeat (first | with_reducible exact Grew.refl _ | apply Grew.more | apply Grew.alloc | apply Grew.drew | apply Grew.drewN))) (H2.out.grew (by repeat (first | with_reducible exact Grew.refl _ | apply Grew.more | apply Grew.alloc | apply Grew.drew | apply Grew.drewN))) hx).1, (nd_mk (hof.grew (by repeat (first | with_reducible exact Grew.refl _ | apply Grew.more | apply Grew.alloc | apply Grew.drew | apply Grew.drewN))) (H2.out.grew (by repeat (first | with_reducible exact Grew.refl _ | apply Grew.more | apply Grew.alloc | apply Grew.drew | apply Grew.drewN))) hx).2, by repeat (first | with_reducible exact Grew.refl _ | apply Grew.more | apply Grew.alloc | apply Grew.drew | apply Grew.drewN)⟩
set_option maxHeartbeats 16000000 in
theorem node_sink (base : Nat) (v1 : Value) (ap : Option Addr) (cp : Nat) (p : List Val) (a c d ee : List UInt8)  (hl : ∀ x ∈ ([a, Li.sSINK, c, d, ee] : List (List UInt8)), x.length ≤ 100000) (w : World) (hV : Env27 w) (h1 : OwnAt base 9 1 encS w v1 [a, Li.sSINK, c, d, ee]) (h2 : OwnAt base 131 2 encI w (.slice ap p.length cp) p) (hb : base ≤ w.heap.size) : Calls Tryz.prog 63 #[v1, .slice ap p.length cp] w (NdGives base ⟨Co.atoiVal a, 2, Li.numsP c, p, Co.atoiVal d, Li.routeP ee⟩ w) := by
  obtain ⟨b, cap, rfl, hpre, hc⟩ := strs_open h1 (by simp)
  have s0 := hc 0 (by simp)
  have s1 := hc 1 (by simp)
  have s2 := hc 2 (by simp)
  have s3 := hc 3 (by simp)
  have s4 := hc 4 (by simp)
  simp at s0 s1 s2 s3 s4
  have HA := Lib.hid fun W (q : Grew w W) => atoiL_any a (by have := hl a (by simp); omega) W (hV.e.grew q)
  have hra := Co.atoiVal_range a
  have hlc := hl c (by simp)
  have hld := hl d (by simp)
  have hle := hl ee (by simp)
  have HN := Lib.hid fun W (q : Grew w W) => numbers_any c hlc W (hV.grew q)
  have HE := Lib.hid fun W (q : Grew w W) => hV.e.grew q
  have H2 := Lib.hid h2
  have HB := Lib.hid hb
  clear hV h1 h2 hc hl hb
  show Calls Tryz.prog _ #[.slice (some ⟨b, 0, none⟩) 5 cap, .slice ap p.length cp] w _
  generalize Co.atoiVal a = ia at *
  go_enter Tryz.func63, Tryz.ntmps63
  generalize Li.numsP c = fr at *
  go_wp2_with (first
    | (go_at_call 62; refine (HA.out _ (by repeat (first | with_reducible exact Grew.refl _ | apply Grew.more | apply Grew.alloc | apply Grew.drew | apply Grew.drewN))).mono ?_; rintro e w1 ⟨v3, rfl, RA, nA, rfl⟩)
    | (go_at_call 65; refine (HN.out _ (by repeat (first | with_reducible exact Grew.refl _ | apply Grew.more | apply Grew.alloc | apply Grew.drew | apply Grew.drewN))).mono ?_; rintro e w1 ⟨v4, rfl, hv4, RB, nB, rfl⟩; obtain ⟨af, cf, rfl⟩ := (OwnAt.rows hv4 encN_len).len; (have HV4 := Lib.hid hv4); clear hv4)
    | fail)
  obtain ⟨x0, x1, x2, x3, x4, x5, x6, x7, hx, hpl⟩ := placed_any ia 2 0 0 0 0 0 0 0 0 0 af ap fr.length cf p.length cp d ee hld hle w (HE.out w (Grew.refl _))
  have HPL := Lib.hid fun W (q : Grew w W) => (placed_any ia 2 0 0 0 0 0 0 0 0 0 af ap fr.length cf p.length cp d ee hld hle W (HE.out W q))
  clear hpl
  have HPL2 : Hid (∀ W, Grew w W → Calls Tryz.prog 64 #[.agg #[.int .i64 ia, .int .i64 2, .slice af fr.length cf, .slice ap p.length cp, .int .i64 0, .int .i64 0, .int .i64 0, .int .i64 0, .int .i64 0, .int .i64 0, .int .i64 0, .int .i64 0, .int .i64 0], .string ⟨d.toArray⟩, .string ⟨ee.toArray⟩] W (Gives (.agg #[.int .i64 ia, .int .i64 2, .slice af fr.length cf, .slice ap p.length cp, .int .i64 (Co.atoiVal d), .int .i64 x0, .int .i64 x1, .int .i64 x2, .int .i64 x3, .int .i64 x4, .int .i64 x5, .int .i64 x6, .int .i64 x7]) W)) := Lib.hid fun W q => by
    obtain ⟨y0, y1, y2, y3, y4, y5, y6, y7, hy, hc⟩ := HPL.out W q
    rw [hx] at hy
    cases hy
    exact hc
  clear HPL
  refine wp_region_seq 8 Tryz.mixed (by kernel_rfl) (by kernel_rfl) ?_
  iterate 7
    apply Seq.val
    focus
      rintro w1 u ⟨R1, n1, rfl⟩ hF
      simp [moreFacts, Fact.more, Oper.deps, Region.binds, List.filter_cons, World.more_drew] at hF
      simp [putFacts, Oper.deps, Region.binds, List.filter_cons, Region.dstOf, Fact.at, Act.put, World.more_drew]
      go_wp2
      exact ⟨by repeat (first | with_reducible exact Grew.refl _ | apply Grew.more | apply Grew.alloc | apply Grew.drew | apply Grew.drewN), rfl, _, _, rfl, rfl, rfl⟩
  apply Seq.val
  focus
    rintro w1 u ⟨R1, n1, rfl⟩ hF
    simp [moreFacts, Fact.more, Oper.deps, Region.binds, List.filter_cons, World.more_drew] at hF
    simp [putFacts, Oper.deps, Region.binds, List.filter_cons, Region.dstOf, Fact.at, Act.put, World.more_drew]
    go_wp2_with (first
      | (go_at_call 64; go_loud (refine (HPL2.out _ (by repeat (first | with_reducible exact Grew.refl _ | apply Grew.more | apply Grew.alloc | apply Grew.drew | apply Grew.drewN))).mono ?_); rintro e w1 ⟨rfl, R3, n3, rfl⟩)
      )
    exact ⟨by repeat (first | with_reducible exact Grew.refl _ | apply Grew.more | apply Grew.alloc | apply Grew.drew | apply Grew.drewN), rfl, _, _, rfl, rfl, rfl⟩
  rintro u w1 ⟨R1, n1, rfl⟩ hF
  clear hF
  simp [putFacts, Region.dstOf, Fact.at, Act.put, List.range_succ, World.more_drew]
  go_wp2
  have hof : OwnAt base 3 1 encN (((((w.alloc (.cells #[.int .i64 ia, .int .i64 2, .slice af fr.length cf, .slice ap p.length cp, .int .i64 (Co.atoiVal d), .int .i64 x0, .int .i64 x1, .int .i64 x2, .int .i64 x3, .int .i64 x4, .int .i64 x5, .int .i64 x6, .int .i64 x7] 42)).alloc (.cells #[.int .i64 ia, .int .i64 2, .slice af fr.length cf, .slice ap p.length cp, .int .i64 0, .int .i64 0, .int .i64 0, .int .i64 0, .int .i64 0, .int .i64 0, .int .i64 0, .int .i64 0, .int .i64 0] 42)).more RA nA).more RB nB)) (.slice af fr.length cf) fr :=
    OwnAt.low (own_swap (Y := ((w.alloc (.cells #[.int .i64 ia, .int .i64 2, .slice af fr.length cf, .slice ap p.length cp, .int .i64 (Co.atoiVal d), .int .i64 x0, .int .i64 x1, .int .i64 x2, .int .i64 x3, .int .i64 x4, .int .i64 x5, .int .i64 x6, .int .i64 x7] 42)).alloc (.cells #[.int .i64 ia, .int .i64 2, .slice af fr.length cf, .slice ap p.length cp, .int .i64 0, .int .i64 0, .int .i64 0, .int .i64 0, .int .i64 0, .int .i64 0, .int .i64 0, .int .i64 0, .int .i64 0] 42)).more RA nA) HV4.out (by simp [World.more_size, World.size_alloc]) (Nat.le_refl _)) (by have := HB.out; simp [World.more_size, World.size_alloc]; omega)
  refine bodyPost_ret (v := .agg #[.int .i64 ia, .int .i64 2, .slice af fr.length cf, .slice ap p.length cp, .int .i64 (Co.atoiVal d), .int .i64 x0, .int .i64 x1, .int .i64 x2, .int .i64 x3, .int .i64 x4, .int .i64 x5, .int .i64 x6, .int .i64 x7]) (by simp [results, Tryz.results63, go_sem]) rfl ⟨_, rfl, (nd_mk (hof.grew (by repeat (first | with_reducible exact Grew.refl _ | apply Grew.more | apply Grew.alloc | apply Grew.drew | apply Grew.drewN))) (H2.out.grew (by repeat (first | with_reducible exact Grew.refl _ | apply Grew.more | apply Grew.alloc | apply Grew.drew | apply Grew.drewN))) hx).1, (nd_mk (hof.grew (by repeat (first | with_reducible exact Grew.refl _ | apply Grew.more | apply Grew.alloc | apply Grew.drew | apply Grew.drewN))) (H2.out.grew (by repeat (first | with_reducible exact Grew.refl _ | apply Grew.more | apply Grew.alloc | apply Grew.drew | apply Grew.drewN))) hx).2, by repeat (first | with_reducible exact Grew.refl _ | apply Grew.more | apply Grew.alloc | apply Grew.drew | apply Grew.drewN)⟩
set_option maxHeartbeats 16000000 in
theorem node_len (base : Nat) (v1 : Value) (ap : Option Addr) (cp : Nat) (p : List Val) (ws : List (List UInt8)) (h4 : ws.length ≠ 4) (h5 : ws.length ≠ 5) (h0 : 1 ≤ ws.length) (hmax : ws.length ≤ 1000000) (hl : ∀ x ∈ ws, x.length ≤ 100000) (w : World) (hV : Env27 w) (h1 : OwnAt base 9 1 encS w v1 ws) : Calls Tryz.prog 63 #[v1, .slice ap p.length cp] w (NdGives base ⟨0, -1, [], [], 0, Gr.zeros⟩ w) := by
  obtain ⟨b, cap, rfl, hpre, hc⟩ := strs_open h1 (by intro e; subst e; simp at h0)
  have s0 := hc 0 (by omega)
  have hl0 := hl _ (List.getElem_mem (show 0 < ws.length by omega))
  generalize ws[0] = a at *
  have HA := Lib.hid fun W (q : Grew w W) => atoiL_any a (by omega) W (hV.e.grew q)
  have hra := Co.atoiVal_range a
  generalize Co.atoiVal a = ia at *
  have h4b : ¬ ((ws.length : Int) = 4) := by omega
  have h5b : ¬ ((ws.length : Int) = 5) := by omega
  clear hV h1 hc hl h4 h5
  go_enter Tryz.func63, Tryz.ntmps63
  go_wp2_with (first | (go_at_call 62; refine (HA.out _ (by repeat (first | with_reducible exact Grew.refl _ | apply Grew.more | apply Grew.alloc | apply Grew.drew | apply Grew.drewN))).mono ?_; rintro e w1 ⟨v3, rfl, RA, nA, rfl⟩) | fail)
  refine bodyPost_ret (v := .agg #[.int .i64 0, .int .i64 (-1), .slice none 0 0, .slice none 0 0, .int .i64 0, .int .i64 0, .int .i64 0, .int .i64 0, .int .i64 0, .int .i64 0, .int .i64 0, .int .i64 0, .int .i64 0]) (by simp [results, Tryz.results63, go_sem]) rfl ⟨_, rfl, (nd_none (base := base)).1, (nd_none (base := base)).2, by repeat (first | with_reducible exact Grew.refl _ | apply Grew.more | apply Grew.alloc | apply Grew.drew | apply Grew.drewN)⟩
theorem lnode_any (base : Nat) (v1 v2 : Value) (ws : List (List UInt8)) (p : List Val) (h0 : 1 ≤ ws.length) (hmax : ws.length ≤ 1000000) (hl : ∀ x ∈ ws, x.length ≤ 100000) (w : World) (hV : Env27 w) (h1 : OwnAt base 9 1 encS w v1 ws) (h2 : OwnAt base 131 2 encI w v2 p) (hb : base ≤ w.heap.size) : Calls Tryz.prog 63 #[v1, v2] w (NdGives base (Li.nodeP ws p) w) := by
  obtain ⟨ap, cp, rfl⟩ := (OwnAt.rows h2 encI_len).len
  by_cases h4 : ws.length = 4
  · match ws, h4 with
    | [a, bb, c, d], _ =>
      by_cases hs : bb = Li.sSOURCE
      · subst hs
        have e : Li.nodeP [a, Li.sSOURCE, c, d] p = ⟨Co.atoiVal a, 0, [], p, Co.atoiVal c, Li.routeP d⟩ := if_pos ⟨rfl, rfl⟩
        rw [e]
        exact node_src base v1 ap cp p a c d hl w hV h1 h2 hb
      · have e : Li.nodeP [a, bb, c, d] p = ⟨0, -1, [], [], 0, Gr.zeros⟩ := (if_neg (fun q => hs q.2)).trans (if_neg (fun q => by simp at q))
        rw [e]
        exact node_no4 base v1 ap cp p a bb c d hs hl w hV h1 h2 hb
  by_cases h5 : ws.length = 5
  · match ws, h5 with
    | [a, bb, c, d, ee], _ =>
      by_cases hs : bb = Li.sOP
      · subst hs
        have e : Li.nodeP [a, Li.sOP, c, d, ee] p = ⟨Co.atoiVal a, 1, Li.numsP c, p, Co.atoiVal d, Li.routeP ee⟩ := (if_neg (fun q => by simp at q)).trans (if_pos ⟨rfl, .inl rfl⟩)
        rw [e]
        exact node_op base v1 ap cp p a c d ee hl w hV h1 h2 hb
      · by_cases hs2 : bb = Li.sSINK
        · subst hs2
          have e : Li.nodeP [a, Li.sSINK, c, d, ee] p = ⟨Co.atoiVal a, 2, Li.numsP c, p, Co.atoiVal d, Li.routeP ee⟩ := (if_neg (fun q => by simp at q)).trans (if_pos ⟨rfl, .inr rfl⟩)
          rw [e]
          exact node_sink base v1 ap cp p a c d ee hl w hV h1 h2 hb
        · have e : Li.nodeP [a, bb, c, d, ee] p = ⟨0, -1, [], [], 0, Gr.zeros⟩ := (if_neg (fun q => by simp at q)).trans (if_neg (fun q => q.2.elim hs hs2))
          rw [e]
          exact node_no5 base v1 ap cp p a bb c d ee hs hs2 hl w hV h1 h2 hb
  have e : Li.nodeP ws p = ⟨0, -1, [], [], 0, Gr.zeros⟩ := (if_neg (fun q => h4 q.1)).trans (if_neg (fun q => h5 q.1))
  rw [e]
  exact node_len base v1 ap cp p ws h4 h5 h0 hmax hl w hV h1
end Go.Proofs.YtmnllmbchpebbaaGreatDoor
