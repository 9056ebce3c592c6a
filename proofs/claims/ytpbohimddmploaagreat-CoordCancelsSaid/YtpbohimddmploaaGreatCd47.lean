import Derived.Test.YtpbohimddmploaaGreatCd44
import Derived.Test.YtpbohimddmploaaGreatCd31
import Derived.Test.YtpbohimddmploaaGreatCd32
set_option linter.unusedSimpArgs false
set_option linter.unusedVariables false
set_option maxRecDepth 100000
set_option maxHeartbeats 64000000
namespace Go.Proofs.YtpbohimddmploaaGreat
open Go.RowKit Ga

theorem bes_append (a b : List Int) : Oc.bes (a ++ b) = Oc.bes a ++ Oc.bes b := by simp [Oc.bes]
theorem bes_en (x : Tab.En) : Oc.bes [x.node, x.key, x.c0.1, x.c0.2, x.c1.1, x.c1.2] = Gr.putE x := by
  simp [Oc.bes, Gr.putE, Gr.putV]
theorem bes_ln (x : Gr.Ln) : Oc.bes [x.sink, x.frm, x.key, x.v.1, x.v.2] = Gr.putLn x := by
  simp [Oc.bes, Gr.putLn, Gr.putV]
theorem putE_len (x : Tab.En) : (Gr.putE x).length = 24 := by rw [← bes_en, Oc.bes_len]; rfl
theorem putLn_len (x : Gr.Ln) : (Gr.putLn x).length = 20 := by rw [← bes_ln, Oc.bes_len]; rfl
theorem flat_lenE {α : Type} (f : α → List UInt8) (k : Nat) (h : ∀ x, (f x).length = k) (l : List α) : (l.flatMap f).length = l.length * k := by
  induction l with
  | nil => simp
  | cons x l ih => rw [List.flatMap_cons, List.length_append, h, ih, List.length_cons, Nat.add_one_mul]; omega
theorem take_flatG {α β : Type} (f : α → List β) (l : List α) (k : Nat) (h : k < l.length) : (l.take (k + 1)).flatMap f = (l.take k).flatMap f ++ f l[k] := by
  rw [List.take_succ_eq_append_getElem h, List.flatMap_append]
  simp
theorem fits_okV {v : Val} (h : rightV v = true) : Oc.fitsN v.1 = true ∧ Oc.fitsN v.2 = true := by
  have := Gr.okV_of h
  unfold Gr.okV at this
  exact ⟨fits_of (by omega) (by omega), fits_of (by omega) (by omega)⟩
theorem ents_fit {m : Gr.Mf} (h : Gr.RightM fitsP m) : ∀ x ∈ m.ents, [x.node, x.key, x.c0.1, x.c0.2, x.c1.1, x.c1.2].all Oc.fitsN = true := by
  intro x hx
  obtain ⟨h1, h2, h3, h4, -⟩ := h.en x hx
  obtain ⟨f1, f2⟩ := fits_okV h3
  obtain ⟨f3, f4⟩ := fits_okV h4
  simp only [List.all_cons, List.all_nil, f1, f2, f3, f4, Bool.and_true]
  rw [fits_of (by omega) (by omega), fits_of (by omega) (by omega)]
  rfl
theorem lns_fit {m : Gr.Mf} (h : Gr.RightM fitsP m) : ∀ x ∈ m.out, [x.sink, x.frm, x.key, x.v.1, x.v.2].all Oc.fitsN = true := by
  intro x hx
  obtain ⟨h1, h2, h3, h4⟩ := h.ou x hx
  obtain ⟨f1, f2⟩ := fits_okV h4
  simp only [List.all_cons, List.all_nil, f1, f2, Bool.and_true]
  rw [fits_of (by omega) (by omega), fits_of (by omega) (by omega), fits_of (by omega) (by omega)]
  rfl
theorem ents_512 {m : Gr.Mf} (h : Gr.RightM fitsP m) : m.ents.length ≤ 512 := Gr.ents_len (fun x hx => ⟨(h.en x hx).1, (h.en x hx).2.1⟩) h.ei
theorem offs_len {m : Gr.Mf} (h : Gr.RightM fitsP m) (hr : ∀ n ∈ m.graph, n.route.length = 8) : 1 ≤ m.offs.length ∧ m.offs.length ≤ 3 := by
  obtain ⟨n, hn, e⟩ := h.of
  have hm : n ∈ m.graph := List.mem_of_mem_head? hn
  have hk := right_okB h.gr hr n hm
  have := hk.r
  omega
theorem graph_self {m : Gr.Mf} (h : Gr.RightM fitsP m) : Gr.normG m.graph = m.graph := Gr.norm_self (h.so.imp fun h => by omega) h.gr.ids h.gr.r7
theorem apart_old {w W : World} {B : Nat} {v : Value} {l : List Int} (h : IntsAt w v l) (hl : l ≠ []) (hB : w.heap.size ≤ B) : ∀ b off, (∃ n c, v = .slice (some ⟨b, off, none⟩) n c) → Safe w.heap.size b W ∧ b ≠ B := by
  rintro b off ⟨n, c, rfl⟩
  obtain ⟨a, cap, e, -, hx⟩ := h
  cases e
  obtain ⟨b', off', e, hc⟩ := hx hl
  cases e
  obtain ⟨x, hx0⟩ : ∃ x, l[0]? = some x := by
    cases l with
    | nil => exact absurd rfl hl
    | cons x l => exact ⟨x, rfl⟩
  have hlt := World.block_lt_of_cell? w _ (hc 0 x hx0 0 _ rfl)
  simp only at hlt
  exact ⟨.inl hlt, by omega⟩
def planBy (p : List Gr.Stp) : List UInt8 := Gr.planB putI p
theorem planBy_nil : planBy [] = [] := by unfold planBy Gr.planB; simp
theorem planBy_ne {p : List Gr.Stp} (h : p ≠ []) : planBy p = Gr.putPl putI p := by unfold planBy Gr.planB; rw [if_neg h]
theorem putM_eq (m : Gr.Mf) : Gr.putM putI m = Oc.bes [m.epoch, m.plans, (m.offs.length : Int)] ++ Oc.bes m.offs ++ (Oc.be m.graph.length ++ m.graph.flatMap (Gr.putNd putI)) ++ Oc.be m.ents.length ++ m.ents.flatMap Gr.putE ++ Oc.be m.out.length ++ m.out.flatMap Gr.putLn ++ (Oc.be (planBy m.plan).length ++ planBy m.plan) := by
  unfold Gr.putM Gr.putC Gr.putP
  show _ = _ ++ (Oc.be (Gr.planB putI m.plan).length ++ Gr.planB putI m.plan)
  simp [Oc.bes]
theorem packMan_ok (c : MfC) (m : Gr.Mf) (w : World) (h : MfIs w c m) (hs : Small m.graph) (hp : ∀ s ∈ m.plan, s.nd.frm.length ≤ 100 ∧ s.nd.prog.length ≤ 1000) (ho : m.out.length ≤ 3000) (hr : Gr.RightM fitsP m) : Calls Tryz.prog 38 #[.agg #[.int .i64 c.epoch, .int .i64 c.plans, .slice c.ao c.no c.co, .slice c.ag c.ng c.cg, .slice c.ae c.ne c.ce, .slice c.ax c.nx c.cx, .slice c.ap c.np c.cp]] w (Gives (.tuple #[str (Gr.putM putI m), .int .i64 0]) w) := by
  have h8 := nodes_route h.g
  have he512 := ents_512 hr
  obtain ⟨ho1, ho3⟩ := offs_len hr h8
  have hR := fun W (g : Grew w W) => manRight_any c m W (h.grew g) hs hp (by omega)
  rw [rightB_iff.2 hr] at hR
  have HR := Lib.hid hR
  have HEF := Lib.hid (ents_fit hr)
  have HLF := Lib.hid (lns_fit hr)
  have HOF : Hid (m.offs.all Oc.fitsN = true) := Lib.hid (by rw [List.all_eq_true]; intro x hx; have := hr.o4 x hx; exact fits_of (by omega) (by omega))
  have HEP := Lib.hid hr.ep
  have HPL := Lib.hid hr.pl
  have HGRR := Lib.hid hr.gr
  have HGS := Lib.hid (graph_self hr)
  have HPN := Lib.hid (show m.plan = [] ∨ Gr.OkPl fitsP m.plan from hr.pn.imp id fun q => q.1)
  have HEQ := Lib.hid (putM_eq m)
  have HS := Lib.hid hs
  have HPS := Lib.hid hp
  have e1 := h.epoch
  have e2 := h.plans
  have HO := Lib.hid h.o
  have HG := Lib.hid h.g
  have HE := Lib.hid h.e
  have HX := Lib.hid h.x
  have HP := Lib.hid h.p
  have hgl := hr.gr.len
  have HGL := Lib.hid (by have := putG_len hr.gr h8; exact this : (Gr.putG putI m.graph).length ≤ 3000)
  obtain ⟨ep, pl, ao, co, ag, cg, ae, ce, ax, cx, ap, cp, rfl⟩ := h.lit
  simp only at e1 e2 HO HG HE HX HP
  rw [e1] at HEP HEQ
  rw [e2] at HPL HEQ
  clear h hs hp hr hR h8 e1 e2
  show Calls Tryz.prog _ #[.agg #[.int .i64 ep, .int .i64 pl, .slice ao m.offs.length co, .slice ag m.graph.length cg, .slice ae m.ents.length ce, .slice ax m.out.length cx, .slice ap m.plan.length cp]] w _
  have HBX0 := Lib.hid (heap_new_at w (.cells #[.int .i64 ep, .int .i64 pl, .slice ao m.offs.length co, .slice ag m.graph.length cg, .slice ae m.ents.length ce, .slice ax m.out.length cx, .slice ap m.plan.length cp] 51) _ rfl)
  go_enter Tryz.func38, Tryz.ntmps38
  go_wp2_with fail
  refine (HR.out _ (by repeat (first | with_reducible exact Grew.refl _ | apply Grew.more | apply Grew.alloc | apply Grew.drew | apply Grew.drewN))).mono ?_
  rintro e w1 ⟨rfl, R1, n1, rfl⟩
  go_wp2_with fail
  have HW0 : Hid (WriterAt w.heap.size (w.heap.size + 1 + R1.size) (((w.alloc (.cells #[.int .i64 ep, .int .i64 pl, .slice ao m.offs.length co, .slice ag m.graph.length cg, .slice ae m.ents.length ce, .slice ax m.out.length cx, .slice ap m.plan.length cp] 51)).more R1 n1).alloc (.cells #[.slice none 0 0] 151)) (.slice none 0 0) []) := Lib.hid ⟨by omega, heap_new_at _ _ _ (by simp [go_sem]), OwnAt.nil _⟩
  have HBXP : Hid ((((w.alloc (.cells #[.int .i64 ep, .int .i64 pl, .slice ao m.offs.length co, .slice ag m.graph.length cg, .slice ae m.ents.length ce, .slice ax m.out.length cx, .slice ap m.plan.length cp] 51)).more R1 n1).alloc (.cells #[.slice none 0 0] 151)).heap[w.heap.size]? = some (.cells #[.int .i64 ep, .int .i64 pl, .slice ao m.offs.length co, .slice ag m.graph.length cg, .slice ae m.ents.length ce, .slice ax m.out.length cx, .slice ap m.plan.length cp] 51)) := Lib.hid (grew_heap (by repeat (first | with_reducible exact Grew.refl _ | apply Grew.more | apply Grew.alloc | apply Grew.drew | apply Grew.drewN)) HBX0.out)
  have hneB : w.heap.size ≠ (w.heap.size + 1 + R1.size) := by omega
  have hB1 : w.heap.size ≤ (w.heap.size + 1 + R1.size) := by omega
  refine (writerNum_freshK w (((w.alloc (.cells #[.int .i64 ep, .int .i64 pl, .slice ao m.offs.length co, .slice ag m.graph.length cg, .slice ae m.ents.length ce, .slice ax m.out.length cx, .slice ap m.plan.length cp] 51)).more R1 n1).alloc (.cells #[.slice none 0 0] 151)) (w.heap.size + 1 + R1.size) (.slice none 0 0) [] [ep, pl, (m.offs.length : Int)] [.int .i64 ep, .int .i64 pl, .int .i64 m.offs.length] _ _ _ HW0.out (by repeat (first | with_reducible exact Grew.refl _ | apply Grew.more | apply Grew.alloc | apply Grew.drew | apply Grew.drewN)) rfl ?_ rfl ?_ (by simp)).mono ?_
  · simp [go_sem]
  · have h1 := HEP.out
    have h2 := HPL.out
    simp only [List.all_cons, List.all_nil, Bool.and_true, Bool.and_eq_true]
    exact ⟨fits_of (by omega) (by omega), fits_of (by omega) (by omega), fits_of (by omega) (by omega)⟩
  rintro e W1 ⟨rfl, hg1, hk1, vb1, hw1⟩
  rw [List.nil_append] at hw1
  have HW1 := Lib.hid hw1
  have HG1 := Lib.hid hg1
  have HBX1 := Lib.hid (hk1.cells HBXP.out hneB (by decide))
  clear hw1 hg1 hk1 HBXP
  have x0 := cell_of (o := 0) HBX1.out
  have x1 := cell_of (o := 1) HBX1.out
  have x2 := cell_of (o := 2) HBX1.out
  have x3 := cell_of (o := 3) HBX1.out
  have x4 := cell_of (o := 4) HBX1.out
  have x5 := cell_of (o := 5) HBX1.out
  have x6 := cell_of (o := 6) HBX1.out
  simp at x0 x1 x2 x3 x4 x5 x6
  have px := Pre.mk (heap_lt HBX1.out)
  have hne : m.offs ≠ [] := fun e => by rw [e] at ho1; simp at ho1
  have HNE := Lib.hid hne
  clear hne
  go_wp2_with fail
  refine (writerNum_keep w W1 (w.heap.size + 1 + R1.size) vb1 _ _ m.offs HW1.out HG1.out (HO.out.grew HG1.out) (apart_old HO.out HNE.out hB1) HOF.out (by simp only [Oc.bes_len, List.length_cons, List.length_nil]; omega)).mono ?_
  have HBXP := HBX1
  rintro e W2 ⟨rfl, hg2, hk2, vb2, hw2⟩
  have HW2 := Lib.hid hw2
  have HG2 := Lib.hid hg2
  have HBX2 := Lib.hid (hk2.cells HBXP.out hneB (by decide))
  clear hw2 hg2 hk2 HBXP
  clear x0 x1 x2 x3 x4 x5 x6 px
  have x0 := cell_of (o := 0) HBX2.out
  have x1 := cell_of (o := 1) HBX2.out
  have x2 := cell_of (o := 2) HBX2.out
  have x3 := cell_of (o := 3) HBX2.out
  have x4 := cell_of (o := 4) HBX2.out
  have x5 := cell_of (o := 5) HBX2.out
  have x6 := cell_of (o := 6) HBX2.out
  simp at x0 x1 x2 x3 x4 x5 x6
  have px := Pre.mk (heap_lt HBX2.out)
  go_wp2_with fail
  refine (putGraph_any w W2 (w.heap.size + 1 + R1.size) vb2 _ _ m.graph HW2.out HG2.out HG.out HS.out HGRR.out (by simp only [List.length_append, Oc.bes_len, List.length_cons, List.length_nil]; omega)).mono ?_
  have HBXP := HBX2
  rintro e W3 ⟨rfl, hg3, hk3, vb3, hw3⟩
  have HW3 := Lib.hid hw3
  have HG3 := Lib.hid hg3
  have HBX3 := Lib.hid (hk3.cells HBXP.out hneB (by decide))
  clear hw3 hg3 hk3 HBXP
  clear x0 x1 x2 x3 x4 x5 x6 px
  have x0 := cell_of (o := 0) HBX3.out
  have x1 := cell_of (o := 1) HBX3.out
  have x2 := cell_of (o := 2) HBX3.out
  have x3 := cell_of (o := 3) HBX3.out
  have x4 := cell_of (o := 4) HBX3.out
  have x5 := cell_of (o := 5) HBX3.out
  have x6 := cell_of (o := 6) HBX3.out
  simp at x0 x1 x2 x3 x4 x5 x6
  have px := Pre.mk (heap_lt HBX3.out)
  go_wp2_with fail
  refine (writerNum_freshK w W3 (w.heap.size + 1 + R1.size) vb3 _ [(m.ents.length : Int)] [.int .i64 m.ents.length] _ _ _ HW3.out HG3.out rfl ?_ rfl ?_ (by have := HGL.out; simp only [List.length_append, Oc.bes_len, List.length_cons, List.length_nil]; omega)).mono ?_
  · simp [go_sem]
  · simp only [List.all_cons, List.all_nil, Bool.and_true]
    exact fits_of (by omega) (by omega)
  have HBXP := HBX3
  rintro e W4 ⟨rfl, hg4, hk4, vb4, hw4⟩
  rw [be_one] at hw4
  have HW4 := Lib.hid hw4
  have HG4 := Lib.hid hg4
  have HBX4 := Lib.hid (hk4.cells HBXP.out hneB (by decide))
  clear hw4 hg4 hk4 HBXP
  clear x0 x1 x2 x3 x4 x5 x6 px
  have x0 := cell_of (o := 0) HBX4.out
  have x1 := cell_of (o := 1) HBX4.out
  have x2 := cell_of (o := 2) HBX4.out
  have x3 := cell_of (o := 3) HBX4.out
  have x4 := cell_of (o := 4) HBX4.out
  have x5 := cell_of (o := 5) HBX4.out
  have x6 := cell_of (o := 6) HBX4.out
  simp at x0 x1 x2 x3 x4 x5 x6
  have px := Pre.mk (heap_lt HBX4.out)
  obtain ⟨Y4, hY4⟩ : ∃ Y, Oc.bes [ep, pl, (m.offs.length : Int)] ++ Oc.bes m.offs ++ Gr.putG putI m.graph ++ Oc.be m.ents.length = Y := ⟨_, rfl⟩
  have HY4 := Lib.hid hY4
  have hl4 : Y4.length ≤ 3028 := by rw [← hY4]; have := HGL.out; simp only [List.length_append, Oc.bes_len, Oc.be_len, List.length_cons, List.length_nil]; omega
  rw [hY4] at HW4
  clear hY4
  go_wp2
  go_loopg [36] m.ents.length (fun gg s36 wr => ∃ (k : Nat) (vk : Value), k ≤ m.ents.length ∧ m.ents.length - k ≤ gg ∧ s36 = .int .i64 k ∧ Hid (WriterAt w.heap.size (w.heap.size + 1 + R1.size) wr vk (Y4 ++ (m.ents.take k).flatMap Gr.putE)) ∧ Hid (Grew w wr) ∧ Hid (wr.heap[w.heap.size]? = some (.cells #[.int .i64 ep, .int .i64 pl, .slice ao m.offs.length co, .slice ag m.graph.length cg, .slice ae m.ents.length ce, .slice ax m.out.length cx, .slice ap m.plan.length cp] 51)))
  case atStart => exact ⟨0, vb4, by omega, by omega, rfl, Lib.hid (by have := HW4.out; simpa using this), HG4, HBX4⟩
  case round =>
    obtain ⟨k, vk, hk, hgg, rfl, HWK, HGK, HBXK⟩ := hrel
    clear x0 x1 x2 x3 x4 x5 x6 px
    by_cases hlt : k < m.ents.length
    · obtain ⟨a', cap', e, -, hx⟩ := EntsAt.open6 (HE.out.grew HGK.out)
      cases e
      obtain ⟨b, off, rfl, hb, c0, c1, c2, c3, c4, c5⟩ := hx k hlt
      have HTF := Lib.hid (take_flatG Gr.putE m.ents k hlt)
      have HFX := Lib.hid (HEF.out _ (List.getElem_mem hlt))
      have hfl := flat_lenE Gr.putE 24 putE_len (m.ents.take k)
      rw [List.length_take, Nat.min_eq_left hk] at hfl
      have HFL := Lib.hid hfl
      clear hx hfl
      generalize m.ents[k] = x at *
      obtain ⟨nd, ky, ⟨p0, q0⟩, ⟨p1, q1⟩⟩ := x
      simp only at c0 c1 c2 c3 c4 c5 HFX
      go_wp2_with fail
      refine (writerNum_freshK w (wr.alloc (.cells #[.int .i64 nd, .int .i64 ky, .int .i64 p0, .int .i64 q0, .int .i64 p1, .int .i64 q1] 120)) (w.heap.size + 1 + R1.size) vk _ [nd, ky, p0, q0, p1, q1] [.int .i64 nd, .int .i64 ky, .int .i64 p0, .int .i64 q0, .int .i64 p1, .int .i64 q1] _ _ _ (HWK.out.grew (by repeat (first | with_reducible exact Grew.refl _ | apply Grew.more | apply Grew.alloc | apply Grew.drew | apply Grew.drewN))) (HGK.out.trans (by repeat (first | with_reducible exact Grew.refl _ | apply Grew.more | apply Grew.alloc | apply Grew.drew | apply Grew.drewN))) rfl ?_ rfl HFX.out (by have := HFL.out; simp only [List.length_append, List.length_cons, List.length_nil]; omega)).mono ?_
      · simp [go_sem]
      rintro e W5 ⟨rfl, hg5, hk5, vb5, hw5⟩
      have HW5 := Lib.hid hw5
      have HG5 := Lib.hid hg5
      have HBX5 := Lib.hid (hk5.cells (grew_heap (by repeat (first | with_reducible exact Grew.refl _ | apply Grew.more | apply Grew.alloc | apply Grew.drew | apply Grew.drewN)) HBXK.out) hneB (by decide))
      clear hw5 hg5 hk5
      go_wp2
      go_roundg (m.ents.length - (k + 1))
      case measure => omega
      case rel => exact ⟨k + 1, vb5, by omega, by omega, by go_num, Lib.hid (by rw [HTF.out, ← List.append_assoc, ← bes_en]; exact HW5.out), HG5, HBX5⟩
    · obtain rfl : k = m.ents.length := by omega
      rw [List.take_length] at HWK
      have hl5 := flat_lenE Gr.putE 24 putE_len m.ents
      have HL5 := Lib.hid hl5
      clear hl5
      have x0 := cell_of (o := 0) HBXK.out
      have x1 := cell_of (o := 1) HBXK.out
      have x2 := cell_of (o := 2) HBXK.out
      have x3 := cell_of (o := 3) HBXK.out
      have x4 := cell_of (o := 4) HBXK.out
      have x5 := cell_of (o := 5) HBXK.out
      have x6 := cell_of (o := 6) HBXK.out
      simp at x0 x1 x2 x3 x4 x5 x6
      have px := Pre.mk (heap_lt HBXK.out)
      go_wp2_with fail
      refine (writerNum_freshK w wr (w.heap.size + 1 + R1.size) vk _ [(m.out.length : Int)] [.int .i64 m.out.length] _ _ _ HWK.out HGK.out rfl ?_ rfl ?_ (by have := HL5.out; simp only [List.length_append, List.length_cons, List.length_nil]; omega)).mono ?_
      · simp [go_sem]
      · simp only [List.all_cons, List.all_nil, Bool.and_true]
        exact fits_of (by omega) (by omega)
      rintro e W6 ⟨rfl, hg6, hk6, vb6, hw6⟩
      rw [be_one] at hw6
      have HW6 := Lib.hid hw6
      have HG6 := Lib.hid hg6
      have HBX6 := Lib.hid (hk6.cells HBXK.out hneB (by decide))
      obtain ⟨Y6, hY6⟩ : ∃ Y, Y4 ++ m.ents.flatMap Gr.putE ++ Oc.be m.out.length = Y := ⟨_, rfl⟩
      have HY6 := Lib.hid hY6
      have hl6 : Y6.length ≤ 15400 := by rw [← hY6]; have := HL5.out; simp only [List.length_append, Oc.be_len]; omega
      rw [hY6] at HW6
      clear hw6 hg6 hk6 hY6 x0 x1 x2 x3 x4 x5 x6 px
      have x0 := cell_of (o := 0) HBX6.out
      have x1 := cell_of (o := 1) HBX6.out
      have x2 := cell_of (o := 2) HBX6.out
      have x3 := cell_of (o := 3) HBX6.out
      have x4 := cell_of (o := 4) HBX6.out
      have x5 := cell_of (o := 5) HBX6.out
      have x6 := cell_of (o := 6) HBX6.out
      simp at x0 x1 x2 x3 x4 x5 x6
      have px := Pre.mk (heap_lt HBX6.out)
      go_wp2
      go_loopg [71] m.out.length (fun gg s71 wq => ∃ (k : Nat) (vk : Value), k ≤ m.out.length ∧ m.out.length - k ≤ gg ∧ s71 = .int .i64 k ∧ Hid (WriterAt w.heap.size (w.heap.size + 1 + R1.size) wq vk (Y6 ++ (m.out.take k).flatMap Gr.putLn)) ∧ Hid (Grew w wq) ∧ Hid (wq.heap[w.heap.size]? = some (.cells #[.int .i64 ep, .int .i64 pl, .slice ao m.offs.length co, .slice ag m.graph.length cg, .slice ae m.ents.length ce, .slice ax m.out.length cx, .slice ap m.plan.length cp] 51)))
      case atStart => exact ⟨0, vb6, by omega, by omega, rfl, Lib.hid (by have := HW6.out; simpa using this), HG6, HBX6⟩
      case round =>
        obtain ⟨k, vk, hk, hgg, rfl, HWK, HGK, HBXK⟩ := hrel
        clear x0 x1 x2 x3 x4 x5 x6 px
        by_cases hlt : k < m.out.length
        · obtain ⟨a', cap', e, -, hx⟩ := LnsAt.open5 (HX.out.grew HGK.out)
          cases e
          obtain ⟨b, off, rfl, hb, c0, c1, c2, c3, c4⟩ := hx k hlt
          have HTF := Lib.hid (take_flatG Gr.putLn m.out k hlt)
          have HFX := Lib.hid (HLF.out _ (List.getElem_mem hlt))
          have hfl := flat_lenE Gr.putLn 20 putLn_len (m.out.take k)
          rw [List.length_take, Nat.min_eq_left hk] at hfl
          have HFL := Lib.hid hfl
          clear hx hfl
          generalize m.out[k] = x at *
          obtain ⟨si, fr, ky, ⟨p0, q0⟩⟩ := x
          simp only at c0 c1 c2 c3 c4 HFX
          go_wp2_with fail
          refine (writerNum_freshK w (wr.alloc (.cells #[.int .i64 si, .int .i64 fr, .int .i64 ky, .int .i64 p0, .int .i64 q0] 127)) (w.heap.size + 1 + R1.size) vk _ [si, fr, ky, p0, q0] [.int .i64 si, .int .i64 fr, .int .i64 ky, .int .i64 p0, .int .i64 q0] _ _ _ (HWK.out.grew (by repeat (first | with_reducible exact Grew.refl _ | apply Grew.more | apply Grew.alloc | apply Grew.drew | apply Grew.drewN))) (HGK.out.trans (by repeat (first | with_reducible exact Grew.refl _ | apply Grew.more | apply Grew.alloc | apply Grew.drew | apply Grew.drewN))) rfl ?_ rfl HFX.out (by have := HFL.out; simp only [List.length_append, List.length_cons, List.length_nil]; omega)).mono ?_
          · simp [go_sem]
          rintro e W7 ⟨rfl, hg7, hk7, vb7, hw7⟩
          have HW7 := Lib.hid hw7
          have HG7 := Lib.hid hg7
          have HBX7 := Lib.hid (hk7.cells (grew_heap (by repeat (first | with_reducible exact Grew.refl _ | apply Grew.more | apply Grew.alloc | apply Grew.drew | apply Grew.drewN)) HBXK.out) hneB (by decide))
          clear hw7 hg7 hk7
          go_wp2
          go_roundg (m.out.length - (k + 1))
          case measure => omega
          case rel => exact ⟨k + 1, vb7, by omega, by omega, by go_num, Lib.hid (by rw [HTF.out, ← List.append_assoc, ← bes_ln]; exact HW7.out), HG7, HBX7⟩
        · obtain rfl : k = m.out.length := by omega
          rw [List.take_length] at HWK
          have hl7 := flat_lenE Gr.putLn 20 putLn_len m.out
          have hl8 : (Y6 ++ m.out.flatMap Gr.putLn).length ≤ 75400 := by rw [List.length_append]; omega
          clear hl7
          have HFIN : Hid (∀ t, t = planBy m.plan → Y6 ++ m.out.flatMap Gr.putLn ++ (Oc.be t.length ++ t) = Gr.putM putI m) := Lib.hid fun t ht => by
            subst ht
            rw [HEQ.out, ← HY6.out, ← HY4.out]
            unfold Gr.putG
            rw [HGS.out]
          generalize Y6 ++ m.out.flatMap Gr.putLn = Y8 at *
          have x0 := cell_of (o := 0) HBXK.out
          have x1 := cell_of (o := 1) HBXK.out
          have x2 := cell_of (o := 2) HBXK.out
          have x3 := cell_of (o := 3) HBXK.out
          have x4 := cell_of (o := 4) HBXK.out
          have x5 := cell_of (o := 5) HBXK.out
          have x6 := cell_of (o := 6) HBXK.out
          simp at x0 x1 x2 x3 x4 x5 x6
          have px := Pre.mk (heap_lt HBXK.out)
          by_cases hp0 : m.plan = []
          · have hz : ¬ (0 : Int) < (m.plan.length : Int) := by rw [hp0]; simp
            have HT0 := Lib.hid (HFIN.out [] (by rw [hp0, planBy_nil]))
            clear hp0
            go_wp2_with (first
              | (go_at_call 96; refine (octText_any w _ (w.heap.size + 1 + R1.size) vk Y8 [] HWK.out HGK.out (by simp; omega)).mono ?_; rintro e W9 ⟨rfl, hg9, hk9, vb9, hw9⟩; (have HW9 := Lib.hid hw9); (have HG9 := Lib.hid hg9); clear hw9 hg9 hk9)
              | (go_at_call 97; refine (octOut_any _ _ _ _ _ HW9.out (by rw [List.length_append]; simp [Oc.be_len]; omega)).mono ?_; rintro e W10 ⟨rfl, R10, n10, rfl⟩; rw [HT0.out]))
            exact bodyPost_ret (v := .tuple #[.string ⟨(Gr.putM putI m).toArray⟩, .int .i64 0]) (by simp [results, Tryz.results38, go_sem]) rfl ⟨rfl, HG9.out.trans (by repeat (first | with_reducible exact Grew.refl _ | apply Grew.more | apply Grew.alloc | apply Grew.drew | apply Grew.drewN))⟩
          · have hz : (0 : Int) < (m.plan.length : Int) := by
              have : m.plan.length ≠ 0 := fun e => hp0 (List.eq_nil_of_length_eq_zero e)
              omega
            have hok := HPN.out.resolve_left hp0
            have HT0 := Lib.hid (HFIN.out (Gr.putPl putI m.plan) (by rw [planBy_ne hp0]))
            have HPP := Lib.hid fun W (g : Grew w W) => putPlan_any _ m.plan W (HP.out.grew g) HPS.out hok.2.1
            have HOK := Lib.hid hok
            clear hp0 hok
            go_wp2_with fail
            refine (HPP.out _ HGK.out).mono ?_
            rintro e W9 ⟨t, rfl, ht1, ht2, R9, n9, rfl⟩
            obtain rfl := ht2 HOK.out
            generalize Gr.putPl putI m.plan = t at *
            clear ht2
            go_wp2_with (first
              | (go_at_call 96; refine (octText_any w _ (w.heap.size + 1 + R1.size) vk Y8 t (HWK.out.grew (by repeat (first | with_reducible exact Grew.refl _ | apply Grew.more | apply Grew.alloc | apply Grew.drew | apply Grew.drewN))) (HGK.out.trans (by repeat (first | with_reducible exact Grew.refl _ | apply Grew.more | apply Grew.alloc | apply Grew.drew | apply Grew.drewN))) (by omega)).mono ?_; rintro e W9 ⟨rfl, hg9, hk9, vb9, hw9⟩; (have HW9 := Lib.hid hw9); (have HG9 := Lib.hid hg9); clear hw9 hg9 hk9)
              | (go_at_call 97; refine (octOut_any _ _ _ _ _ HW9.out (by simp only [List.length_append, Oc.be_len]; omega)).mono ?_; rintro e W10 ⟨rfl, R10, n10, rfl⟩; rw [HT0.out]))
            exact bodyPost_ret (v := .tuple #[.string ⟨(Gr.putM putI m).toArray⟩, .int .i64 0]) (by simp [results, Tryz.results38, go_sem]) rfl ⟨rfl, HG9.out.trans (by repeat (first | with_reducible exact Grew.refl _ | apply Grew.more | apply Grew.alloc | apply Grew.drew | apply Grew.drewN))⟩

end Go.Proofs.YtpbohimddmploaaGreat
