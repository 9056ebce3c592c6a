import Derived.Test.YthlmmfljeblflaaGreatDoorMc27
/-! graph.node. -/
namespace Go.Proofs.YthlmmfljeblflaaGreatDoor
set_option linter.unusedSimpArgs false
set_option linter.unusedVariables false
open Go.RowKit Ga
set_option maxRecDepth 100000

def aboveB (l : List Gr.Nd) (x : Int) : Bool := match Gr.nodeOf l x with
  | some m => m.kind == 2
  | none => true
theorem enters96 : ∀ args w, (callFunc 96 args).run Tryz.prog w = .ok (.enter 96 args) w := enters_of Tryz.func96 (by kernel_rfl) rfl
set_option maxHeartbeats 4000000 in
theorem node1_pred (v : Value) (l : List Gr.Nd) (B : Nat) (w : World) (hv : NodesAt w v l) (hs : Small l) (hB : Pre B w) (hc : w.cell? ⟨B, 0, none⟩ = some v) : PredI 96 #[.pointer (some ⟨B, 0, none⟩)] (aboveB l) w := by
  intro W x g
  obtain ⟨R, N, rfl⟩ := g
  have HF := Lib.hid fun W (g : Grew w W) => find_any v l x W (hv.grew g) hs
  obtain ⟨a, cap, rfl, hm, -⟩ := hv.openC
  clear hv hs
  show Calls Tryz.prog 96 #[.int .i64 x, .pointer (some ⟨B, 0, none⟩)] _ (Gives (.bool (aboveB l x)) _)
  cases hn : Gr.nodeOf l x with
  | none =>
    have hb : aboveB l x = true := by unfold aboveB; rw [hn]
    rw [hb]
    rw [hn] at HF
    clear hn hb
    go_enter Tryz.func96, Tryz.ntmps96
    go_wp2_with (go_at_call 32; refine (HF.out _ (by repeat (first | with_reducible exact Grew.refl _ | apply Grew.more | apply Grew.alloc | apply Grew.drew | apply Grew.drewN))).mono ?_; rintro e w1 ⟨rfl, R3, n3, rfl⟩)
    go_ret
    refine ⟨rfl, ?_⟩
    repeat (first | with_reducible exact Grew.refl _ | apply Grew.more | apply Grew.alloc | apply Grew.drew | apply Grew.drewN)
  | some m =>
    have hb : aboveB l x = (m.kind == 2) := by unfold aboveB; rw [hn]
    rw [hb]
    rw [hn] at HF
    clear hn hb
    go_enter Tryz.func96, Tryz.ntmps96
    go_wp2_with (go_at_call 32; refine (HF.out _ (by repeat (first | with_reducible exact Grew.refl _ | apply Grew.more | apply Grew.alloc | apply Grew.drew | apply Grew.drewN))).mono ?_; rintro e w1 ⟨c9, rfl, hn9, -, R3, n3, rfl⟩; obtain ⟨cid9, kind9, af9, cf9, ap9, cp9, par9, s0, s1, s2, s3, s4, s5, s6, s7, rfl⟩ := hn9.lit; (have HN9 := Lib.hid hn9); clear hn9)
    go_ret
    refine ⟨by rw [HN9.out.kind]; rfl, ?_⟩
    repeat (first | with_reducible exact Grew.refl _ | apply Grew.more | apply Grew.alloc | apply Grew.drew | apply Grew.drewN)

def nodeB (l : List Gr.Nd) (n : Gr.Nd) : Bool := decide (0 ≤ n.id) && (decide (n.id < 8) && (kindB n && (routeB n && !n.frm.any (aboveB l))))
set_option maxHeartbeats 8000000 in
theorem node_any (c : NdC) (n : Gr.Nd) (v : Value) (l : List Gr.Nd) (w : World) (hn : NodeIs w c n) (hv : NodesAt w v l) (hs : Small l) (hf : n.frm.length ≤ 1000) : Calls Tryz.prog 59 #[.agg #[.int .i64 c.id, .int .i64 c.kind, .slice c.af c.nf c.cf, .slice c.ap c.np c.cp, .int .i64 c.par, .int .i64 c.r0, .int .i64 c.r1, .int .i64 c.r2, .int .i64 c.r3, .int .i64 c.r4, .int .i64 c.r5, .int .i64 c.r6, .int .i64 c.r7], v] w (Gives (.bool (nodeB l n)) w) := by
  have HK := Lib.hid fun W (g : Grew w W) => kind_any c n W (hn.grew g) hf
  have HR := Lib.hid fun W (g : Grew w W) => route_any c n W (hn.grew g)
  have HC := Lib.hid fun W (g : Grew w W) (B : Nat) (hc : W.cell? ⟨B, 0, none⟩ = some v) => containsFn_any c.vf n.frm 96 #[.pointer (some ⟨B, 0, none⟩)] (aboveB l) W (hn.f.grew g) enters96 (node1_pred v l B W (hv.grew g) hs (Pre.ofCell hc) hc)
  obtain ⟨id, kind, af, cf, ap, cp, par, r0, r1, r2, r3, r4, r5, r6, r7, rfl⟩ := hn.lit
  obtain ⟨a, cap, rfl, hm, -⟩ := hv.openC
  have hid := hn.id
  have hb : nodeB l n = (decide (0 ≤ id) && (decide (id < 8) && (kindB n && (routeB n && !n.frm.any (aboveB l))))) := by unfold nodeB; rw [hid]
  rw [hb]
  clear hb hid hn hv hs
  simp only at HK HR HC
  show Calls Tryz.prog 59 #[.agg #[.int .i64 id, .int .i64 kind, .slice af n.frm.length cf, .slice ap n.prog.length cp, .int .i64 par, .int .i64 r0, .int .i64 r1, .int .i64 r2, .int .i64 r3, .int .i64 r4, .int .i64 r5, .int .i64 r6, .int .i64 r7], .slice a l.length cap] w _
  generalize kindB n = kb at *
  generalize routeB n = rb at *
  generalize n.frm.any (aboveB l) = ab at *
  by_cases h0 : 0 ≤ id
  · rw [decide_eq_true h0, Bool.true_and]
    by_cases h8 : id < 8
    · rw [decide_eq_true h8, Bool.true_and]
      cases kb with
      | true =>
        rw [Bool.true_and]
        cases rb with
        | true =>
          rw [Bool.true_and]
          go_enter Tryz.func59, Tryz.ntmps59
          go_wp2_with (first
        | (go_at_call 97; refine (HK.out _ (by repeat (first | with_reducible exact Grew.refl _ | apply Grew.more | apply Grew.alloc | apply Grew.drew | apply Grew.drewN))).mono ?_; rintro e w1 ⟨rfl, R3, n3, rfl⟩)
        | (go_at_call 98; refine (HR.out _ (by repeat (first | with_reducible exact Grew.refl _ | apply Grew.more | apply Grew.alloc | apply Grew.drew | apply Grew.drewN))).mono ?_; rintro e w1 ⟨rfl, R4, n4, rfl⟩)
        | (go_at_call 99; refine (HC.out _ (by repeat (first | with_reducible exact Grew.refl _ | apply Grew.more | apply Grew.alloc | apply Grew.drew | apply Grew.drewN)) (w.heap.size + 1) (by simp [go_sem])).mono ?_; rintro e w1 ⟨rfl, R5, n5, rfl⟩))
          go_ret
          refine ⟨rfl, ?_⟩
          repeat (first | with_reducible exact Grew.refl _ | apply Grew.more | apply Grew.alloc | apply Grew.drew | apply Grew.drewN)
        | false =>
          rw [Bool.false_and]
          go_enter Tryz.func59, Tryz.ntmps59
          go_wp2_with (first
        | (go_at_call 97; refine (HK.out _ (by repeat (first | with_reducible exact Grew.refl _ | apply Grew.more | apply Grew.alloc | apply Grew.drew | apply Grew.drewN))).mono ?_; rintro e w1 ⟨rfl, R3, n3, rfl⟩)
        | (go_at_call 98; refine (HR.out _ (by repeat (first | with_reducible exact Grew.refl _ | apply Grew.more | apply Grew.alloc | apply Grew.drew | apply Grew.drewN))).mono ?_; rintro e w1 ⟨rfl, R4, n4, rfl⟩)
        | (go_at_call 99; refine (HC.out _ (by repeat (first | with_reducible exact Grew.refl _ | apply Grew.more | apply Grew.alloc | apply Grew.drew | apply Grew.drewN)) (w.heap.size + 1) (by simp [go_sem])).mono ?_; rintro e w1 ⟨rfl, R5, n5, rfl⟩))
          go_ret
          refine ⟨rfl, ?_⟩
          repeat (first | with_reducible exact Grew.refl _ | apply Grew.more | apply Grew.alloc | apply Grew.drew | apply Grew.drewN)
      | false =>
        rw [Bool.false_and]
        go_enter Tryz.func59, Tryz.ntmps59
        go_wp2_with (first
        | (go_at_call 97; refine (HK.out _ (by repeat (first | with_reducible exact Grew.refl _ | apply Grew.more | apply Grew.alloc | apply Grew.drew | apply Grew.drewN))).mono ?_; rintro e w1 ⟨rfl, R3, n3, rfl⟩)
        | (go_at_call 98; refine (HR.out _ (by repeat (first | with_reducible exact Grew.refl _ | apply Grew.more | apply Grew.alloc | apply Grew.drew | apply Grew.drewN))).mono ?_; rintro e w1 ⟨rfl, R4, n4, rfl⟩)
        | (go_at_call 99; refine (HC.out _ (by repeat (first | with_reducible exact Grew.refl _ | apply Grew.more | apply Grew.alloc | apply Grew.drew | apply Grew.drewN)) (w.heap.size + 1) (by simp [go_sem])).mono ?_; rintro e w1 ⟨rfl, R5, n5, rfl⟩))
        go_ret
        refine ⟨rfl, ?_⟩
        repeat (first | with_reducible exact Grew.refl _ | apply Grew.more | apply Grew.alloc | apply Grew.drew | apply Grew.drewN)
    · rw [decide_eq_false h8, Bool.false_and]
      go_enter Tryz.func59, Tryz.ntmps59
      go_wp2
      go_ret
      refine ⟨rfl, ?_⟩
      repeat (first | with_reducible exact Grew.refl _ | apply Grew.more | apply Grew.alloc | apply Grew.drew | apply Grew.drewN)
  · rw [decide_eq_false h0, Bool.false_and]
    go_enter Tryz.func59, Tryz.ntmps59
    go_wp2
    go_ret
    refine ⟨rfl, ?_⟩
    repeat (first | with_reducible exact Grew.refl _ | apply Grew.more | apply Grew.alloc | apply Grew.drew | apply Grew.drewN)
end Go.Proofs.YthlmmfljeblflaaGreatDoor
