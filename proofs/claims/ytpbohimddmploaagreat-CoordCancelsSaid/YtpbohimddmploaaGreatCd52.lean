import Derived.Test.YtpbohimddmploaaGreatCd50
set_option linter.unusedSimpArgs false
set_option linter.unusedVariables false
set_option maxRecDepth 100000
set_option maxHeartbeats 64000000
namespace Go.Proofs.YtpbohimddmploaaGreat
open Go.RowKit Ga

section
variable {w0 W : World} {z bk lg : Nat} {ms : List Gr.Mf} {m : Gr.Mf} {ps : List (List Gr.Stp)} {uv : Value} {pl : Bool} {last ref : Int}
theorem coQueue_any (h : CoAt w0 W z bk lg ms m ps uv pl last ref) : Calls Tryz.prog 15 #[.pointer (some ⟨z, 0, none⟩)] W (Gives (.int .i64 ps.length) W) := by
  obtain ⟨hv, qv, h1, h2, h3⟩ := h.blk
  have c3 := cell_of (o := 3) h1
  simp at c3
  obtain ⟨aq, cq, rfl, hn, -⟩ := h3.at
  clear h h1 h2 h3
  go_enter Tryz.func15, Tryz.ntmps15
  go_wp2
  go_ret
  refine ⟨rfl, ?_⟩
  repeat (first | with_reducible exact Grew.refl _ | apply Grew.more | apply Grew.alloc | apply Grew.drew | apply Grew.drewN)
theorem coRefused_any (h : CoAt w0 W z bk lg ms m ps uv pl last ref) : Calls Tryz.prog 17 #[.pointer (some ⟨z, 0, none⟩)] W (Gives (.int .i64 ref) W) := by
  obtain ⟨hv, qv, h1, h2, h3⟩ := h.blk
  have c7 := cell_of (o := 7) h1
  simp at c7
  clear h h1 h2 h3
  go_enter Tryz.func17, Tryz.ntmps17
  go_wp2
  go_ret
  refine ⟨rfl, ?_⟩
  repeat (first | with_reducible exact Grew.refl _ | apply Grew.more | apply Grew.alloc | apply Grew.drew | apply Grew.drewN)
theorem coCancel_nil (i : Int) (w : World) : Calls Tryz.prog 14 #[.pointer none, .int .i64 i] w (Gives (.int .i64 1) w) := by
  go_enter Tryz.func14, Tryz.ntmps14
  go_wp2
  go_ret
  refine ⟨rfl, ?_⟩
  repeat (first | with_reducible exact Grew.refl _ | apply Grew.more | apply Grew.alloc | apply Grew.drew | apply Grew.drewN)
theorem coCancel_none (i : Int) (h : CoAt w0 W z bk lg ms m ps uv pl last ref) (hi : i < 0 ∨ (ps.length : Int) ≤ i) : Calls Tryz.prog 14 #[.pointer (some ⟨z, 0, none⟩), .int .i64 i] W (Gives (.int .i64 12) W) := by
  obtain ⟨hv, qv, h1, h2, h3⟩ := h.blk
  have c3 := cell_of (o := 3) h1
  simp at c3
  obtain ⟨aq, cq, rfl, hn, -⟩ := h3.at
  clear h h1 h2 h3
  by_cases h0 : i < 0
  · go_enter Tryz.func14, Tryz.ntmps14
    go_wp2
    go_ret
    refine ⟨rfl, ?_⟩
    repeat (first | with_reducible exact Grew.refl _ | apply Grew.more | apply Grew.alloc | apply Grew.drew | apply Grew.drewN)
  · have h5 : (ps.length : Int) ≤ i := by omega
    clear hi
    go_enter Tryz.func14, Tryz.ntmps14
    go_wp2
    go_ret
    refine ⟨rfl, ?_⟩
    repeat (first | with_reducible exact Grew.refl _ | apply Grew.more | apply Grew.alloc | apply Grew.drew | apply Grew.drewN)
theorem coCancel_busy (h : CoAt w0 W z bk lg ms m ps uv true last ref) (hi : 0 < ps.length) : Calls Tryz.prog 14 #[.pointer (some ⟨z, 0, none⟩), .int .i64 0] W (Gives (.int .i64 14) W) := by
  obtain ⟨hv, qv, h1, h2, h3⟩ := h.blk
  have c3 := cell_of (o := 3) h1
  have c5 := cell_of (o := 5) h1
  simp at c3 c5
  obtain ⟨aq, cq, rfl, hn, -⟩ := h3.at
  have h5 : ¬ (ps.length : Int) ≤ 0 := by omega
  have h8 : ¬ ps = [] := by intro e; rw [e] at hi; simp at hi
  have h9 : ¬ ps.length = 0 := by omega
  clear h h1 h2 h3
  go_enter Tryz.func14, Tryz.ntmps14
  go_wp2
  go_ret
  refine ⟨rfl, ?_⟩
  repeat (first | with_reducible exact Grew.refl _ | apply Grew.more | apply Grew.alloc | apply Grew.drew | apply Grew.drewN)
theorem coCancel_any (i : Nat) (h : CoAt w0 W z bk lg ms m ps uv pl last ref) (hi : i < ps.length) (hp : i = 0 → pl = false) (hr : 0 ≤ ref ∧ ref ≤ 1000000) : Calls Tryz.prog 14 #[.pointer (some ⟨z, 0, none⟩), .int .i64 i] W fun e W' => e = .returned (.int .i64 0) ∧ CoAt w0 W' z bk lg ms m (Gr.backQ checkR m.graph ps i) uv pl last (ref + ((ps.length : Int) - 1 - (Gr.backQ checkR m.graph ps i).length)) ∧ Keep z W W' := by
  have HW := Lib.hid (coWithout_any i h hi hr)
  obtain ⟨hv, qv, h1, h2, h3⟩ := h.blk
  have c3 := cell_of (o := 3) h1
  have c5 := cell_of (o := 5) h1
  simp at c3 c5
  obtain ⟨aq, cq, rfl, hn, -⟩ := h3.at
  have h5 : ¬ (ps.length : Int) ≤ i := by omega
  have h6 : ¬ (i : Int) < 0 := by omega
  clear h h1 h2 h3
  by_cases h0 : i = 0
  · subst h0
    obtain rfl := hp rfl
    have h8 : ¬ ps = [] := by intro e; rw [e] at hi; simp at hi
    have h9 : ¬ ps.length = 0 := by omega
    clear hp
    go_enter Tryz.func14, Tryz.ntmps14
    go_wp2_with (go_at_call 50; refine HW.out.mono ?_; rintro e w1 ⟨rfl, hc, hl⟩; (have HC := Lib.hid hc); (have HL := Lib.hid hl); clear hc hl)
    go_ret
    exact ⟨rfl, HC.out, HL.out⟩
  · have h7 : ((i : Int) == 0) = false := by rw [beq_eq_false_iff_ne]; omega
    clear hp
    go_enter Tryz.func14, Tryz.ntmps14
    go_wp2_with (go_at_call 50; refine HW.out.mono ?_; rintro e w1 ⟨rfl, hc, hl⟩; (have HC := Lib.hid hc); (have HL := Lib.hid hl); clear hc hl)
    go_ret
    exact ⟨rfl, HC.out, HL.out⟩
end
end Go.Proofs.YtpbohimddmploaaGreat
