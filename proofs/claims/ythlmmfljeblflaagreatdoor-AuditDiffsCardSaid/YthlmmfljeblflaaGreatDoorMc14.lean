import Derived.Test.YthlmmfljeblflaaGreatDoorMc9
/-! forebaylaw08.Great. -/
namespace Go.Proofs.YthlmmfljeblflaaGreatDoor
set_option linter.unusedSimpArgs false
set_option linter.unusedVariables false
open Go.RowKit Ga
set_option maxRecDepth 100000

/-- more than is played -/
def greatN (n : Gr.Nd) : Bool := decide (60 < n.prog.length) || decide (20 < n.frm.length)
def greatG (l : List Gr.Nd) : Bool := decide (20 < l.length) || l.any greatN

set_option maxHeartbeats 4000000 in
theorem great08_any (v : Value) (l : List Gr.Nd) (w : World) (hv : NodesAt w v l) : Calls Tryz.prog 35 #[v] w (Gives (.bool (greatG l)) w) := by
  obtain ⟨a, cap, rfl, hm, -⟩ := hv.open13
  have HV := Lib.hid hv
  clear hv
  by_cases h20 : 20 < l.length
  · have hg : greatG l = true := by unfold greatG; rw [decide_eq_true h20]; rfl
    have HG := Lib.hid hg
    clear hg
    have h20' : (20 : Int) < (l.length : Int) := by omega
    go_enter Tryz.func35, Tryz.ntmps35
    go_wp2
    go_ret
    refine ⟨by rw [HG.out]; rfl, ?_⟩
    repeat (first | with_reducible exact Grew.refl _ | apply Grew.more | apply Grew.alloc | apply Grew.drew | apply Grew.drewN)
  · have hg0 : greatG l = l.any greatN := by unfold greatG; rw [decide_eq_false h20]; rfl
    have HG0 := Lib.hid hg0
    clear hg0
    go_enter Tryz.func35, Tryz.ntmps35
    go_wp2
    go_loopw [10] (fun i wr => ∃ k : Nat, k ≤ l.length ∧ i = .int .i64 k ∧ Grew w wr ∧ ∀ j (hj : j < l.length), j < k → greatN l[j] = false) (fun i _ => l.length - (intOf i).toNat)
    case atStart => exact ⟨0, Nat.zero_le _, rfl, by repeat (first | with_reducible exact Grew.refl _ | apply Grew.more | apply Grew.alloc | apply Grew.drew | apply Grew.drewN), fun j _ h => by omega⟩
    case round =>
      obtain ⟨k, hk, rfl, hgw, hno⟩ := hrel
      have HNO := Lib.hid hno
      have HGW := Lib.hid hgw
      by_cases hlt : k < l.length
      · obtain ⟨a', cap', e', -, hx⟩ := (HV.out.grew hgw).open13
        cases e'
        obtain ⟨b, off, vf, vp, rfl, hb, hvf, hvp, c0, c1, c2, c3, c4, c5, c6, c7, c8, c9, c10, c11, c12⟩ := hx k hlt
        obtain ⟨af, capf, rfl, hmf, -⟩ := ints_open hvf
        obtain ⟨ap, capp, rfl, hmp, -⟩ := hvp.open2
        clear hx hvf hvp hgw hno
        cases hq : greatN l[k]
        · have HQ := Lib.hid hq
          unfold greatN at hq
          simp only [Bool.or_eq_false_iff, decide_eq_false_iff_not] at hq
          obtain ⟨q1, q2⟩ := hq
          generalize hgx : l[k] = x at *
          have HGX := Lib.hid hgx
          clear hgx
          go_wp2
          go_roundw
          case rel => exact ⟨k + 1, by omega, by go_num, HGW.out.trans (by repeat (first | with_reducible exact Grew.refl _ | apply Grew.more | apply Grew.alloc | apply Grew.drew | apply Grew.drewN)), fun j hj h => by
            rcases Nat.lt_or_ge j k with h1 | h1
            · exact HNO.out j hj h1
            · obtain rfl : j = k := by omega
              rw [HGX.out]
              exact HQ.out⟩
          case measure => first | (simp [intOf]; done) | (simp [intOf]; omega)
        · have hg : greatG l = true := by
            rw [HG0.out, List.any_eq_true]
            exact ⟨l[k], List.getElem_mem hlt, hq⟩
          have HG := Lib.hid hg
          unfold greatN at hq
          simp only [Bool.or_eq_true, decide_eq_true_eq] at hq
          generalize l[k] = x at *
          clear hg
          by_cases q1 : 60 < x.prog.length
          · clear hq
            go_wp2
            go_ret
            refine ⟨by rw [HG.out]; rfl, HGW.out.trans ?_⟩
            repeat (first | with_reducible exact Grew.refl _ | apply Grew.more | apply Grew.alloc | apply Grew.drew | apply Grew.drewN)
          · have q2 : 20 < x.frm.length := by omega
            clear hq
            go_wp2
            go_ret
            refine ⟨by rw [HG.out]; rfl, HGW.out.trans ?_⟩
            repeat (first | with_reducible exact Grew.refl _ | apply Grew.more | apply Grew.alloc | apply Grew.drew | apply Grew.drewN)
      · obtain rfl : k = l.length := by omega
        have hg : greatG l = false := by
          rw [HG0.out, List.any_eq_false]
          intro x hx
          obtain ⟨t, ht, rfl⟩ := List.mem_iff_getElem.1 hx
          rw [HNO.out t ht ht]
          simp
        have HG := Lib.hid hg
        clear hg hgw hno
        go_wp2
        go_ret
        refine ⟨by rw [HG.out]; rfl, HGW.out.trans ?_⟩
        repeat (first | with_reducible exact Grew.refl _ | apply Grew.more | apply Grew.alloc | apply Grew.drew | apply Grew.drewN)
end Go.Proofs.YthlmmfljeblflaaGreatDoor
