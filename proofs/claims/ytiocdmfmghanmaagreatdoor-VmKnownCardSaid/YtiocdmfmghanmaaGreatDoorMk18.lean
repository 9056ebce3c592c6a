import Derived.Test.YtiocdmfmghanmaaGreatDoorMk16
import Derived.Test.YtiocdmfmghanmaaGreatDoorVmMath
/-! vm: values that may not be. -/
namespace Go.Proofs.YtiocdmfmghanmaaGreatDoor
set_option linter.unusedSimpArgs false
set_option linter.unusedVariables false
open Go.RowKit Ga
set_option maxRecDepth 100000

theorem wrong_any (x y : Int) (w : World) : Calls Tryz.prog 34 #[.agg #[.int .i64 x, .int .i64 y]] w (Gives (.bool (!rightV (x, y))) w) := by
  go_enter Tryz.func34, Tryz.ntmps34
  go_wp2_with (go_at_call 50; refine (right_any (x, y) _).mono ?_; rintro e w1 ⟨rfl, R2, n2, rfl⟩)
  go_ret
  refine ⟨rfl, ?_⟩
  repeat (first | with_reducible exact Grew.refl _ | apply Grew.more | apply Grew.alloc | apply Grew.drew | apply Grew.drewN)

set_option maxHeartbeats 1000000 in
/-- .. where the first wrong value stands. -/
theorem indexWrongV_any (v : Value) (l : List Val) (w : World) (hv : ValsAt w v l) :
    Calls Tryz.prog 49 #[v, .func (.func 34) #[] #[]] w fun e w' => ∃ k : Int, e = .returned (.int .i64 k) ∧ decide (0 ≤ k) = !l.all rightV ∧ Grew w w' := by
  obtain ⟨a, cap, rfl, hm, hl⟩ := hv.open2
  go_enter Tryz.func49, Tryz.ntmps49
  go_wp2
  go_loopw [8] (fun i wr => ∃ (k : Nat), k ≤ l.length ∧ i = .int .i64 k ∧ (l.take k).all rightV = true ∧ Grew w wr) (fun i _ => l.length - (intOf i).toNat)
  case atStart => exact ⟨0, Nat.zero_le _, rfl, rfl, Grew.refl _⟩
  case round =>
    obtain ⟨k, hk, rfl, hall, R, n, rfl⟩ := hrel
    have HA := Lib.hid hall
    clear hall
    by_cases hlt : k < l.length
    · obtain ⟨b, off, rfl, hb, hx, hy⟩ := hl k hlt
      have hs := take_all_succ (p := rightV) hlt HA.out
      have hf := all_false_at (p := rightV) hlt
      generalize l[k] = xy at *
      obtain ⟨x, y⟩ := xy
      cases hr : rightV (x, y)
      all_goals
        have HS := Lib.hid hs
        have HF := Lib.hid hf
        have HR := Lib.hid hr
        clear hs hl hf hr
        simp only at hx hy
        go_wp2_with (go_at_call 34; refine (wrong_any _ _ _).mono ?_; rintro e w1 ⟨rfl, R3, n3, rfl⟩; rw [HR.out])
      · go_ret
        refine ⟨k, rfl, ?_, ?_⟩
        · rw [HF.out HR.out]; simp
        · repeat (first | with_reducible exact Grew.refl _ | apply Grew.more | apply Grew.alloc | apply Grew.drew | apply Grew.drewN)
      · go_roundw
        case rel => exact ⟨k + 1, by omega, by go_num, HS.out HR.out, by repeat (first | with_reducible exact Grew.refl _ | apply Grew.more | apply Grew.alloc | apply Grew.drew | apply Grew.drewN)⟩
        case measure => first | (simp [intOf]; done) | (simp [intOf]; omega)
    · obtain rfl : k = l.length := by omega
      have hz := HA.out
      rw [List.take_length] at hz
      have HZ := Lib.hid hz
      clear hz hl HA
      go_wp2
      go_ret
      refine ⟨-1, rfl, ?_, ?_⟩
      · rw [HZ.out]; rfl
      · repeat (first | with_reducible exact Grew.refl _ | apply Grew.more | apply Grew.alloc | apply Grew.drew | apply Grew.drewN)

theorem containsWrongV_any (v : Value) (l : List Val) (w : World) (hv : ValsAt w v l) :
    Calls Tryz.prog 33 #[v, .func (.func 34) #[] #[]] w (Gives (.bool (!l.all rightV)) w) := by
  have HV := Lib.hid hv
  clear hv
  go_enter Tryz.func33, Tryz.ntmps33
  go_wp2_with (go_at_call 49; refine (indexWrongV_any _ l _ HV.out).mono ?_; rintro e w1 ⟨k, rfl, hk, R3, n3, rfl⟩; (have HK := Lib.hid hk); clear hk)
  go_ret
  refine ⟨ret_bool HK.out, ?_⟩
  repeat (first | with_reducible exact Grew.refl _ | apply Grew.more | apply Grew.alloc | apply Grew.drew | apply Grew.drewN)

end Go.Proofs.YtiocdmfmghanmaaGreatDoor
