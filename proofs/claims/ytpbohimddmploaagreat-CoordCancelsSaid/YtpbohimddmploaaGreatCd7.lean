import Derived.Test.YtpbohimddmploaaGreatCd0
import Derived.Test.YtpbohimddmploaaGreatCd4
set_option linter.unusedSimpArgs false
set_option linter.unusedVariables false
set_option maxRecDepth 100000
set_option maxHeartbeats 64000000
namespace Go.Proofs.YtpbohimddmploaaGreat
open Go.RowKit

theorem insNone_any (fv : Value) (w : World) : Calls Tryz.prog 246 #[.slice none 0 0, .int .i64 0, .int .i64 0, fv] w (fun e w' => e = .returned (.tuple #[]) ∧ w' = w) := by
  go_enter Tryz.func246, Tryz.ntmps246
  go_wp2
  go_loopg [8] 0 (fun gg s8 wr => s8 = .int .i64 1 ∧ wr = w)
  case atStart => exact ⟨rfl, rfl⟩
  case round =>
    obtain ⟨rfl, rfl⟩ := hrel
    go_wp2
    refine bodyPost_end (v := .tuple #[]) (by simp [results, Tryz.results246, go_sem]) rfl ?_
    exact ⟨rfl, rfl⟩
theorem pdqNone_any (k : Int) (fv : Value) (w : World) : Calls Tryz.prog 238 #[.slice none 0 0, .int .i64 0, .int .i64 0, .int .i64 k, fv] w (fun e w' => e = .returned (.tuple #[]) ∧ w' = w) := by
  go_enter Tryz.func238, Tryz.ntmps238
  go_wp2
  go_loopg [1, 2, 3] 0 (fun gg s1 s2 s3 wr => s1 = .int .i64 0 ∧ s2 = .int .i64 0 ∧ wr = w)
  case atStart => exact ⟨rfl, rfl, rfl⟩
  case round =>
    obtain ⟨rfl, rfl, rfl⟩ := hrel
    go_wp2_with (go_at_call 246; refine (insNone_any _ _).mono ?_; rintro e w1 ⟨rfl, rfl⟩)
    refine bodyPost_ret (v := .tuple #[]) (by simp [results, Tryz.results238, go_sem]) rfl ?_
    exact ⟨rfl, rfl⟩
theorem sortNone_any (fv : Value) (w : World) : Calls Tryz.prog 224 #[.slice none 0 0, fv] w (fun e w' => e = .returned (.tuple #[]) ∧ w' = w) := by
  go_enter Tryz.func224, Tryz.ntmps224
  go_wp2_with (first
    | (go_at_call 137; refine (Tryz.bits_Len 0 _ (by decide) (by decide)).mono ?_; rintro e w1 ⟨rfl, rfl⟩)
    | (go_at_call 238; refine (pdqNone_any _ _ _).mono ?_; rintro e w1 ⟨rfl, rfl⟩))
  refine bodyPost_end (v := .tuple #[]) (by simp [results, Tryz.results224, go_sem]) rfl ?_
  exact ⟨rfl, rfl⟩
end Go.Proofs.YtpbohimddmploaaGreat
