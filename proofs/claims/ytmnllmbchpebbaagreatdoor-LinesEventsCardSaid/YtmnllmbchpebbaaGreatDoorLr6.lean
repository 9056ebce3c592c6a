import Derived.Test.YtmnllmbchpebbaaGreatDoorGe38
import Derived.Test.YtmnllmbchpebbaaGreatDoorGe41
import Derived.Test.YtmnllmbchpebbaaGreatDoorGe42
import Derived.Test.YtmnllmbchpebbaaGreatDoorGe43
import Derived.Test.YtmnllmbchpebbaaGreatDoorLr62
import Derived.Test.YtmnllmbchpebbaaGreatDoorGe44
import Derived.Test.YtmnllmbchpebbaaGreatDoorLr611
import Derived.Test.YtmnllmbchpebbaaGreatDoorGe45
import Derived.Test.YtmnllmbchpebbaaGreatDoorGe46
import Derived.Test.YtmnllmbchpebbaaGreatDoorGe47
/-! forebaylaw27.line. -/
namespace Go.Proofs.YtmnllmbchpebbaaGreatDoor
set_option linter.unusedSimpArgs false
set_option linter.unusedVariables false
open Go.RowKit Ga
set_option maxRecDepth 100000

set_option maxHeartbeats 4000000 in
theorem line_no (v : Li.Ev) (rv kv : Value) (w : World) (hE : EvIs w v rv kv) (hk : v.kind < 1 ∨ 13 < v.kind) : Calls Tryz.prog 6 #[evV v rv kv] w (Gives (str []) w) := by
  obtain ⟨ra, rc, e1, m1, -⟩ := rq_open hE.r
  obtain ⟨ka, kc, e2, m2, -⟩ := bools_open hE.k
  subst e1 e2
  clear hE
  obtain ⟨kind, a, b, recs, plan, keep, ct⟩ := v
  simp only [evV] at *
  rcases hk with hk | hk
  · go_enter Tryz.func6, Tryz.ntmps6
    go_wp2
    go_ret
    exact ⟨rfl, by repeat (first | with_reducible exact Grew.refl _ | apply Grew.more | apply Grew.alloc | apply Grew.drew | apply Grew.drewN)⟩
  · have h1 : ¬ kind < 1 := by omega
    go_enter Tryz.func6, Tryz.ntmps6
    go_wp2
    go_ret
    exact ⟨rfl, by repeat (first | with_reducible exact Grew.refl _ | apply Grew.more | apply Grew.alloc | apply Grew.drew | apply Grew.drewN)⟩
theorem line27_any (v : Li.Ev) (rv kv : Value) (w : World) (hE : EvIs w v rv kv) (hr0 : v.recs.length ≤ 1000) (hk0 : v.keep.length ≤ 1000) (hp0 : v.plan.length ≤ 100000) : Calls Tryz.prog 6 #[evV v rv kv] w (Gives (str (Li.eventT gpL v)) w) := by
  by_cases hk : 1 ≤ v.kind ∧ v.kind ≤ 13
  · obtain ⟨k, hkd⟩ : ∃ k : Nat, v.kind = (k : Int) := ⟨v.kind.toNat, by omega⟩
    rcases (show (k = 4 ∨ k = 5 ∨ k = 6 ∨ k = 7) ∨ k = 9 ∨ k = 13 ∨ k = 1 ∨ k = 2 ∨ k = 8 ∨ k = 11 ∨ k = 10 ∨ k = 12 ∨ k = 3 by omega) with h | h | h | h | h | h | h | h | h | h
    · exact line_A v rv kv k w hE hr0 hk0 hp0 hkd h
    · exact line_9 v rv kv k w hE hr0 hk0 hp0 hkd h
    · exact line_13 v rv kv k w hE hr0 hk0 hp0 hkd h
    · exact line_1 v rv kv k w hE hr0 hk0 hp0 hkd h
    · exact line_2 v rv kv k w hE hr0 hk0 hp0 hkd h
    · exact line_8 v rv kv k w hE hr0 hk0 hp0 hkd h
    · exact line_11 v rv kv k w hE hr0 hk0 hp0 hkd h
    · exact line_10 v rv kv k w hE hr0 hk0 hp0 hkd h
    · exact line_12 v rv kv k w hE hr0 hk0 hp0 hkd h
    · exact line_3 v rv kv k w hE hr0 hk0 hp0 hkd h
  · rw [Li.eventT_none (fun h => hk h.1)]
    exact line_no v rv kv w hE (by omega)
end Go.Proofs.YtmnllmbchpebbaaGreatDoor
