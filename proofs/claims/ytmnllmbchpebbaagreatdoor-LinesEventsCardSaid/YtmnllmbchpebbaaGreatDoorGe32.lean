import Derived.Test.YtmnllmbchpebbaaGreatDoorGe20
import Derived.Test.YtmnllmbchpebbaaGreatDoorGe27
import Derived.Test.YtmnllmbchpebbaaGreatDoorGe9
import Derived.Deep.DeepCutAuto
/-! forebayref27.Plan, cut: what a step's line is. -/
namespace Go.Proofs.YtmnllmbchpebbaaGreatDoor
set_option linter.unusedSimpArgs false
set_option linter.unusedVariables false
open Go.RowKit Ga
set_option maxRecDepth 100000

def frame27 (u : Nat → Value) : Act := { tmps := #[u 0, u 1, u 2, u 3, u 4, u 5, u 6, u 7, u 8, u 9, u 10, u 11, u 12, u 13, u 14, u 15, u 16, u 17, u 18, u 19, u 20, u 21, u 22, u 23, u 24, u 25, u 26, u 27, u 28, u 29, u 30, u 31, u 32, u 33, u 34, u 35, u 36, u 37, u 38, u 39, u 40, u 41, u 42, u 43, u 44, u 45, u 46, u 47, u 48, u 49, u 50, u 51, u 52, u 53, u 54, u 55, u 56, u 57, u 58, u 59, u 60, u 61, u 62, u 63, u 64, u 65, u 66, u 67, u 68, u 69, u 70, u 71, u 72, u 73, u 74, u 75, u 76, u 77, u 78, u 79, u 80, u 81, u 82, u 83, u 84, u 85, u 86, u 87, u 88, u 89, u 90, u 91, u 92, u 93, u 94, u 95, u 96, u 97, u 98, u 99, u 100, u 101, u 102, u 103, u 104, u 105, u 106, u 107, u 108, u 109, u 110, u 111, u 112, u 113, u 114, u 115, u 116, u 117, u 118, u 119, u 120, u 121, u 122, u 123, u 124, u 125, u 126, u 127, u 128, u 129, u 130, u 131, u 132, u 133, u 134, u 135, u 136, u 137, u 138, u 139], defers := [] }
def starts27 (n : Nat) : Code → Bool
  | .region k _ _ => k == n
  | .seq a _ => starts27 n a
  | _ => false
/-- the code from region n on -/
def from27 (n : Nat) : Code → Option Code
  | .seq a b => if starts27 n a then some (.seq a b) else match from27 n a with
    | some c => some c
    | none => from27 n b
  | .loop c => from27 n c
  | .block _ c => from27 n c
  | .scope c => from27 n c
  | .cond _ a b => match from27 n a with
    | some c => some c
    | none => from27 n b
  | _ => none
noncomputable def tail27 : Code := (Tryz.f18.body.bind (from27 14)).getD .skip
set_option maxHeartbeats 16000000 in
theorem pl_k1 (W : World) (Q : Exit → Act → World → Prop) (a0 : Act) (b5 b6 : Nat) (v0 v4 : Value) (pre it ct : List UInt8) {id kd par r0 r1 r2 r3 r4 r5 r6 r7 : Int} {af ap : Option Addr} {nf cf np cp : Nat} {reset : Bool}
    (hfr : a0 = frame27 fun i => a0.tmps.getD i undef) (h00 : a0.tmps.getD 0 undef = v0) (h03 : a0.tmps.getD 3 undef = str pre) (h04 : a0.tmps.getD 4 undef = v4) (h05 : a0.tmps.getD 5 undef = .pointer (some ⟨b5, 0, none⟩)) (h06 : a0.tmps.getD 6 undef = .pointer (some ⟨b6, 0, none⟩))
    (h5 : W.heap[b5]? = some (.cells #[.int .i64 1, .int .i64 id, .int .i64 kd, .slice af nf cf, .slice ap np cp, .int .i64 par, .int .i64 r0, .int .i64 r1, .int .i64 r2, .int .i64 r3, .int .i64 r4, .int .i64 r5, .int .i64 r6, .int .i64 r7, .bool reset] 44)) (h6 : W.heap[b6]? = some (.cells #[.int .i64 id, .int .i64 kd, .slice af nf cf, .slice ap np cp, .int .i64 par, .int .i64 r0, .int .i64 r1, .int .i64 r2, .int .i64 r3, .int .i64 r4, .int .i64 r5, .int .i64 r6, .int .i64 r7] 42))
    (HD : ∀ W', Calls Tryz.prog 19 #[.int .i64 id] W' (Gives (str it) W')) (HX : ∀ W', Grew W W' → Calls Tryz.prog 50 #[.slice ap np cp] W' (Gives (str ct) W')) (l0 : pre.length ≤ 8003) (l1 : it.length ≤ 8) (l3 : ct.length ≤ 400)
    (hnext : ∀ a' w', a' = frame27 (fun i => a'.tmps.getD i undef) → a'.tmps.getD 0 undef = v0 → a'.tmps.getD 3 undef = str (pre ++ (Li.sSWAP ++ 32 :: (it ++ 32 :: ((if reset = true then Li.sRESET else Li.sKEEP) ++ (Li.behind ++ ct))))) → a'.tmps.getD 4 undef = v4 → Grew W w' → Q .normal a' w') :
    Code.wp Tryz.prog tail27 Q a0 W := by
  obtain ⟨u, hu⟩ : ∃ u : Nat → Value, u = fun i => a0.tmps.getD i undef := ⟨_, rfl⟩
  rw [← hu] at hfr
  have u0 : u 0 = _ := (congrFun hu 0).trans h00
  have u3 : u 3 = _ := (congrFun hu 3).trans h03
  have u4 : u 4 = _ := (congrFun hu 4).trans h04
  have u5 : u 5 = _ := (congrFun hu 5).trans h05
  have u6 : u 6 = _ := (congrFun hu 6).trans h06
  clear hu h00 h03 h04 h05 h06
  subst hfr
  conv => arg 2; whnf
  unfold frame27
  rw [u0, u3, u4, u5, u6]
  have HDq := Lib.hid HD
  have HXq := Lib.hid HX
  have HQ := Lib.hid hnext
  have s0 := cell_of (o := 0) h5
  have s14 := cell_of (o := 14) h5
  have d0 := cell_of (o := 0) h6
  have d1 := cell_of (o := 1) h6
  have d2 := cell_of (o := 2) h6
  have d3 := cell_of (o := 3) h6
  have d4 := cell_of (o := 4) h6
  have d5 := cell_of (o := 5) h6
  have d6 := cell_of (o := 6) h6
  have d7 := cell_of (o := 7) h6
  have d8 := cell_of (o := 8) h6
  have d9 := cell_of (o := 9) h6
  have d10 := cell_of (o := 10) h6
  have d11 := cell_of (o := 11) h6
  have d12 := cell_of (o := 12) h6
  have p5 := Pre.mk (heap_lt h5)
  have p6 := Pre.mk (heap_lt h6)
  simp at s0 s14 d0 d1 d2 d3 d4 d5 d6 d7 d8 d9 d10 d11 d12
  clear HD HX h5 h6 hnext u3 u5 u6 u0 u4
  cases reset
  all_goals
    go_wp2_with (first
      | (go_at_call 19; refine (HDq.out _).mono ?_; rintro e w1 ⟨rfl, R4, n4, rfl⟩)
      | (go_at_call 50; refine (HXq.out _ (by repeat (first | with_reducible exact Grew.refl _ | apply Grew.more | apply Grew.alloc | apply Grew.drew | apply Grew.drewN))).mono ?_; rintro e w1 ⟨rfl, R8, n8, rfl⟩))
    exact HQ.out _ _ rfl rfl (congrArg Value.string (by simp [str_cat, Li.sSWAP, Li.sADD, Li.sREMOVE, Li.sROUTE, Li.sLINK, Li.sKEEP, Li.sRESET, Li.behind, Li.between])) rfl (by repeat (first | with_reducible exact Grew.refl _ | apply Grew.more | apply Grew.alloc | apply Grew.drew | apply Grew.drewN))
set_option maxHeartbeats 16000000 in
theorem pl_k2 (W : World) (Q : Exit → Act → World → Prop) (a0 : Act) (b5 b6 : Nat) (v0 v4 : Value) (pre it nt : List UInt8) {id kd par r0 r1 r2 r3 r4 r5 r6 r7 : Int} {af ap : Option Addr} {nf cf np cp : Nat} {reset : Bool}
    (hfr : a0 = frame27 fun i => a0.tmps.getD i undef) (h00 : a0.tmps.getD 0 undef = v0) (h03 : a0.tmps.getD 3 undef = str pre) (h04 : a0.tmps.getD 4 undef = v4) (h05 : a0.tmps.getD 5 undef = .pointer (some ⟨b5, 0, none⟩)) (h06 : a0.tmps.getD 6 undef = .pointer (some ⟨b6, 0, none⟩))
    (h5 : W.heap[b5]? = some (.cells #[.int .i64 2, .int .i64 id, .int .i64 kd, .slice af nf cf, .slice ap np cp, .int .i64 par, .int .i64 r0, .int .i64 r1, .int .i64 r2, .int .i64 r3, .int .i64 r4, .int .i64 r5, .int .i64 r6, .int .i64 r7, .bool reset] 44)) (h6 : W.heap[b6]? = some (.cells #[.int .i64 id, .int .i64 kd, .slice af nf cf, .slice ap np cp, .int .i64 par, .int .i64 r0, .int .i64 r1, .int .i64 r2, .int .i64 r3, .int .i64 r4, .int .i64 r5, .int .i64 r6, .int .i64 r7] 42))
    (HD : ∀ W', Calls Tryz.prog 19 #[.int .i64 id] W' (Gives (str it) W')) (HN : ∀ W', Grew W W' → Calls Tryz.prog 51 #[.agg #[.int .i64 id, .int .i64 kd, .slice af nf cf, .slice ap np cp, .int .i64 par, .int .i64 r0, .int .i64 r1, .int .i64 r2, .int .i64 r3, .int .i64 r4, .int .i64 r5, .int .i64 r6, .int .i64 r7]] W' (Gives (str nt) W')) (l0 : pre.length ≤ 8003) (l1 : it.length ≤ 8) (l5 : nt.length ≤ 1200) (hn0 : nt ≠ [])
    (hnext : ∀ a' w', a' = frame27 (fun i => a'.tmps.getD i undef) → a'.tmps.getD 0 undef = v0 → a'.tmps.getD 3 undef = str (pre ++ (Li.sADD ++ 32 :: nt)) → a'.tmps.getD 4 undef = v4 → Grew W w' → Q .normal a' w') :
    Code.wp Tryz.prog tail27 Q a0 W := by
  obtain ⟨u, hu⟩ : ∃ u : Nat → Value, u = fun i => a0.tmps.getD i undef := ⟨_, rfl⟩
  rw [← hu] at hfr
  have u0 : u 0 = _ := (congrFun hu 0).trans h00
  have u3 : u 3 = _ := (congrFun hu 3).trans h03
  have u4 : u 4 = _ := (congrFun hu 4).trans h04
  have u5 : u 5 = _ := (congrFun hu 5).trans h05
  have u6 : u 6 = _ := (congrFun hu 6).trans h06
  clear hu h00 h03 h04 h05 h06
  subst hfr
  conv => arg 2; whnf
  unfold frame27
  rw [u0, u3, u4, u5, u6]
  have HDq := Lib.hid HD
  have HNq := Lib.hid HN
  have HQ := Lib.hid hnext
  have s0 := cell_of (o := 0) h5
  have s14 := cell_of (o := 14) h5
  have d0 := cell_of (o := 0) h6
  have d1 := cell_of (o := 1) h6
  have d2 := cell_of (o := 2) h6
  have d3 := cell_of (o := 3) h6
  have d4 := cell_of (o := 4) h6
  have d5 := cell_of (o := 5) h6
  have d6 := cell_of (o := 6) h6
  have d7 := cell_of (o := 7) h6
  have d8 := cell_of (o := 8) h6
  have d9 := cell_of (o := 9) h6
  have d10 := cell_of (o := 10) h6
  have d11 := cell_of (o := 11) h6
  have d12 := cell_of (o := 12) h6
  have p5 := Pre.mk (heap_lt h5)
  have p6 := Pre.mk (heap_lt h6)
  simp at s0 s14 d0 d1 d2 d3 d4 d5 d6 d7 d8 d9 d10 d11 d12
  clear HD HN h5 h6 hnext u3 u5 u6 u0 u4
  have hne : nt.isEmpty = false := by cases nt with
    | nil => exact absurd rfl hn0
    | cons => rfl
  clear hn0
  go_wp2_with (first
    | (go_at_call 19; refine (HDq.out _).mono ?_; rintro e w1 ⟨rfl, R4, n4, rfl⟩)
    | (go_at_call 51; refine (HNq.out _ (by repeat (first | with_reducible exact Grew.refl _ | apply Grew.more | apply Grew.alloc | apply Grew.drew | apply Grew.drewN))).mono ?_; rintro e w1 ⟨rfl, R5, n5, rfl⟩))
  exact HQ.out _ _ rfl rfl (congrArg Value.string (by simp [str_cat, Li.sSWAP, Li.sADD, Li.sREMOVE, Li.sROUTE, Li.sLINK, Li.sKEEP, Li.sRESET, Li.behind, Li.between])) rfl (by repeat (first | with_reducible exact Grew.refl _ | apply Grew.more | apply Grew.alloc | apply Grew.drew | apply Grew.drewN))
set_option maxHeartbeats 16000000 in
theorem pl_k2n (W : World) (Q : Exit → Act → World → Prop) (a0 : Act) (b5 b6 : Nat) (v0 v4 : Value) (pre it : List UInt8) {id kd par r0 r1 r2 r3 r4 r5 r6 r7 : Int} {af ap : Option Addr} {nf cf np cp : Nat} {reset : Bool}
    (hfr : a0 = frame27 fun i => a0.tmps.getD i undef) (h03 : a0.tmps.getD 3 undef = str pre) (h05 : a0.tmps.getD 5 undef = .pointer (some ⟨b5, 0, none⟩)) (h06 : a0.tmps.getD 6 undef = .pointer (some ⟨b6, 0, none⟩))
    (h5 : W.heap[b5]? = some (.cells #[.int .i64 2, .int .i64 id, .int .i64 kd, .slice af nf cf, .slice ap np cp, .int .i64 par, .int .i64 r0, .int .i64 r1, .int .i64 r2, .int .i64 r3, .int .i64 r4, .int .i64 r5, .int .i64 r6, .int .i64 r7, .bool reset] 44)) (h6 : W.heap[b6]? = some (.cells #[.int .i64 id, .int .i64 kd, .slice af nf cf, .slice ap np cp, .int .i64 par, .int .i64 r0, .int .i64 r1, .int .i64 r2, .int .i64 r3, .int .i64 r4, .int .i64 r5, .int .i64 r6, .int .i64 r7] 42))
    (HD : ∀ W', Calls Tryz.prog 19 #[.int .i64 id] W' (Gives (str it) W')) (HN : ∀ W', Grew W W' → Calls Tryz.prog 51 #[.agg #[.int .i64 id, .int .i64 kd, .slice af nf cf, .slice ap np cp, .int .i64 par, .int .i64 r0, .int .i64 r1, .int .i64 r2, .int .i64 r3, .int .i64 r4, .int .i64 r5, .int .i64 r6, .int .i64 r7]] W' (Gives (str []) W')) (l0 : pre.length ≤ 8003) (l1 : it.length ≤ 8) 
    (hret : ∀ a' w', a'.tmps.getD 2 undef = .string ⟨#[]⟩ → a'.defers = [] → Grew W w' → Q .ret a' w') :
    Code.wp Tryz.prog tail27 Q a0 W := by
  obtain ⟨u, hu⟩ : ∃ u : Nat → Value, u = fun i => a0.tmps.getD i undef := ⟨_, rfl⟩
  rw [← hu] at hfr
  have u3 : u 3 = _ := (congrFun hu 3).trans h03
  have u5 : u 5 = _ := (congrFun hu 5).trans h05
  have u6 : u 6 = _ := (congrFun hu 6).trans h06
  clear hu h03 h05 h06
  subst hfr
  conv => arg 2; whnf
  unfold frame27
  rw [u3, u5, u6]
  have HDq := Lib.hid HD
  have HNq := Lib.hid HN
  have HQ := Lib.hid hret
  have s0 := cell_of (o := 0) h5
  have s14 := cell_of (o := 14) h5
  have d0 := cell_of (o := 0) h6
  have d1 := cell_of (o := 1) h6
  have d2 := cell_of (o := 2) h6
  have d3 := cell_of (o := 3) h6
  have d4 := cell_of (o := 4) h6
  have d5 := cell_of (o := 5) h6
  have d6 := cell_of (o := 6) h6
  have d7 := cell_of (o := 7) h6
  have d8 := cell_of (o := 8) h6
  have d9 := cell_of (o := 9) h6
  have d10 := cell_of (o := 10) h6
  have d11 := cell_of (o := 11) h6
  have d12 := cell_of (o := 12) h6
  have p5 := Pre.mk (heap_lt h5)
  have p6 := Pre.mk (heap_lt h6)
  simp at s0 s14 d0 d1 d2 d3 d4 d5 d6 d7 d8 d9 d10 d11 d12
  clear HD HN h5 h6 hret u3 u5 u6
  go_wp2_with (first
    | (go_at_call 19; refine (HDq.out _).mono ?_; rintro e w1 ⟨rfl, R4, n4, rfl⟩)
    | (go_at_call 51; refine (HNq.out _ (by repeat (first | with_reducible exact Grew.refl _ | apply Grew.more | apply Grew.alloc | apply Grew.drew | apply Grew.drewN))).mono ?_; rintro e w1 ⟨rfl, R5, n5, rfl⟩))
  exact HQ.out _ _ rfl rfl (by repeat (first | with_reducible exact Grew.refl _ | apply Grew.more | apply Grew.alloc | apply Grew.drew | apply Grew.drewN))
set_option maxHeartbeats 16000000 in
theorem pl_k3 (W : World) (Q : Exit → Act → World → Prop) (a0 : Act) (b5 b6 : Nat) (v0 v4 : Value) (pre it : List UInt8) {id kd par r0 r1 r2 r3 r4 r5 r6 r7 : Int} {af ap : Option Addr} {nf cf np cp : Nat} {reset : Bool}
    (hfr : a0 = frame27 fun i => a0.tmps.getD i undef) (h00 : a0.tmps.getD 0 undef = v0) (h03 : a0.tmps.getD 3 undef = str pre) (h04 : a0.tmps.getD 4 undef = v4) (h05 : a0.tmps.getD 5 undef = .pointer (some ⟨b5, 0, none⟩)) (h06 : a0.tmps.getD 6 undef = .pointer (some ⟨b6, 0, none⟩))
    (h5 : W.heap[b5]? = some (.cells #[.int .i64 3, .int .i64 id, .int .i64 kd, .slice af nf cf, .slice ap np cp, .int .i64 par, .int .i64 r0, .int .i64 r1, .int .i64 r2, .int .i64 r3, .int .i64 r4, .int .i64 r5, .int .i64 r6, .int .i64 r7, .bool reset] 44)) (h6 : W.heap[b6]? = some (.cells #[.int .i64 id, .int .i64 kd, .slice af nf cf, .slice ap np cp, .int .i64 par, .int .i64 r0, .int .i64 r1, .int .i64 r2, .int .i64 r3, .int .i64 r4, .int .i64 r5, .int .i64 r6, .int .i64 r7] 42))
    (HD : ∀ W', Calls Tryz.prog 19 #[.int .i64 id] W' (Gives (str it) W'))  (l0 : pre.length ≤ 8003) (l1 : it.length ≤ 8) 
    (hnext : ∀ a' w', a' = frame27 (fun i => a'.tmps.getD i undef) → a'.tmps.getD 0 undef = v0 → a'.tmps.getD 3 undef = str (pre ++ (Li.sREMOVE ++ 32 :: it)) → a'.tmps.getD 4 undef = v4 → Grew W w' → Q .normal a' w') :
    Code.wp Tryz.prog tail27 Q a0 W := by
  obtain ⟨u, hu⟩ : ∃ u : Nat → Value, u = fun i => a0.tmps.getD i undef := ⟨_, rfl⟩
  rw [← hu] at hfr
  have u0 : u 0 = _ := (congrFun hu 0).trans h00
  have u3 : u 3 = _ := (congrFun hu 3).trans h03
  have u4 : u 4 = _ := (congrFun hu 4).trans h04
  have u5 : u 5 = _ := (congrFun hu 5).trans h05
  have u6 : u 6 = _ := (congrFun hu 6).trans h06
  clear hu h00 h03 h04 h05 h06
  subst hfr
  conv => arg 2; whnf
  unfold frame27
  rw [u0, u3, u4, u5, u6]
  have HDq := Lib.hid HD
  have HQ := Lib.hid hnext
  have s0 := cell_of (o := 0) h5
  have s14 := cell_of (o := 14) h5
  have d0 := cell_of (o := 0) h6
  have d1 := cell_of (o := 1) h6
  have d2 := cell_of (o := 2) h6
  have d3 := cell_of (o := 3) h6
  have d4 := cell_of (o := 4) h6
  have d5 := cell_of (o := 5) h6
  have d6 := cell_of (o := 6) h6
  have d7 := cell_of (o := 7) h6
  have d8 := cell_of (o := 8) h6
  have d9 := cell_of (o := 9) h6
  have d10 := cell_of (o := 10) h6
  have d11 := cell_of (o := 11) h6
  have d12 := cell_of (o := 12) h6
  have p5 := Pre.mk (heap_lt h5)
  have p6 := Pre.mk (heap_lt h6)
  simp at s0 s14 d0 d1 d2 d3 d4 d5 d6 d7 d8 d9 d10 d11 d12
  clear HD  h5 h6 hnext u3 u5 u6 u0 u4
  go_wp2_with (first
    | (go_at_call 19; refine (HDq.out _).mono ?_; rintro e w1 ⟨rfl, R4, n4, rfl⟩))
  exact HQ.out _ _ rfl rfl (congrArg Value.string (by simp [str_cat, Li.sSWAP, Li.sADD, Li.sREMOVE, Li.sROUTE, Li.sLINK, Li.sKEEP, Li.sRESET, Li.behind, Li.between])) rfl (by repeat (first | with_reducible exact Grew.refl _ | apply Grew.more | apply Grew.alloc | apply Grew.drew | apply Grew.drewN))
set_option maxHeartbeats 16000000 in
theorem pl_k4 (W : World) (Q : Exit → Act → World → Prop) (a0 : Act) (b5 b6 : Nat) (v0 v4 : Value) (pre it pt : List UInt8) {id kd par r0 r1 r2 r3 r4 r5 r6 r7 : Int} {af ap : Option Addr} {nf cf np cp : Nat} {reset : Bool}
    (hfr : a0 = frame27 fun i => a0.tmps.getD i undef) (h00 : a0.tmps.getD 0 undef = v0) (h03 : a0.tmps.getD 3 undef = str pre) (h04 : a0.tmps.getD 4 undef = v4) (h05 : a0.tmps.getD 5 undef = .pointer (some ⟨b5, 0, none⟩)) (h06 : a0.tmps.getD 6 undef = .pointer (some ⟨b6, 0, none⟩))
    (h5 : W.heap[b5]? = some (.cells #[.int .i64 4, .int .i64 id, .int .i64 kd, .slice af nf cf, .slice ap np cp, .int .i64 par, .int .i64 r0, .int .i64 r1, .int .i64 r2, .int .i64 r3, .int .i64 r4, .int .i64 r5, .int .i64 r6, .int .i64 r7, .bool reset] 44)) (h6 : W.heap[b6]? = some (.cells #[.int .i64 id, .int .i64 kd, .slice af nf cf, .slice ap np cp, .int .i64 par, .int .i64 r0, .int .i64 r1, .int .i64 r2, .int .i64 r3, .int .i64 r4, .int .i64 r5, .int .i64 r6, .int .i64 r7] 42))
    (HD : ∀ W', Calls Tryz.prog 19 #[.int .i64 id] W' (Gives (str it) W')) (HPL : ∀ W', Calls Tryz.prog 52 #[.agg #[.int .i64 id, .int .i64 kd, .slice af nf cf, .slice ap np cp, .int .i64 par, .int .i64 r0, .int .i64 r1, .int .i64 r2, .int .i64 r3, .int .i64 r4, .int .i64 r5, .int .i64 r6, .int .i64 r7]] W' (Gives (str pt) W')) (l0 : pre.length ≤ 8003) (l1 : it.length ≤ 8) (l4 : pt.length ≤ 20)
    (hnext : ∀ a' w', a' = frame27 (fun i => a'.tmps.getD i undef) → a'.tmps.getD 0 undef = v0 → a'.tmps.getD 3 undef = str (pre ++ (Li.sROUTE ++ 32 :: (it ++ 32 :: pt))) → a'.tmps.getD 4 undef = v4 → Grew W w' → Q .normal a' w') :
    Code.wp Tryz.prog tail27 Q a0 W := by
  obtain ⟨u, hu⟩ : ∃ u : Nat → Value, u = fun i => a0.tmps.getD i undef := ⟨_, rfl⟩
  rw [← hu] at hfr
  have u0 : u 0 = _ := (congrFun hu 0).trans h00
  have u3 : u 3 = _ := (congrFun hu 3).trans h03
  have u4 : u 4 = _ := (congrFun hu 4).trans h04
  have u5 : u 5 = _ := (congrFun hu 5).trans h05
  have u6 : u 6 = _ := (congrFun hu 6).trans h06
  clear hu h00 h03 h04 h05 h06
  subst hfr
  conv => arg 2; whnf
  unfold frame27
  rw [u0, u3, u4, u5, u6]
  have HDq := Lib.hid HD
  have HPLq := Lib.hid HPL
  have HQ := Lib.hid hnext
  have s0 := cell_of (o := 0) h5
  have s14 := cell_of (o := 14) h5
  have d0 := cell_of (o := 0) h6
  have d1 := cell_of (o := 1) h6
  have d2 := cell_of (o := 2) h6
  have d3 := cell_of (o := 3) h6
  have d4 := cell_of (o := 4) h6
  have d5 := cell_of (o := 5) h6
  have d6 := cell_of (o := 6) h6
  have d7 := cell_of (o := 7) h6
  have d8 := cell_of (o := 8) h6
  have d9 := cell_of (o := 9) h6
  have d10 := cell_of (o := 10) h6
  have d11 := cell_of (o := 11) h6
  have d12 := cell_of (o := 12) h6
  have p5 := Pre.mk (heap_lt h5)
  have p6 := Pre.mk (heap_lt h6)
  simp at s0 s14 d0 d1 d2 d3 d4 d5 d6 d7 d8 d9 d10 d11 d12
  clear HD HPL h5 h6 hnext u3 u5 u6 u0 u4
  go_wp2_with (first
    | (go_at_call 19; refine (HDq.out _).mono ?_; rintro e w1 ⟨rfl, R4, n4, rfl⟩)
    | (go_at_call 52; refine (HPLq.out _).mono ?_; rintro e w1 ⟨rfl, R6, n6, rfl⟩))
  exact HQ.out _ _ rfl rfl (congrArg Value.string (by simp [str_cat, Li.sSWAP, Li.sADD, Li.sREMOVE, Li.sROUTE, Li.sLINK, Li.sKEEP, Li.sRESET, Li.behind, Li.between])) rfl (by repeat (first | with_reducible exact Grew.refl _ | apply Grew.more | apply Grew.alloc | apply Grew.drew | apply Grew.drewN))
set_option maxHeartbeats 16000000 in
theorem pl_k5 (W : World) (Q : Exit → Act → World → Prop) (a0 : Act) (b5 b6 : Nat) (v0 v4 : Value) (pre it lt : List UInt8) {id kd par r0 r1 r2 r3 r4 r5 r6 r7 : Int} {af ap : Option Addr} {nf cf np cp : Nat} {reset : Bool}
    (hfr : a0 = frame27 fun i => a0.tmps.getD i undef) (h00 : a0.tmps.getD 0 undef = v0) (h03 : a0.tmps.getD 3 undef = str pre) (h04 : a0.tmps.getD 4 undef = v4) (h05 : a0.tmps.getD 5 undef = .pointer (some ⟨b5, 0, none⟩)) (h06 : a0.tmps.getD 6 undef = .pointer (some ⟨b6, 0, none⟩))
    (h5 : W.heap[b5]? = some (.cells #[.int .i64 5, .int .i64 id, .int .i64 kd, .slice af nf cf, .slice ap np cp, .int .i64 par, .int .i64 r0, .int .i64 r1, .int .i64 r2, .int .i64 r3, .int .i64 r4, .int .i64 r5, .int .i64 r6, .int .i64 r7, .bool reset] 44)) (h6 : W.heap[b6]? = some (.cells #[.int .i64 id, .int .i64 kd, .slice af nf cf, .slice ap np cp, .int .i64 par, .int .i64 r0, .int .i64 r1, .int .i64 r2, .int .i64 r3, .int .i64 r4, .int .i64 r5, .int .i64 r6, .int .i64 r7] 42))
    (HD : ∀ W', Calls Tryz.prog 19 #[.int .i64 id] W' (Gives (str it) W')) (HL : ∀ W', Grew W W' → Calls Tryz.prog 53 #[.slice af nf cf] W' (Gives (str lt) W')) (l0 : pre.length ≤ 8003) (l1 : it.length ≤ 8) (l2 : lt.length ≤ 600)
    (hnext : ∀ a' w', a' = frame27 (fun i => a'.tmps.getD i undef) → a'.tmps.getD 0 undef = v0 → a'.tmps.getD 3 undef = str (pre ++ (Li.sLINK ++ 32 :: (it ++ 32 :: lt))) → a'.tmps.getD 4 undef = v4 → Grew W w' → Q .normal a' w') :
    Code.wp Tryz.prog tail27 Q a0 W := by
  obtain ⟨u, hu⟩ : ∃ u : Nat → Value, u = fun i => a0.tmps.getD i undef := ⟨_, rfl⟩
  rw [← hu] at hfr
  have u0 : u 0 = _ := (congrFun hu 0).trans h00
  have u3 : u 3 = _ := (congrFun hu 3).trans h03
  have u4 : u 4 = _ := (congrFun hu 4).trans h04
  have u5 : u 5 = _ := (congrFun hu 5).trans h05
  have u6 : u 6 = _ := (congrFun hu 6).trans h06
  clear hu h00 h03 h04 h05 h06
  subst hfr
  conv => arg 2; whnf
  unfold frame27
  rw [u0, u3, u4, u5, u6]
  have HDq := Lib.hid HD
  have HLq := Lib.hid HL
  have HQ := Lib.hid hnext
  have s0 := cell_of (o := 0) h5
  have s14 := cell_of (o := 14) h5
  have d0 := cell_of (o := 0) h6
  have d1 := cell_of (o := 1) h6
  have d2 := cell_of (o := 2) h6
  have d3 := cell_of (o := 3) h6
  have d4 := cell_of (o := 4) h6
  have d5 := cell_of (o := 5) h6
  have d6 := cell_of (o := 6) h6
  have d7 := cell_of (o := 7) h6
  have d8 := cell_of (o := 8) h6
  have d9 := cell_of (o := 9) h6
  have d10 := cell_of (o := 10) h6
  have d11 := cell_of (o := 11) h6
  have d12 := cell_of (o := 12) h6
  have p5 := Pre.mk (heap_lt h5)
  have p6 := Pre.mk (heap_lt h6)
  simp at s0 s14 d0 d1 d2 d3 d4 d5 d6 d7 d8 d9 d10 d11 d12
  clear HD HL h5 h6 hnext u3 u5 u6 u0 u4
  go_wp2_with (first
    | (go_at_call 19; refine (HDq.out _).mono ?_; rintro e w1 ⟨rfl, R4, n4, rfl⟩)
    | (go_at_call 53; refine (HLq.out _ (by repeat (first | with_reducible exact Grew.refl _ | apply Grew.more | apply Grew.alloc | apply Grew.drew | apply Grew.drewN))).mono ?_; rintro e w1 ⟨rfl, R7, n7, rfl⟩))
  exact HQ.out _ _ rfl rfl (congrArg Value.string (by simp [str_cat, Li.sSWAP, Li.sADD, Li.sREMOVE, Li.sROUTE, Li.sLINK, Li.sKEEP, Li.sRESET, Li.behind, Li.between])) rfl (by repeat (first | with_reducible exact Grew.refl _ | apply Grew.more | apply Grew.alloc | apply Grew.drew | apply Grew.drewN))
end Go.Proofs.YtmnllmbchpebbaaGreatDoor
