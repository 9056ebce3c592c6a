import Derived.Test.YtiocdmfmghanmaaGreatDoorMk45
/-! The map literal of VmKnown, walked. -/
namespace Go.Proofs.YtiocdmfmghanmaaGreatDoor
set_option linter.unusedSimpArgs false
set_option linter.unusedVariables false
open Go.RowKit Ga
set_option maxRecDepth 100000
def regionAt (n : Nat) : Code → Option Code
  | .region k o b => if k = n then some (.region k o b) else none
  | .seq a b => match regionAt n a with
    | some c => some c
    | none => regionAt n b
  | .loop c => regionAt n c
  | .block _ c => regionAt n c
  | .scope c => regionAt n c
  | .cond _ a b => match regionAt n a with
    | some c => some c
    | none => regionAt n b
  | _ => none
def ks0 : ByteArray := ⟨#[73, 78, 59, 32, 76, 79, 65, 68, 32, 49, 59, 32, 65, 68, 68, 59, 32, 69, 77, 73, 84]⟩
def ks1 : ByteArray := ⟨#[73, 78, 59, 32, 76, 79, 65, 68, 32, 49, 59, 32, 83, 85, 66, 59, 32, 69, 77, 73, 84]⟩
def ks2 : ByteArray := ⟨#[73, 78, 59, 32, 76, 79, 65, 68, 32, 49, 59, 32, 77, 85, 76, 59, 32, 69, 77, 73, 84, 59, 32, 72, 65, 76, 84, 59, 32, 73, 78]⟩
def ks3 : ByteArray := ⟨#[73, 78, 59, 32, 84, 85, 82, 78, 59, 32, 69, 77, 73, 84]⟩
def ks4 : ByteArray := ⟨#[74, 77, 80, 32, 49, 59, 32, 76, 79, 65, 68, 32, 48, 59, 32, 73, 78, 59, 32, 67, 79, 78, 74, 59, 32, 69, 77, 73, 84]⟩
def ent5 (p q r s : Int) : Nat → Ent
  | 4 => (ks0, addV (p, q) (r, s))
  | 8 => (ks1, subV (p, q) (r, s))
  | 12 => (ks2, mulV (p, q) (r, s))
  | 19 => (ks3, (into (IntKind.i64.wrap (-q)), into p))
  | _ => (ks4, (into p, into (IntKind.i64.wrap (-q))))
def vals5 (p q r s : Int) (b3 : Nat) : Nat → Value
  | 1 => .agg #[.int .i64 p, .int .i64 q]
  | 2 => .agg #[.int .i64 r, .int .i64 s]
  | 3 => vv (addV (p, q) (r, s))
  | 5 => .agg #[.int .i64 p, .int .i64 q]
  | 6 => .agg #[.int .i64 r, .int .i64 s]
  | 7 => vv (subV (p, q) (r, s))
  | 9 => .agg #[.int .i64 p, .int .i64 q]
  | 10 => .agg #[.int .i64 r, .int .i64 s]
  | 11 => vv (mulV (p, q) (r, s))
  | 13 => .pointer (some ⟨b3, 1, none⟩)
  | 14 => .int .i64 q
  | 15 => .int .i64 (IntKind.i64.wrap (-q))
  | 16 => .pointer (some ⟨b3, 0, none⟩)
  | 17 => .int .i64 p
  | 18 => .agg #[.int .i64 (into (IntKind.i64.wrap (-q))), .int .i64 (into p)]
  | 20 => .pointer (some ⟨b3, 0, none⟩)
  | 21 => .int .i64 p
  | 22 => .pointer (some ⟨b3, 1, none⟩)
  | 23 => .int .i64 q
  | 24 => .int .i64 (IntKind.i64.wrap (-q))
  | _ => .agg #[.int .i64 (into p), .int .i64 (into (IntKind.i64.wrap (-q)))]
def key5 : Nat → ByteArray
  | 4 => ks0
  | 8 => ks1
  | 12 => ks2
  | 19 => ks3
  | _ => ks4
theorem key5_ne : ∀ i ∈ ins5, ∀ j ∈ ins5, i ≠ j → key5 i ≠ key5 j := by decide
theorem key5_size : ∀ i ∈ ins5, (key5 i).size ≤ maxLen := by decide
theorem ent5_key (p q r s : Int) : ∀ i ∈ ins5, (ent5 p q r s i).1 = key5 i := by
  intro i hi
  simp only [ins5, List.mem_cons, List.not_mem_nil, or_false] at hi
  rcases hi with rfl | rfl | rfl | rfl | rfl <;> rfl
theorem keys5 (p q r s : Int) : ∀ i ∈ ins5, ∀ j ∈ ins5, i ≠ j → (ent5 p q r s i).1 ≠ (ent5 p q r s j).1 := fun i hi j hj hne => by rw [ent5_key p q r s i hi, ent5_key p q r s j hj]; exact key5_ne i hi j hj hne
theorem size5 (p q r s : Int) : ∀ i ∈ ins5, (ent5 p q r s i).1.size ≤ maxLen := fun i hi => by rw [ent5_key p q r s i hi]; exact key5_size i hi

set_option maxHeartbeats 8000000 in
theorem region5 (p q r s : Int) (a0 : Act) (w0 : World) (b3 b4 : Nat) (Q : Exit → Act → World → Prop) (h3 : a0.tmps[3]? = some (.pointer (some ⟨b3, 0, none⟩))) (h4 : a0.tmps[4]? = some (.pointer (some ⟨b4, 0, none⟩)))
    (c3 : w0.heap[b3]? = some (.cells #[.int .i64 p, .int .i64 q] 24)) (c4 : w0.heap[b4]? = some (.cells #[.int .i64 r, .int .i64 s] 24)) (hs : a0.tmps.size = 134) (hd : a0.defers = [])
    (hQ : ∀ (L : Array Bool) (a : Act) (w : World), L.size = 29 → R5 w0.drew a0 (vals5 p q r s b3) (ent5 p q r s) L a w → (∀ i, i < 29 → L.getD i false = true) → Q .normal a w) :
    Code.wp Tryz.prog ((Tryz.f5.body.bind (regionAt 5)).getD .skip) Q a0 w0 := by
  conv => arg 2; whnf
  refine wp_region_inv (by kernel_rfl) (by kernel_rfl) (R5 w0.drew a0 (vals5 p q r s b3) (ent5 p q r s)) (R5.start hs hd) ?_ (fun L a w hL hR hall => hQ L a w hL hR hall)
  intro L a w i o hL hR ho hnl hdep
  have hL : L.size = 29 := hL
  have hi : i < 29 := (List.getElem?_eq_some_iff.1 ho).1
  have e3 : a.tmps[3]? = some (.pointer (some ⟨b3, 0, none⟩)) := (hR.ot 3 (.inl (by decide))).trans h3
  have e4 : a.tmps[4]? = some (.pointer (some ⟨b4, 0, none⟩)) := (hR.ot 4 (.inl (by decide))).trans h4
  have hh3 := grew_heap hR.g (show w0.drew.heap[b3]? = _ from c3)
  have hh4 := grew_heap hR.g (show w0.drew.heap[b4]? = _ from c4)
  have k30 := cell_of (o := 0) hh3
  have k31 := cell_of (o := 1) hh3
  have k40 := cell_of (o := 0) hh4
  have k41 := cell_of (o := 1) hh4
  simp at k30 k31 k40 k41
  have HF := Lib.hid (fun (x : Nat × Nat) (hx : x ∈ tabs5) (hl : L.getD x.1 false = true) => hR.f x hx hl)
  have hcs : i = 0 ∨ i = 1 ∨ i = 2 ∨ i = 3 ∨ i = 4 ∨ i = 5 ∨ i = 6 ∨ i = 7 ∨ i = 8 ∨ i = 9 ∨ i = 10 ∨ i = 11 ∨ i = 12 ∨ i = 13 ∨ i = 14 ∨ i = 15 ∨ i = 16 ∨ i = 17 ∨ i = 18 ∨ i = 19 ∨ i = 20 ∨ i = 21 ∨ i = 22 ∨ i = 23 ∨ i = 24 ∨ i = 25 ∨ i = 26 ∨ i = 27 ∨ i = 28 := by omega
  have hRR := Lib.hid hR
  clear hR hh3 hh4 hQ
  rcases hcs with rfl | rfl | rfl | rfl | rfl | rfl | rfl | rfl | rfl | rfl | rfl | rfl | rfl | rfl | rfl | rfl | rfl | rfl | rfl | rfl | rfl | rfl | rfl | rfl | rfl | rfl | rfl | rfl | rfl
  · cases ho
    unfold Oper.wp
    simp [execOp, Act.eval, run_makeMap, go_sem]
    exact hRR.out.make hL hnl
  · cases ho
    unfold Oper.wp
    simp [execOp, Act.eval, e3, e4, vals5, go_sem, k30, k31, k40, k41]
    exact hRR.out.step hL 1 34 (by decide) hnl (Grew.refl w)
  · cases ho
    unfold Oper.wp
    simp [execOp, Act.eval, e3, e4, vals5, go_sem, k30, k31, k40, k41]
    exact hRR.out.step hL 2 35 (by decide) hnl (Grew.refl w)
  · cases ho
    have e34 := HF.out (1, 34) (by decide) (hdep 1 (by decide))
    have e35 := HF.out (2, 35) (by decide) (hdep 2 (by decide))
    unfold Oper.wp
    simp [execOp, Act.eval, e34, e35, vals5, go_sem]
    refine (refAdd_any (p, q) (r, s) w).mono ?_
    rintro e w' ⟨rfl, R9, n9, rfl⟩
    exact hRR.out.step hL 3 36 (by decide) hnl ((Grew.refl w).more _ _)
  · cases ho
    have e36 := HF.out (3, 36) (by decide) (hdep 3 (by decide))
    obtain ⟨b, e33, w', hrun, hR'⟩ := hRR.out.insert hL (keys5 p q r s) (size5 p q r s) 4 (by decide) hnl (hdep 0 (by decide))
    unfold Oper.wp
    simp [execOp, Act.eval, e33, e36]
    have hrun' : Sem.run Tryz.prog (Instr.mapUpdate 47 (.map (some b)) (.string ⟨#[73, 78, 59, 32, 76, 79, 65, 68, 32, 49, 59, 32, 65, 68, 68, 59, 32, 69, 77, 73, 84]⟩) (vals5 p q r s b3 3)) w = .ok () w' := hrun
    simp [hrun', Result.andThen, go_sem]
    exact hR'
  · cases ho
    unfold Oper.wp
    simp [execOp, Act.eval, e3, e4, vals5, go_sem, k30, k31, k40, k41]
    exact hRR.out.step hL 5 37 (by decide) hnl (Grew.refl w)
  · cases ho
    unfold Oper.wp
    simp [execOp, Act.eval, e3, e4, vals5, go_sem, k30, k31, k40, k41]
    exact hRR.out.step hL 6 38 (by decide) hnl (Grew.refl w)
  · cases ho
    have e37 := HF.out (5, 37) (by decide) (hdep 5 (by decide))
    have e38 := HF.out (6, 38) (by decide) (hdep 6 (by decide))
    unfold Oper.wp
    simp [execOp, Act.eval, e37, e38, vals5, go_sem]
    refine (refSub_any (p, q) (r, s) w).mono ?_
    rintro e w' ⟨rfl, R9, n9, rfl⟩
    exact hRR.out.step hL 7 39 (by decide) hnl ((Grew.refl w).more _ _)
  · cases ho
    have e39 := HF.out (7, 39) (by decide) (hdep 7 (by decide))
    obtain ⟨b, e33, w', hrun, hR'⟩ := hRR.out.insert hL (keys5 p q r s) (size5 p q r s) 8 (by decide) hnl (hdep 0 (by decide))
    unfold Oper.wp
    simp [execOp, Act.eval, e33, e39]
    have hrun' : Sem.run Tryz.prog (Instr.mapUpdate 47 (.map (some b)) (.string ⟨#[73, 78, 59, 32, 76, 79, 65, 68, 32, 49, 59, 32, 83, 85, 66, 59, 32, 69, 77, 73, 84]⟩) (vals5 p q r s b3 7)) w = .ok () w' := hrun
    simp [hrun', Result.andThen, go_sem]
    exact hR'
  · cases ho
    unfold Oper.wp
    simp [execOp, Act.eval, e3, e4, vals5, go_sem, k30, k31, k40, k41]
    exact hRR.out.step hL 9 40 (by decide) hnl (Grew.refl w)
  · cases ho
    unfold Oper.wp
    simp [execOp, Act.eval, e3, e4, vals5, go_sem, k30, k31, k40, k41]
    exact hRR.out.step hL 10 41 (by decide) hnl (Grew.refl w)
  · cases ho
    have e40 := HF.out (9, 40) (by decide) (hdep 9 (by decide))
    have e41 := HF.out (10, 41) (by decide) (hdep 10 (by decide))
    unfold Oper.wp
    simp [execOp, Act.eval, e40, e41, vals5, go_sem]
    refine (refMul_any (p, q) (r, s) w).mono ?_
    rintro e w' ⟨rfl, R9, n9, rfl⟩
    exact hRR.out.step hL 11 42 (by decide) hnl ((Grew.refl w).more _ _)
  · cases ho
    have e42 := HF.out (11, 42) (by decide) (hdep 11 (by decide))
    obtain ⟨b, e33, w', hrun, hR'⟩ := hRR.out.insert hL (keys5 p q r s) (size5 p q r s) 12 (by decide) hnl (hdep 0 (by decide))
    unfold Oper.wp
    simp [execOp, Act.eval, e33, e42]
    have hrun' : Sem.run Tryz.prog (Instr.mapUpdate 47 (.map (some b)) (.string ⟨#[73, 78, 59, 32, 76, 79, 65, 68, 32, 49, 59, 32, 77, 85, 76, 59, 32, 69, 77, 73, 84, 59, 32, 72, 65, 76, 84, 59, 32, 73, 78]⟩) (vals5 p q r s b3 11)) w = .ok () w' := hrun
    simp [hrun', Result.andThen, go_sem]
    exact hR'
  · cases ho
    unfold Oper.wp
    simp [execOp, Act.eval, e3, e4, vals5, go_sem, k30, k31, k40, k41]
    exact hRR.out.step hL 13 43 (by decide) hnl (Grew.refl w)
  · cases ho
    have e43 := HF.out (13, 43) (by decide) (hdep 13 (by decide))
    unfold Oper.wp
    simp [execOp, Act.eval, e3, e4, e43, vals5, go_sem, k30, k31, k40, k41]
    exact hRR.out.step hL 14 44 (by decide) hnl (Grew.refl w)
  · cases ho
    have e44 := HF.out (14, 44) (by decide) (hdep 14 (by decide))
    unfold Oper.wp
    simp [execOp, Act.eval, e3, e4, e44, vals5, go_sem, k30, k31, k40, k41]
    exact hRR.out.step hL 15 45 (by decide) hnl (Grew.refl w)
  · cases ho
    unfold Oper.wp
    simp [execOp, Act.eval, e3, e4, vals5, go_sem, k30, k31, k40, k41]
    exact hRR.out.step hL 16 46 (by decide) hnl (Grew.refl w)
  · cases ho
    have e46 := HF.out (16, 46) (by decide) (hdep 16 (by decide))
    unfold Oper.wp
    simp [execOp, Act.eval, e3, e4, e46, vals5, go_sem, k30, k31, k40, k41]
    exact hRR.out.step hL 17 47 (by decide) hnl (Grew.refl w)
  · cases ho
    have e45 := HF.out (15, 45) (by decide) (hdep 15 (by decide))
    have e47 := HF.out (17, 47) (by decide) (hdep 17 (by decide))
    unfold Oper.wp
    simp [execOp, Act.eval, e45, e47, vals5, go_sem]
    refine (refOf_any _ _ w).mono ?_
    rintro e w' ⟨rfl, R9, n9, rfl⟩
    exact hRR.out.step hL 18 48 (by decide) hnl ((Grew.refl w).more _ _)
  · cases ho
    have e48 := HF.out (18, 48) (by decide) (hdep 18 (by decide))
    obtain ⟨b, e33, w', hrun, hR'⟩ := hRR.out.insert hL (keys5 p q r s) (size5 p q r s) 19 (by decide) hnl (hdep 0 (by decide))
    unfold Oper.wp
    simp [execOp, Act.eval, e33, e48]
    have hrun' : Sem.run Tryz.prog (Instr.mapUpdate 47 (.map (some b)) (.string ⟨#[73, 78, 59, 32, 84, 85, 82, 78, 59, 32, 69, 77, 73, 84]⟩) (vals5 p q r s b3 18)) w = .ok () w' := hrun
    simp [hrun', Result.andThen, go_sem]
    exact hR'
  · cases ho
    unfold Oper.wp
    simp [execOp, Act.eval, e3, e4, vals5, go_sem, k30, k31, k40, k41]
    exact hRR.out.step hL 20 49 (by decide) hnl (Grew.refl w)
  · cases ho
    have e49 := HF.out (20, 49) (by decide) (hdep 20 (by decide))
    unfold Oper.wp
    simp [execOp, Act.eval, e3, e4, e49, vals5, go_sem, k30, k31, k40, k41]
    exact hRR.out.step hL 21 50 (by decide) hnl (Grew.refl w)
  · cases ho
    unfold Oper.wp
    simp [execOp, Act.eval, e3, e4, vals5, go_sem, k30, k31, k40, k41]
    exact hRR.out.step hL 22 51 (by decide) hnl (Grew.refl w)
  · cases ho
    have e51 := HF.out (22, 51) (by decide) (hdep 22 (by decide))
    unfold Oper.wp
    simp [execOp, Act.eval, e3, e4, e51, vals5, go_sem, k30, k31, k40, k41]
    exact hRR.out.step hL 23 52 (by decide) hnl (Grew.refl w)
  · cases ho
    have e52 := HF.out (23, 52) (by decide) (hdep 23 (by decide))
    unfold Oper.wp
    simp [execOp, Act.eval, e3, e4, e52, vals5, go_sem, k30, k31, k40, k41]
    exact hRR.out.step hL 24 53 (by decide) hnl (Grew.refl w)
  · cases ho
    have e50 := HF.out (21, 50) (by decide) (hdep 21 (by decide))
    have e53 := HF.out (24, 53) (by decide) (hdep 24 (by decide))
    unfold Oper.wp
    simp [execOp, Act.eval, e50, e53, vals5, go_sem]
    refine (refOf_any _ _ w).mono ?_
    rintro e w' ⟨rfl, R9, n9, rfl⟩
    exact hRR.out.step hL 25 54 (by decide) hnl ((Grew.refl w).more _ _)
  · cases ho
    have e54 := HF.out (25, 54) (by decide) (hdep 25 (by decide))
    obtain ⟨b, e33, w', hrun, hR'⟩ := hRR.out.insert hL (keys5 p q r s) (size5 p q r s) 26 (by decide) hnl (hdep 0 (by decide))
    unfold Oper.wp
    simp [execOp, Act.eval, e33, e54]
    have hrun' : Sem.run Tryz.prog (Instr.mapUpdate 47 (.map (some b)) (.string ⟨#[74, 77, 80, 32, 49, 59, 32, 76, 79, 65, 68, 32, 48, 59, 32, 73, 78, 59, 32, 67, 79, 78, 74, 59, 32, 69, 77, 73, 84]⟩) (vals5 p q r s b3 25)) w = .ok () w' := hrun
    simp [hrun', Result.andThen, go_sem]
    exact hR'
  · cases ho
    obtain ⟨b, e33, hR'⟩ := hRR.out.move hL hnl (fun j hj => hdep j (by revert j; decide))
    unfold Oper.wp
    simp [execOp, Act.eval, e33, go_sem]
    exact hR'
  · cases ho
    obtain ⟨b, e55, w', hrun, hR'⟩ := hRR.out.range hL hnl (hdep 27 (by decide))
    unfold Oper.wp
    simp [execOp, Act.eval, e55, hrun, Result.andThen, go_sem]
    exact hR'
end Go.Proofs.YtiocdmfmghanmaaGreatDoor
