import Derived.Test.YtmnllmbchpebbaaGreatDoorGe30
/-! lines: bare. -/
namespace Go.Proofs.YtmnllmbchpebbaaGreatDoor
set_option linter.unusedSimpArgs false
set_option linter.unusedVariables false
open Go.RowKit Ga
set_option maxRecDepth 100000

theorem ints_three (w : World) (a b c : Int) (B : Nat) (hB : B = w.heap.size) : IntsAt (w.alloc (.cells #[.int .i64 a, .int .i64 b, .int .i64 c] 3)) (.slice (some ⟨B, 0, none⟩) 3 3) [a, b, c] :=
  OwnAt.rows (OwnAt.fresh (base := w.heap.size) (k := 1) (enc := encN) (l := [a, b, c]) (t := 3) rfl rfl rfl (by simp [maxLen]) encN_len hB (by omega) rfl) encN_len
theorem lt_cell {w W : World} {A : Obj} {x : List UInt8} {t : TypeId} (g : Grew ((w.alloc A).alloc (.cells #[.string ⟨x.toArray⟩] t)) W) : W.cell? ⟨w.heap.size + 1, 0, none⟩ = some (.string ⟨x.toArray⟩) :=
  cell_grew ((cell_of (o := 0) (heap_new_at (w.alloc A) _ _ (by simp [go_sem]))).trans rfl) g
noncomputable def bareL (lt : List UInt8) (v : Li.Ev) : Bool :=
  [v.a, v.b, v.cut].all Li.num && (decide (v.recs.length ≤ 60) && (decide (v.keep.length ≤ 60) && ((hasB lt 65 || decide (v.a = 0)) && ((hasB lt 66 || decide (v.b = 0)) && ((hasB lt 67 || (decide (v.cut = 0) && decide (v.keep.length = 0))) && ((hasB lt 82 || decide (v.recs.length = 0)) && ((hasB lt 80 || v.plan.isEmpty) && ((!hasB lt 80 || !(Li.planT (gpL v.plan).1).isEmpty) && v.recs.all okRq))))))))
def hasOf (lt : List UInt8) (qA qB qC qR qP : Bool) : Prop := hasB lt 65 = qA ∧ hasB lt 66 = qB ∧ hasB lt 67 = qC ∧ hasB lt 82 = qR ∧ hasB lt 80 = qP
set_option maxHeartbeats 32000000 in
theorem bare_any (v : Li.Ev) (rv kv : Value) (lt : List UInt8) (qA qB qC qR qP : Bool) (w : World) (hP : Pow w) (hA : Asc w) (hE : EvIs w v rv kv) (hp : v.plan.length ≤ 100000) (hL : hasOf lt qA qB qC qR qP)
    (hq : (qA, qB, qC, qR, qP) ∈ [(false, false, false, true, false), (false, false, false, false, true), (false, false, false, false, false), (true, false, false, false, false), (true, true, false, false, false), (false, false, true, false, false)]) :
    Calls Tryz.prog 12 #[evV v rv kv, .string ⟨lt.toArray⟩] w (Gives (.bool (bareL lt v)) w) := by
  obtain ⟨l1, l2, l3, l4, l5⟩ := hL
  have HN := Lib.hid fun W b (hb : b = W.heap.size) => num_any _ [v.a, v.b, v.cut] _ (ints_three W v.a v.b v.cut b hb)
  have H1 := Lib.hid fun W A (q : Grew ((w.alloc A).alloc (.cells #[.string ⟨lt.toArray⟩] 9)) W) => l1 ▸ bare1_any lt 65 (w.heap.size + 1) W (lt_cell q)
  have H2 := Lib.hid fun W A (q : Grew ((w.alloc A).alloc (.cells #[.string ⟨lt.toArray⟩] 9)) W) => l2 ▸ bare1_any lt 66 (w.heap.size + 1) W (lt_cell q)
  have H3 := Lib.hid fun W A (q : Grew ((w.alloc A).alloc (.cells #[.string ⟨lt.toArray⟩] 9)) W) => l3 ▸ bare1_any lt 67 (w.heap.size + 1) W (lt_cell q)
  have H4 := Lib.hid fun W A (q : Grew ((w.alloc A).alloc (.cells #[.string ⟨lt.toArray⟩] 9)) W) => l4 ▸ bare1_any lt 82 (w.heap.size + 1) W (lt_cell q)
  have H5 := Lib.hid fun W A (q : Grew ((w.alloc A).alloc (.cells #[.string ⟨lt.toArray⟩] 9)) W) => l5 ▸ bare1_any lt 80 (w.heap.size + 1) W (lt_cell q)
  have HR := Lib.hid fun W (q : Grew w W) => hasRq_any rv v.recs W (RowsAt.grew hE.r q)
  have HL := Lib.hid fun W (q : Grew w W) => planned_any v.plan hp W (hP.grew q) (hA.grew q)
  obtain ⟨ra, rc, e1, m1, -⟩ := rq_open hE.r
  obtain ⟨ka, kc, e2, m2, -⟩ := bools_open hE.k
  subst e1 e2
  unfold bareL gpL
  rw [l1, l2, l3, l4, l5]
  clear hP hA hE hp l1 l2 l3 l4 l5
  obtain ⟨kind, a, b, recs, plan, keep, ct⟩ := v
  simp only [evV] at *
  generalize Li.planT (Gr.getPl getL plan).1 = pt at *
  generalize recs.all okRq = qr at *
  generalize [a, b, ct].all Li.num = qn at *
  replace HR : Hid (∀ n, n = recs.length → ∀ W, Grew w W → Calls Tryz.prog 32 #[.slice ra n rc, .func (.func 28) #[] #[]] W (Gives (.bool (!qr)) W)) := Lib.hid fun n e => by subst e; exact HR.out
  generalize recs.length = rl at *
  generalize keep.length = kl at *
  simp only [List.mem_cons, List.mem_nil_iff, or_false, Prod.mk.injEq] at hq
  rcases hq with ⟨rfl, rfl, rfl, rfl, rfl⟩ | ⟨rfl, rfl, rfl, rfl, rfl⟩ | ⟨rfl, rfl, rfl, rfl, rfl⟩ | ⟨rfl, rfl, rfl, rfl, rfl⟩ | ⟨rfl, rfl, rfl, rfl, rfl⟩ | ⟨rfl, rfl, rfl, rfl, rfl⟩
  all_goals
    go_enter Tryz.func12, Tryz.ntmps12
    go_wp2_with fail
    refine (HN.out _ _ (by simp [go_sem])).mono ?_
    rintro e w1 ⟨rfl, R1, n1, rfl⟩
    go_wp2_with (first
      | (go_at_call 26; (first | (with_reducible refine (H1.out _ _ (by repeat (first | with_reducible exact Grew.refl _ | apply Grew.more | apply Grew.alloc | apply Grew.drew | apply Grew.drewN))).mono ?_) | (with_reducible refine (H2.out _ _ (by repeat (first | with_reducible exact Grew.refl _ | apply Grew.more | apply Grew.alloc | apply Grew.drew | apply Grew.drewN))).mono ?_) | (with_reducible refine (H3.out _ _ (by repeat (first | with_reducible exact Grew.refl _ | apply Grew.more | apply Grew.alloc | apply Grew.drew | apply Grew.drewN))).mono ?_) | (with_reducible refine (H4.out _ _ (by repeat (first | with_reducible exact Grew.refl _ | apply Grew.more | apply Grew.alloc | apply Grew.drew | apply Grew.drewN))).mono ?_) | (with_reducible refine (H5.out _ _ (by repeat (first | with_reducible exact Grew.refl _ | apply Grew.more | apply Grew.alloc | apply Grew.drew | apply Grew.drewN))).mono ?_)); rintro e w2 ⟨rfl, R2, n2, rfl⟩)
      | (go_at_call 31; refine (HL.out _ (by repeat (first | with_reducible exact Grew.refl _ | apply Grew.more | apply Grew.alloc | apply Grew.drew | apply Grew.drewN))).mono ?_; rintro e w2 ⟨rfl, R2, n2, rfl⟩)
      | (go_at_call 32; refine (HR.out _ (by first | rfl | omega | (simp_all; done)) _ (by repeat (first | with_reducible exact Grew.refl _ | apply Grew.more | apply Grew.alloc | apply Grew.drew | apply Grew.drewN))).mono ?_; rintro e w2 ⟨rfl, R2, n2, rfl⟩))
  all_goals
    go_ret
    all_goals exact ⟨ret_bool (by first | (simp_all; done) | grind), by repeat (first | with_reducible exact Grew.refl _ | apply Grew.more | apply Grew.alloc | apply Grew.drew | apply Grew.drewN)⟩
end Go.Proofs.YtmnllmbchpebbaaGreatDoor
