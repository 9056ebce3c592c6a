import Derived.Test.YtmnllmbchpebbaaGreatDoorGe30
import Derived.Test.YtmnllmbchpebbaaGreatDoorGe0
/-! lines: set. -/
namespace Go.Proofs.YtmnllmbchpebbaaGreatDoor
set_option linter.unusedSimpArgs false
set_option linter.unusedVariables false
open Go.RowKit Ga
set_option maxRecDepth 100000

def evC (v : Li.Ev) (rv kv : Value) : Array Value := #[.int .i64 v.kind, .int .i64 v.a, .int .i64 v.b, rv, .string ⟨v.plan.toArray⟩, kv, .int .i64 v.cut]
/-- what a letter sets -/
def setE (v : Li.Ev) (c : Nat) (s : List UInt8) : Li.Ev :=
  if c = 65 then { v with a := Co.atoiVal s } else if c = 66 then { v with b := Co.atoiVal s } else if c = 75 then { v with keep := Li.truthsP s } else { v with cut := Co.atoiVal s }
/-- an event in its block, with slices of the call's own -/
structure EvSt (base B : Nat) (W : World) (v : Li.Ev) (rv kv : Value) : Prop where
  h : W.heap[B]? = some (.cells (evC v rv kv) 27)
  r : OwnAt base 62 3 encRq W rv v.recs
  k : OwnAt base 4 1 encBo W kv v.keep
theorem EvSt.grew {base B : Nat} {W W' : World} {v : Li.Ev} {rv kv : Value} (h : EvSt base B W v rv kv) (g : Grew W W') : EvSt base B W' v rv kv := ⟨grew_heap g h.h, OwnAt.grew h.r g, OwnAt.grew h.k g⟩
theorem own_put {α : Type} {base B i : Nat} {e : TypeId} {k : Nat} {enc : α → List Value} {W : World} {v x : Value} {l : List α} {c : Array Value} {t : TypeId} (h : OwnAt base e k enc W v l) (hb : W.heap[B]? = some (.cells c t)) (hne : t ≠ e) : OwnAt base e k enc (W.setCell ⟨B, i, none⟩ x) v l :=
  OwnAt.same h fun q hq => set_other fun e1 => by subst e1; exact OwnAt.other h hb hne hq
theorem EvSt.put {base B i : Nat} {W : World} {v v' : Li.Ev} {rv kv x : Value} (h : EvSt base B W v rv kv) (e : (evC v rv kv).setIfInBounds i x = evC v' rv kv) (hr : v'.recs = v.recs) (hk : v'.keep = v.keep) : EvSt base B (W.setCell ⟨B, i, none⟩ x) v' rv kv :=
  ⟨by rw [set_self h.h, e], by rw [hr]; exact own_put h.r h.h (by decide), by rw [hk]; exact own_put h.k h.h (by decide)⟩
theorem EvSt.putK {base B : Nat} {W : World} {v : Li.Ev} {rv kv x : Value} {l : List Bool} (h : EvSt base B W v rv kv) (o : OwnAt base 4 1 encBo W x l) : EvSt base B (W.setCell ⟨B, 5, none⟩ x) { v with keep := l } rv x :=
  ⟨by rw [set_self h.h]; rfl, own_put h.r h.h (by decide), own_put o h.h (by decide)⟩
theorem Keep.setAny {w : World} {B i : Nat} {v : Value} : Keep B w (w.setCell ⟨B, i, none⟩ v) := ⟨by simp [World.size_setCell], fun q _ hn => set_other fun e => hn e.symm⟩
/-- what set leaves -/
def SetPost (base B : Nat) (W : World) (v' : Li.Ev) (rv : Value) (e : Ending) (W' : World) : Prop := e = .returned (.tuple #[]) ∧ (∃ kv, EvSt base B W' v' rv kv) ∧ Keep B W W' ∧ ∀ w0 : World, Grew w0 W → w0.heap.size ≤ B → Grew w0 W'
set_option maxHeartbeats 8000000 in
theorem set_any (base B : Nat) (c : Nat) (s : List UInt8) (hs : s.length ≤ 100000) (w : World) (hV : EnvEv w) (v : Li.Ev) (rv kv : Value) (h : EvSt base B w v rv kv) (hb : base ≤ w.heap.size) (hc : c = 65 ∨ c = 66 ∨ c = 75 ∨ c = 67) : Calls Tryz.prog 59 #[.pointer (some ⟨B, 0, none⟩), .int .i32 c, .string ⟨s.toArray⟩] w (SetPost base B w (setE v c s) rv) := by
  have HA := Lib.hid fun W (q : Grew w W) => atoiL_any s (by omega) W (hV.l.e.grew q)
  have HT := Lib.hid fun W => truths_any s hs W
  have e65 : setE v 65 s = { v with a := Co.atoiVal s } := rfl
  have e66 : setE v 66 s = { v with b := Co.atoiVal s } := rfl
  have e75 : setE v 75 s = { v with keep := Li.truthsP s } := rfl
  have e67 : setE v 67 s = { v with cut := Co.atoiVal s } := rfl
  have HH := Lib.hid h
  have HB := Lib.hid hb
  clear h hb hV
  rcases hc with rfl | rfl | rfl | rfl
  · rw [e65]
    clear e65 e66 e75 e67
    generalize Co.atoiVal s = x at *
    go_enter Tryz.func59, Tryz.ntmps59
    go_wp2_with fail
    refine (HA.out _ (by repeat (first | with_reducible exact Grew.refl _ | apply Grew.more | apply Grew.alloc | apply Grew.drew | apply Grew.drewN))).mono ?_
    rintro e w1 ⟨v1, rfl, R1, n1, rfl⟩
    have H1 := Lib.hid (HH.out.grew (show Grew w (w.more R1 n1) from ⟨_, _, rfl⟩))
    have c0 := cell_of (o := 1) H1.out.h
    have f0 := frozen_of (o := 1) H1.out.h
    have p0 := Pre.mk (heap_lt H1.out.h)
    simp [evC] at c0
    go_wp2
    refine bodyPost_end (v := .tuple #[]) (by simp [results, Tryz.results59, go_sem]) rfl ⟨rfl, ⟨kv, H1.out.put rfl rfl rfl⟩, (Keep.ofGrew (by repeat (first | with_reducible exact Grew.refl _ | apply Grew.more | apply Grew.alloc | apply Grew.drew | apply Grew.drewN))).trans Keep.setAny, fun w0 g hB => Grew.set (g.trans (by repeat (first | with_reducible exact Grew.refl _ | apply Grew.more | apply Grew.alloc | apply Grew.drew | apply Grew.drewN))) hB _⟩
  · rw [e66]
    clear e65 e66 e75 e67
    generalize Co.atoiVal s = x at *
    go_enter Tryz.func59, Tryz.ntmps59
    go_wp2_with fail
    refine (HA.out _ (by repeat (first | with_reducible exact Grew.refl _ | apply Grew.more | apply Grew.alloc | apply Grew.drew | apply Grew.drewN))).mono ?_
    rintro e w1 ⟨v1, rfl, R1, n1, rfl⟩
    have H1 := Lib.hid (HH.out.grew (show Grew w (w.more R1 n1) from ⟨_, _, rfl⟩))
    have c0 := cell_of (o := 2) H1.out.h
    have f0 := frozen_of (o := 2) H1.out.h
    have p0 := Pre.mk (heap_lt H1.out.h)
    simp [evC] at c0
    go_wp2
    refine bodyPost_end (v := .tuple #[]) (by simp [results, Tryz.results59, go_sem]) rfl ⟨rfl, ⟨kv, H1.out.put rfl rfl rfl⟩, (Keep.ofGrew (by repeat (first | with_reducible exact Grew.refl _ | apply Grew.more | apply Grew.alloc | apply Grew.drew | apply Grew.drewN))).trans Keep.setAny, fun w0 g hB => Grew.set (g.trans (by repeat (first | with_reducible exact Grew.refl _ | apply Grew.more | apply Grew.alloc | apply Grew.drew | apply Grew.drewN))) hB _⟩
  · rw [e75]
    clear e65 e66 e75 e67
    generalize Co.atoiVal s = x at *
    generalize Li.truthsP s = tr at *
    go_enter Tryz.func59, Tryz.ntmps59
    go_wp2_with fail
    refine (HA.out _ (by repeat (first | with_reducible exact Grew.refl _ | apply Grew.more | apply Grew.alloc | apply Grew.drew | apply Grew.drewN))).mono ?_
    rintro e w1 ⟨v1, rfl, R1, n1, rfl⟩
    go_wp2_with fail
    refine (HT.out _).mono ?_
    rintro e w2 ⟨v2, rfl, o2, R2, n2, rfl⟩
    have H1 := Lib.hid (HH.out.grew (show Grew w ((w.more R1 n1).more R2 n2) from by repeat (first | with_reducible exact Grew.refl _ | apply Grew.more | apply Grew.alloc | apply Grew.drew | apply Grew.drewN)))
    have O2 := Lib.hid (OwnAt.low o2 (show base ≤ (w.more R1 n1).heap.size by have := HB.out; rw [World.more_size]; omega))
    clear o2
    have c0 := cell_of (o := 5) H1.out.h
    have f0 := frozen_of (o := 5) H1.out.h
    have p0 := Pre.mk (heap_lt H1.out.h)
    simp [evC] at c0
    obtain ⟨a2, l2, rfl⟩ := (OwnAt.rows O2.out encBo_len).len
    go_wp2
    refine bodyPost_end (v := .tuple #[]) (by simp [results, Tryz.results59, go_sem]) rfl ⟨rfl, ⟨_, H1.out.putK O2.out⟩, (Keep.ofGrew (by repeat (first | with_reducible exact Grew.refl _ | apply Grew.more | apply Grew.alloc | apply Grew.drew | apply Grew.drewN))).trans Keep.setAny, fun w0 g hB => Grew.set (g.trans (by repeat (first | with_reducible exact Grew.refl _ | apply Grew.more | apply Grew.alloc | apply Grew.drew | apply Grew.drewN))) hB _⟩
  · rw [e67]
    clear e65 e66 e75 e67
    generalize Co.atoiVal s = x at *
    go_enter Tryz.func59, Tryz.ntmps59
    go_wp2_with fail
    refine (HA.out _ (by repeat (first | with_reducible exact Grew.refl _ | apply Grew.more | apply Grew.alloc | apply Grew.drew | apply Grew.drewN))).mono ?_
    rintro e w1 ⟨v1, rfl, R1, n1, rfl⟩
    have H1 := Lib.hid (HH.out.grew (show Grew w (w.more R1 n1) from ⟨_, _, rfl⟩))
    have c0 := cell_of (o := 6) H1.out.h
    have f0 := frozen_of (o := 6) H1.out.h
    have p0 := Pre.mk (heap_lt H1.out.h)
    simp [evC] at c0
    go_wp2
    refine bodyPost_end (v := .tuple #[]) (by simp [results, Tryz.results59, go_sem]) rfl ⟨rfl, ⟨kv, H1.out.put rfl rfl rfl⟩, (Keep.ofGrew (by repeat (first | with_reducible exact Grew.refl _ | apply Grew.more | apply Grew.alloc | apply Grew.drew | apply Grew.drewN))).trans Keep.setAny, fun w0 g hB => Grew.set (g.trans (by repeat (first | with_reducible exact Grew.refl _ | apply Grew.more | apply Grew.alloc | apply Grew.drew | apply Grew.drewN))) hB _⟩
end Go.Proofs.YtmnllmbchpebbaaGreatDoor

/-! forebaylaw27.awake. -/
namespace Go.Proofs.YtmnllmbchpebbaaGreatDoor
set_option linter.unusedSimpArgs false
set_option linter.unusedVariables false
open Go.RowKit Ga
set_option maxRecDepth 100000

theorem told_S2 : Li.Told S2 := by
  refine ⟨by decide, by decide +kernel, fun _ => ?_, rfl⟩
  decide +kernel
theorem plan_S2 : Li.planT [S2] = stL := by
  rw [Li.planT_some ⟨by decide, by decide, fun s hs => by rw [List.mem_singleton] at hs; subst hs; exact told_S2⟩]
  decide +kernel
theorem parse_S2 : Li.parseP stL = ([S2], 0) := by
  have h := Li.parseP_plan (p := [S2]) (fun s hs => by rw [List.mem_singleton] at hs; subst hs; rfl) (by rw [plan_S2]; decide)
  rwa [plan_S2] at h
theorem S2_lit {W : World} {d : StC} (h : StepIs W d S2) : ∃ af cf ap cp, d = ⟨2, ⟨2, 2, af, 1, cf, ap, 0, cp, 1, 0, 0, 0, 0, 0, 0, 0, 0⟩, false⟩ := by
  obtain ⟨kd, rs, id, kind, af, cf, ap, cp, par, r0, r1, r2, r3, r4, r5, r6, r7, rfl⟩ := h.lit
  have e1 := h.kind
  have e2 := h.reset
  have e3 := h.nd.id
  have e4 := h.nd.kind
  have e5 := h.nd.par
  have e6 := h.nd.route
  simp [S2, N2, List.replicate] at e1 e2 e3 e4 e5 e6
  obtain ⟨rfl, rfl, rfl, rfl, rfl, rfl, rfl, rfl⟩ := e6
  subst e1 e2 e3 e4 e5
  exact ⟨af, cf, ap, cp, rfl⟩
set_option maxHeartbeats 8000000 in
theorem awake27_any (w : World) (hV : Env27 w) : Calls Tryz.prog 4 #[] w (Gives (.bool true) w) := by
  have hp := parsePlan_any stL (by decide) w hV
  rw [parse_S2] at hp
  have HP := Lib.hid hp
  have HL := Lib.hid fun W (q : Grew w W) v (hv : StepsAt W v [S2]) => linesPlan_any v [S2] W (hV.p.grew q) (hV.a.grew q) hv
  rw [plan_S2] at HL
  clear hV hp
  go_enter Tryz.func4, Tryz.ntmps4
  show Code.wp _ _ _ _ _
  go_wp2_with fail
  refine HP.out.mono ?_
  rintro e w1 ⟨v, rfl, hv, R1, n1, rfl⟩
  have HV := Lib.hid hv
  obtain ⟨a, cap, rfl, -, hx⟩ := hv.openC
  obtain ⟨b, off, c, rfl, hb, hs, g0, g1, g2, g3, g4, g5, -⟩ := hx 0 (by decide)
  obtain ⟨af, cf, ap, cp, rfl⟩ := S2_lit hs
  simp only [Nat.zero_mul, Nat.add_zero] at g0 g1 g5
  clear hv hx hs g2 g3 g4
  go_wp2_with (go_at_call 10; refine (HL.out _ (by repeat (first | with_reducible exact Grew.refl _ | apply Grew.more | apply Grew.alloc | apply Grew.drew | apply Grew.drewN)) _ (HV.out.grew (by repeat (first | with_reducible exact Grew.refl _ | apply Grew.more | apply Grew.alloc | apply Grew.drew | apply Grew.drewN)))).mono ?_; rintro e w2 ⟨rfl, R3, n3, rfl⟩)
  go_ret
  exact ⟨rfl, by repeat (first | with_reducible exact Grew.refl _ | apply Grew.more | apply Grew.alloc | apply Grew.drew | apply Grew.drewN)⟩
end Go.Proofs.YtmnllmbchpebbaaGreatDoor
