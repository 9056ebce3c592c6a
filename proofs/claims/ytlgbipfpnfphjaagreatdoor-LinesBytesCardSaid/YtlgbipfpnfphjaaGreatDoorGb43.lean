import Derived.Test.YtlgbipfpnfphjaaGreatDoorGb40
import Derived.Test.YtlgbipfpnfphjaaGreatDoorGb0
/-! lines: set. -/
namespace Go.Proofs.YtlgbipfpnfphjaaGreatDoor
set_option linter.unusedSimpArgs false
set_option linter.unusedVariables false
open Go.RowKit Ga
set_option maxRecDepth 100000

def evC (v : Li.Ev) (rv kv : Value) : Array Value := #[.int .i64 v.kind, .int .i64 v.a, .int .i64 v.b, rv, .string ⟨v.plan.toArray⟩, kv, .int .i64 v.cut]
/-- what a letter sets -/
def setE (v : Li.Ev) (c : Nat) (s : List UInt8) : Li.Ev :=
  if c = 65 then { v with a := Co.atoiVal s } else if c = 66 then { v with b := Co.atoiVal s } else if c = 75 then { v with keep := Li.truthsP s } else { v with cut := Co.atoiVal s }
/-- an event in its block, with slices of the call's own -/
structure EvSt (base B : Nat) (W : World) (v : Li.Ev) (rv kv : Value) : Prop where
  h : W.heap[B]? = some (.cells (evC v rv kv) 27)
  r : OwnAt base 67 3 encRq W rv v.recs
  k : OwnAt base 4 1 encBo W kv v.keep
theorem EvSt.grew {base B : Nat} {W W' : World} {v : Li.Ev} {rv kv : Value} (h : EvSt base B W v rv kv) (g : Grew W W') : EvSt base B W' v rv kv := ⟨grew_heap g h.h, OwnAt.grew h.r g, OwnAt.grew h.k g⟩
theorem own_put {α : Type} {base B i : Nat} {e : TypeId} {k : Nat} {enc : α → List Value} {W : World} {v x : Value} {l : List α} {c : Array Value} {t : TypeId} (h : OwnAt base e k enc W v l) (hb : W.heap[B]? = some (.cells c t)) (hne : t ≠ e) : OwnAt base e k enc (W.setCell ⟨B, i, none⟩ x) v l :=
  OwnAt.same h fun q hq => set_other fun e1 => by subst e1; exact OwnAt.other h hb hne hq
theorem EvSt.put {base B i : Nat} {W : World} {v v' : Li.Ev} {rv kv x : Value} (h : EvSt base B W v rv kv) (e : (evC v rv kv).setIfInBounds i x = evC v' rv kv) (hr : v'.recs = v.recs) (hk : v'.keep = v.keep) : EvSt base B (W.setCell ⟨B, i, none⟩ x) v' rv kv :=
  ⟨by rw [set_self h.h, e], by rw [hr]; exact own_put h.r h.h (by decide), by rw [hk]; exact own_put h.k h.h (by decide)⟩
theorem EvSt.putK {base B : Nat} {W : World} {v : Li.Ev} {rv kv x : Value} {l : List Bool} (h : EvSt base B W v rv kv) (o : OwnAt base 4 1 encBo W x l) : EvSt base B (W.setCell ⟨B, 5, none⟩ x) { v with keep := l } rv x :=
  ⟨by rw [set_self h.h]; rfl, own_put h.r h.h (by decide), own_put o h.h (by decide)⟩
theorem Keep.setAny {w : World} {B i : Nat} {v : Value} : Keep B w (w.setCell ⟨B, i, none⟩ v) := ⟨by simp [World.size_setCell], fun q _ hn => set_other fun e => hn e.symm⟩
/-- what set leaves -/
def SetPost (base B : Nat) (W : World) (v' : Li.Ev) (rv : Value) (e : Ending) (W' : World) : Prop := e = .returned (.tuple #[]) ∧ (∃ kv, EvSt base B W' v' rv kv) ∧ Keep B W W' ∧ ∀ w0 : World, Grew w0 W → w0.heap.size ≤ B → Grew w0 W'
set_option maxHeartbeats 8000000 in
theorem set_any (base B : Nat) (c : Nat) (s : List UInt8) (hs : s.length ≤ 100000) (w : World) (hV : EnvEv w) (v : Li.Ev) (rv kv : Value) (h : EvSt base B w v rv kv) (hb : base ≤ w.heap.size) (hc : c = 65 ∨ c = 66 ∨ c = 75 ∨ c = 67) : Calls Tryz.prog 68 #[.pointer (some ⟨B, 0, none⟩), .int .i32 c, .string ⟨s.toArray⟩] w (SetPost base B w (setE v c s) rv) := by
  have HA := Lib.hid fun W (q : Grew w W) => atoiL_any s (by omega) W (hV.l.e.grew q)
  have HT := Lib.hid fun W => truths_any s hs W
  have e65 : setE v 65 s = { v with a := Co.atoiVal s } := rfl
  have e66 : setE v 66 s = { v with b := Co.atoiVal s } := rfl
  have e75 : setE v 75 s = { v with keep := Li.truthsP s } := rfl
  have e67 : setE v 67 s = { v with cut := Co.atoiVal s } := rfl
  have HH := Lib.hid h
  have HB := Lib.hid hb
  clear h hb hV
  rcases hc with rfl | rfl | rfl | rfl
  · rw [e65]
    clear e65 e66 e75 e67
    generalize Co.atoiVal s = x at *
    go_enter Tryz.func68, Tryz.ntmps68
    go_wp2_with fail
    refine (HA.out _ (by repeat (first | with_reducible exact Grew.refl _ | apply Grew.more | apply Grew.alloc | apply Grew.drew | apply Grew.drewN))).mono ?_
    rintro e w1 ⟨v1, rfl, R1, n1, rfl⟩
    have H1 := Lib.hid (HH.out.grew (show Grew w (w.more R1 n1) from ⟨_, _, rfl⟩))
    have c0 := cell_of (o := 1) H1.out.h
    have f0 := frozen_of (o := 1) H1.out.h
    have p0 := Pre.mk (heap_lt H1.out.h)
    simp [evC] at c0
    go_wp2
    refine bodyPost_end (v := .tuple #[]) (by simp [results, Tryz.results68, go_sem]) rfl ⟨rfl, ⟨kv, H1.out.put rfl rfl rfl⟩, (Keep.ofGrew (by repeat (first | with_reducible exact Grew.refl _ | apply Grew.more | apply Grew.alloc | apply Grew.drew | apply Grew.drewN))).trans Keep.setAny, fun w0 g hB => Grew.set (g.trans (by repeat (first | with_reducible exact Grew.refl _ | apply Grew.more | apply Grew.alloc | apply Grew.drew | apply Grew.drewN))) hB _⟩
  · rw [e66]
    clear e65 e66 e75 e67
    generalize Co.atoiVal s = x at *
    go_enter Tryz.func68, Tryz.ntmps68
    go_wp2_with fail
    refine (HA.out _ (by repeat (first | with_reducible exact Grew.refl _ | apply Grew.more | apply Grew.alloc | apply Grew.drew | apply Grew.drewN))).mono ?_
    rintro e w1 ⟨v1, rfl, R1, n1, rfl⟩
    have H1 := Lib.hid (HH.out.grew (show Grew w (w.more R1 n1) from ⟨_, _, rfl⟩))
    have c0 := cell_of (o := 2) H1.out.h
    have f0 := frozen_of (o := 2) H1.out.h
    have p0 := Pre.mk (heap_lt H1.out.h)
    simp [evC] at c0
    go_wp2
    refine bodyPost_end (v := .tuple #[]) (by simp [results, Tryz.results68, go_sem]) rfl ⟨rfl, ⟨kv, H1.out.put rfl rfl rfl⟩, (Keep.ofGrew (by repeat (first | with_reducible exact Grew.refl _ | apply Grew.more | apply Grew.alloc | apply Grew.drew | apply Grew.drewN))).trans Keep.setAny, fun w0 g hB => Grew.set (g.trans (by repeat (first | with_reducible exact Grew.refl _ | apply Grew.more | apply Grew.alloc | apply Grew.drew | apply Grew.drewN))) hB _⟩
  · rw [e75]
    clear e65 e66 e75 e67
    generalize Co.atoiVal s = x at *
    generalize Li.truthsP s = tr at *
    go_enter Tryz.func68, Tryz.ntmps68
    go_wp2_with fail
    refine (HA.out _ (by repeat (first | with_reducible exact Grew.refl _ | apply Grew.more | apply Grew.alloc | apply Grew.drew | apply Grew.drewN))).mono ?_
    rintro e w1 ⟨v1, rfl, R1, n1, rfl⟩
    go_wp2_with fail
    refine (HT.out _).mono ?_
    rintro e w2 ⟨v2, rfl, o2, R2, n2, rfl⟩
    have H1 := Lib.hid (HH.out.grew (show Grew w ((w.more R1 n1).more R2 n2) from by repeat (first | with_reducible exact Grew.refl _ | apply Grew.more | apply Grew.alloc | apply Grew.drew | apply Grew.drewN)))
    have O2 := Lib.hid (OwnAt.low o2 (show base ≤ (w.more R1 n1).heap.size by have := HB.out; rw [World.more_size]; omega))
    clear o2
    have c0 := cell_of (o := 5) H1.out.h
    have f0 := frozen_of (o := 5) H1.out.h
    have p0 := Pre.mk (heap_lt H1.out.h)
    simp [evC] at c0
    obtain ⟨a2, l2, rfl⟩ := (OwnAt.rows O2.out encBo_len).len
    go_wp2
    refine bodyPost_end (v := .tuple #[]) (by simp [results, Tryz.results68, go_sem]) rfl ⟨rfl, ⟨_, H1.out.putK O2.out⟩, (Keep.ofGrew (by repeat (first | with_reducible exact Grew.refl _ | apply Grew.more | apply Grew.alloc | apply Grew.drew | apply Grew.drewN))).trans Keep.setAny, fun w0 g hB => Grew.set (g.trans (by repeat (first | with_reducible exact Grew.refl _ | apply Grew.more | apply Grew.alloc | apply Grew.drew | apply Grew.drewN))) hB _⟩
  · rw [e67]
    clear e65 e66 e75 e67
    generalize Co.atoiVal s = x at *
    go_enter Tryz.func68, Tryz.ntmps68
    go_wp2_with fail
    refine (HA.out _ (by repeat (first | with_reducible exact Grew.refl _ | apply Grew.more | apply Grew.alloc | apply Grew.drew | apply Grew.drewN))).mono ?_
    rintro e w1 ⟨v1, rfl, R1, n1, rfl⟩
    have H1 := Lib.hid (HH.out.grew (show Grew w (w.more R1 n1) from ⟨_, _, rfl⟩))
    have c0 := cell_of (o := 6) H1.out.h
    have f0 := frozen_of (o := 6) H1.out.h
    have p0 := Pre.mk (heap_lt H1.out.h)
    simp [evC] at c0
    go_wp2
    refine bodyPost_end (v := .tuple #[]) (by simp [results, Tryz.results68, go_sem]) rfl ⟨rfl, ⟨kv, H1.out.put rfl rfl rfl⟩, (Keep.ofGrew (by repeat (first | with_reducible exact Grew.refl _ | apply Grew.more | apply Grew.alloc | apply Grew.drew | apply Grew.drewN))).trans Keep.setAny, fun w0 g hB => Grew.set (g.trans (by repeat (first | with_reducible exact Grew.refl _ | apply Grew.more | apply Grew.alloc | apply Grew.drew | apply Grew.drewN))) hB _⟩
end Go.Proofs.YtlgbipfpnfphjaaGreatDoor
