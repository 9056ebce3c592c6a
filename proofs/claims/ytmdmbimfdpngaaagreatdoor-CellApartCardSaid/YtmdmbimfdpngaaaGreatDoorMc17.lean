import Derived.Test.YtmdmbimfdpngaaaGreatDoorMc15
import Derived.Test.YtmdmbimfdpngaaaGreatDoorMc16
import Derived.Test.YtmdmbimfdpngaaaGreatDoorMc6
import Derived.Test.YtmdmbimfdpngaaaGreatDoorShelf
import Derived.Deep.RegionLaw
import Derived.Deep.RegionHeld3
import Derived.Lib.SlicesCompact
import Derived.Test.YtmdmbimfdpngaaaGreatDoorMc14
/-! slices.Clone at numbers and at instructions; graph.own. -/
namespace Go.Proofs.YtmdmbimfdpngaaaGreatDoor
set_option linter.unusedSimpArgs false
set_option linter.unusedVariables false
open Go.RowKit Ga
set_option maxRecDepth 100000

theorem heap_more_same {W W' : World} (hs : W.heap.size = W'.heap.size) (R : Array Obj) (n b : Nat) (hb : W.heap.size ≤ b) : (W'.more R n).heap[b]? = (W.more R n).heap[b]? := by
  rw [heap_more_in W R n b hb, heap_more_in W' R n b (by omega), hs]
/-- its slices lie behind 'base' -/
def OwnsNd (base : Nat) (w : World) (c : NdC) (n : Gr.Nd) : Prop := OwnAt base 3 1 encN w c.vf n.frm ∧ OwnAt base 124 2 encI w c.vp n.prog
theorem OwnAt.low {α : Type} {base base' : Nat} {e : TypeId} {k : Nat} {enc : α → List Value} {w : World} {v : Value} {l : List α} (h : OwnAt base e k enc w v l) (hb : base' ≤ base) : OwnAt base' e k enc w v l := by
  obtain ⟨h1, h2⟩ := h
  refine ⟨h1, ?_⟩
  rcases h2 with h | ⟨g, cap, cur, hv, h3, r⟩
  · exact .inl h
  · exact .inr ⟨g, cap, cur, hv, Nat.le_trans hb h3, r⟩
theorem OwnsNd.to {base : Nat} {w w' : World} {c : NdC} {n : Gr.Nd} (o : OwnsNd base w c n) (hb : ∀ b, base ≤ b → b < w.heap.size → w'.heap[b]? = w.heap[b]?) : OwnsNd base w' c n := by
  refine ⟨OwnAt.same o.1 fun b h => ?_, OwnAt.same o.2 fun b h => ?_⟩
  · obtain ⟨h1, _, h2⟩ := OwnAt.block o.1 h
    exact hb b h1 (heap_lt h2)
  · obtain ⟨h1, _, h2⟩ := OwnAt.block o.2 h
    exact hb b h1 (heap_lt h2)
theorem OwnsNd.is {base : Nat} {w w' : World} {c : NdC} {n : Gr.Nd} (o : OwnsNd base w' c n) (h : NodeIs w c n) : NodeIs w' c n :=
  { h with f := o.1.rows encN_len, p := o.2.rows encI_len }
theorem OwnsNd.low {base base' : Nat} {w : World} {c : NdC} {n : Gr.Nd} (o : OwnsNd base w c n) (hb : base' ≤ base) : OwnsNd base' w c n := ⟨OwnAt.low o.1 hb, OwnAt.low o.2 hb⟩
theorem OwnsNd.grew {base : Nat} {w w' : World} {c : NdC} {n : Gr.Nd} (o : OwnsNd base w c n) (g : Grew w w') : OwnsNd base w' c n := ⟨o.1.grew g, o.2.grew g⟩
theorem OwnAt.cap {α : Type} {base : Nat} {e : TypeId} {k : Nat} {enc : α → List Value} {w : World} {a : Option Addr} {n cap : Nat} {l : List α} (h : OwnAt base e k enc w (.slice a n cap) l) : l.length ≤ cap := by
  obtain ⟨h1, h2⟩ := h
  rcases h2 with ⟨h, h0⟩ | ⟨g, cap', cur, hv, hb, hh, hc, r⟩
  · rw [h0]; exact Nat.zero_le _
  · cases hv; exact hc
end Go.Proofs.YtmdmbimfdpngaaaGreatDoor

/-! slices.IndexFunc and ContainsFunc at numbers and at nodes; slices.Index and Contains at numbers. -/
namespace Go.Proofs.YtmdmbimfdpngaaaGreatDoor
set_option linter.unusedSimpArgs false
set_option linter.unusedVariables false
open Go.RowKit Ga
set_option maxRecDepth 100000

theorem containsI_any (v : Value) (l : List Int) (x : Int) (w : World) (hv : IntsAt w v l) : Calls Tryz.prog 51 #[v, .int .i64 x] w fun e w' => e = .returned (.bool (decide (x ∈ l))) ∧ w' = w := by
  obtain ⟨a, cap, rfl, hm, hx⟩ := ints_open hv
  cases l with
  | nil =>
    refine (Tryz.slices_Contains_int_empty a cap x w).mono fun e w' ⟨he, hw⟩ => ⟨?_, hw⟩
    rw [he]; simp
  | cons y l =>
    obtain ⟨b, off, h, _⟩ := hx 0 (by simp)
    cases h
    refine (Tryz.slices_Contains_int b off _ cap (y :: l) x w (Nat.le_refl _) (by omega) fun j hj => ?_).mono fun e w' ⟨he, hw⟩ => ⟨?_, hw⟩
    · obtain ⟨b', off', h, _, hc⟩ := hx j hj
      cases h
      rw [List.getD_eq_getElem?_getD, List.getElem?_eq_getElem hj]
      exact hc
    · rw [he, List.take_of_length_le (Nat.le_refl _)]
      simp

end Go.Proofs.YtmdmbimfdpngaaaGreatDoor

/-! graph.unlike: a list's numbers are unlike. -/
namespace Go.Proofs.YtmdmbimfdpngaaaGreatDoor
set_option linter.unusedSimpArgs false
set_option linter.unusedVariables false
open Go.RowKit Ga
set_option maxRecDepth 100000

theorem grewRow {α : Type} [Inhabited α] {enc : α → Value} {w0 W : World} (g : Grew w0 W) {b off : Nat} {d : Array α} (hb : w0.heap.size ≤ b) : Grew w0 (Sort.putRow enc W b off d) :=
  Grew.ofBelow (g.below.trans ⟨rfl, rfl, rfl, by rw [Sort.size_putRow]; exact Nat.le_refl _, fun k hk => by
    unfold Sort.putRow Sort.mapBlock
    simp only [Array.getElem?_modify]
    rw [if_neg (by omega)]⟩)
theorem grewAhead {w0 W : World} (g : Grew w0 W) (n : Nat) : Grew w0 (Sort.ahead W n) := g.drewN n
theorem grewOs {w0 W : World} (g : Grew w0 W) (os : Array Obj) : Grew w0 (Sort.grow W os) := g.more os W.drawn
end Go.Proofs.YtmdmbimfdpngaaaGreatDoor

/-! forebayref08.above. -/
namespace Go.Proofs.YtmdmbimfdpngaaaGreatDoor
set_option linter.unusedSimpArgs false
set_option linter.unusedVariables false
open Go.RowKit Ga
set_option maxRecDepth 100000

end Go.Proofs.YtmdmbimfdpngaaaGreatDoor

/-! Graphs: the nodes by their numbers: whatever sorts them makes the list that the document writes. -/
namespace Gr
set_option linter.unusedSimpArgs false
set_option linter.unusedVariables false

end Gr

/-! Graphs as bytes: what is written is read again, and what is read was written: plain laws. -/
namespace Gr
open Oc (be bes)
set_option linter.unusedSimpArgs false
set_option linter.unusedVariables false

section
variable (gp : List UInt8 → List Vm.Ins × Int × List UInt8) (pp : List Vm.Ins → List UInt8) (fits : List Vm.Ins → Prop)
end
section
variable {gp : List UInt8 → List Vm.Ins × Int × List UInt8} {pp : List Vm.Ins → List UInt8} {fits : List Vm.Ins → Prop}
end
end Gr

/-! A graph as bytes: what is put is got, and what is got was put: plain laws. -/
namespace Gr
open Oc (be bes)
set_option linter.unusedSimpArgs false
set_option linter.unusedVariables false

section
variable {gp : List UInt8 → List Vm.Ins × Int × List UInt8} {pp : List Vm.Ins → List UInt8} {fits : List Vm.Ins → Prop}
theorem RightR.ids {l : List Nd} (h : RightR l) : (ids l).Nodup := ids_nodup.1 fun i n hn => (h.ok i n hn).fst
theorem RightR.at {l : List Nd} (h : RightR l) {n : Nd} (hn : n ∈ l) : ∃ i, OkR l i n := by
  obtain ⟨i, hi, e⟩ := List.mem_iff_getElem.1 hn
  exact ⟨i, h.ok i n (by rw [List.getElem?_eq_getElem hi, e])⟩
theorem RightR.r7 {l : List Nd} (h : RightR l) : ∀ n ∈ l, 0 ≤ n.id ∧ n.id ≤ 7 := fun n hn => by
  obtain ⟨i, hr⟩ := h.at hn
  exact ⟨hr.id0, hr.id7⟩
/-- the same nodes in another order are right too -/
theorem RightR.perm {l l' : List Nd} (hp : l.Perm l') (h : RightR l) : RightR l' := by
  have hq := (right_iff hp).1 h
  refine (right_iff (List.Perm.refl l')).2 ⟨by rw [← hp.length_eq]; exact hq.len, fun n hn => ?_, (perm_ids hp).nodup_iff.1 hq.un, (perm_ids hp).mem_iff.1 hq.z, by rw [← hp.length_eq, hp.length_eq]; exact hq.so.trans hp.length_eq⟩
  have ho := hq.ok n (hp.mem_iff.2 hn)
  refine ⟨ho.id0, ho.id7, ho.kd, ho.pr1, ho.pr3, ho.rt, fun f hf => ?_⟩
  obtain ⟨j, m, h1, h2, h3⟩ := ho.fr f hf
  have hb := bind_perm hp hq.un f
  rw [h1, Option.bind_some, h2] at hb
  cases hf' : find l' f with
  | none => rw [hf'] at hb; cases hb
  | some j' =>
    rw [hf', Option.bind_some] at hb
    exact ⟨j', m, rfl, hb.symm, h3⟩
end
end Gr

/-! graph.Find; the predicates route$1, sort$1, sort$2, node$1. -/
namespace Go.Proofs.YtmdmbimfdpngaaaGreatDoor
set_option linter.unusedSimpArgs false
set_option linter.unusedVariables false
open Go.RowKit Ga
set_option maxRecDepth 100000

end Go.Proofs.YtmdmbimfdpngaaaGreatDoor
