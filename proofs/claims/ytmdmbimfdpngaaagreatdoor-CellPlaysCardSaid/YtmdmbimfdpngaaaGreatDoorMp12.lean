import Derived.Test.YtmdmbimfdpngaaaGreatDoorMp11
import Derived.Test.YtmdmbimfdpngaaaGreatDoorMp4
import Derived.Test.YtmdmbimfdpngaaaGreatDoorMp3
import Derived.WalkKit
import Derived.Test.YtmdmbimfdpngaaaGreatDoorShelf
import Derived.Test.YtmdmbimfdpngaaaGreatDoorMp10
import Derived.Test.YtmdmbimfdpngaaaGreatDoorMp5
import Derived.Deep.RegionLaw
import Derived.Deep.RegionHeld3
import Derived.Lib.SlicesCompact
/-! Graphs: what the document calls right, and what the program does: the same. -/
namespace Gr
set_option linter.unusedSimpArgs false
set_option linter.unusedVariables false

/-- a node among others, by the document -/
structure OkR (l : List Nd) (i : Nat) (n : Nd) : Prop where
  id0 : 0 ≤ n.id
  id7 : n.id ≤ 7
  fst : find l n.id = some i
  kd0 : 0 ≤ n.kind
  kd2 : n.kind ≤ 2
  pr1 : 1 ≤ n.par
  pr3 : n.par ≤ 3
  fr3 : n.frm.length ≤ 3
  src : n.id = 0 ↔ n.kind = 0
  rt : ∀ g ∈ n.route, 0 ≤ g ∧ g < n.par
  f0 : n.kind = 0 → n.frm.length = 0
  f1 : n.kind = 1 → n.frm.length = 1
  f2 : n.kind = 2 → n.frm.length ≠ 0
  p1 : n.kind = 1 → Vm.safe n.prog = true
  p0 : n.kind ≠ 1 → n.prog.length = 0
  fr : ∀ k f, n.frm[k]? = some f → (∃ j m, find l f = some j ∧ l[j]? = some m ∧ m.kind ≠ 2) ∧ f ∉ n.frm.take k
/-- .. and a graph -/
structure RightR (l : List Nd) : Prop where
  len : l.length ≤ 8
  ok : ∀ i n, l[i]? = some n → OkR l i n
  one : l.countP (fun n => n.kind == 0) = 1
  ac : ∀ n ∈ l, above l n.id n.id 9 = false
/-- a node among others, by the program -/
structure OkP (l : List Nd) (n : Nd) : Prop where
  id0 : 0 ≤ n.id
  id7 : n.id < 8
  kd : (n.kind = 0 ∧ n.id = 0 ∧ n.frm.length = 0 ∧ n.prog.length = 0) ∨ (n.kind = 1 ∧ n.id ≠ 0 ∧ n.frm.length = 1 ∧ Vm.safe n.prog = true) ∨ (n.kind = 2 ∧ n.id ≠ 0 ∧ 1 ≤ n.frm.length ∧ n.frm.length ≤ 3 ∧ n.frm.Nodup ∧ n.prog.length = 0)
  pr1 : 1 ≤ n.par
  pr3 : n.par ≤ 3
  rt : ∀ g ∈ n.route, 0 ≤ g ∧ g < n.par
  fr : ∀ f ∈ n.frm, ∃ j m, find l f = some j ∧ l[j]? = some m ∧ m.kind ≠ 2
structure RightP (l l' : List Nd) : Prop where
  len : l.length ≤ 8
  ok : ∀ n ∈ l, OkP l n
  un : (ids l).Nodup
  z : (0 : Int) ∈ ids l
  so : (sortG l' (l'.length + 1) []).length = l.length

theorem perm_ids {l l' : List Nd} (hp : l.Perm l') : (ids l).Perm (ids l') := hp.map _
theorem nodup_take {l : List Int} : l.Nodup ↔ ∀ k f, l[k]? = some f → f ∉ l.take k := by
  rw [List.Nodup, List.pairwise_iff_getElem]
  constructor
  · intro h k f hk hf
    obtain ⟨j, hj, e⟩ := List.mem_iff_getElem.1 hf
    rw [List.length_take] at hj
    rw [List.getElem_take] at e
    obtain ⟨hk', e2⟩ := List.getElem?_eq_some_iff.1 hk
    exact h j k (by omega) hk' (by omega) (by rw [e, e2])
  · intro h i j hi hj hij he
    refine h j l[j] (List.getElem?_eq_getElem hj) ?_
    rw [← he]
    exact List.mem_iff_getElem.2 ⟨i, by rw [List.length_take]; omega, by rw [List.getElem_take]⟩
theorem find_some {l : List Nd} {x : Int} {j : Nat} (h : find l x = some j) : ∃ m, l[j]? = some m ∧ m.id = x := by
  unfold find at h
  obtain ⟨hi, h1, -⟩ := List.findIdx?_eq_some_iff_getElem.1 h
  exact ⟨l[j], List.getElem?_eq_getElem hi, by simpa using h1⟩
/-- each is the first of its number: the numbers are unlike -/
theorem ids_nodup {l : List Nd} : (∀ i n, l[i]? = some n → find l n.id = some i) ↔ (ids l).Nodup := by
  rw [List.Nodup, List.pairwise_iff_getElem]
  constructor
  · intro h i j hi hj hij he
    have hi' : i < l.length := by simpa [ids] using hi
    have hj' : j < l.length := by simpa [ids] using hj
    have h1 := h i l[i] (List.getElem?_eq_getElem hi')
    have h2 := h j l[j] (List.getElem?_eq_getElem hj')
    simp [ids] at he
    rw [he, h2] at h1
    have := Option.some.inj h1
    omega
  · intro h i n hn
    obtain ⟨hi, e⟩ := List.getElem?_eq_some_iff.1 hn
    unfold find
    refine List.findIdx?_eq_some_iff_getElem.2 ⟨hi, by simp [e], fun j hji => ?_⟩
    have := h j i (by simp [ids]; omega) (by simp [ids]; omega) hji
    simp [ids, e] at this
    simpa using this
theorem bind_find {l : List Nd} (hu : (ids l).Nodup) {n : Nd} (hn : n ∈ l) : ((find l n.id).bind fun i => l[i]?) = some n := by
  obtain ⟨i, hi, e⟩ := List.mem_iff_getElem.1 hn
  have h1 := ids_nodup.2 hu i n (by rw [List.getElem?_eq_getElem hi, e])
  rw [h1, Option.bind_some, List.getElem?_eq_getElem hi, e]
theorem bind_perm {l l' : List Nd} (hp : l.Perm l') (hu : (ids l).Nodup) (x : Int) : ((find l x).bind fun i => l[i]?) = ((find l' x).bind fun i => l'[i]?) := by
  have hu' : (ids l').Nodup := (perm_ids hp).nodup_iff.1 hu
  by_cases h : x ∈ ids l
  · obtain ⟨n, hn, rfl⟩ := List.mem_map.1 h
    rw [bind_find hu hn, bind_find hu' (hp.mem_iff.1 hn)]
  · have h' : x ∉ ids l' := fun q => h ((perm_ids hp).mem_iff.2 q)
    have hno : ∀ (l : List Nd), x ∉ ids l → find l x = none := fun l hl => by
      unfold find
      rw [List.findIdx?_eq_none_iff]
      intro n hn
      have : n.id ≠ x := fun e => hl (List.mem_map.2 ⟨n, hn, e⟩)
      simpa using this
    rw [hno l h, hno l' h']
    rfl
theorem above_perm {l l' : List Nd} (hp : l.Perm l') (hu : (ids l).Nodup) : ∀ (k : Nat) (x z : Int), above l x z k = above l' x z k
  | 0, x, z => rfl
  | k + 1, x, z => by
    rw [above, above, bind_perm hp hu x]
    cases (find l' x).bind fun i => l'[i]? with
    | none => rfl
    | some n =>
      simp only
      congr 1
      funext f
      rw [above_perm hp hu k f z]
theorem zero_one {l : List Nd} (hu : (ids l).Nodup) (hs : ∀ n ∈ l, n.id = 0 ↔ n.kind = 0) : l.countP (fun n => n.kind == 0) = 1 ↔ (0 : Int) ∈ ids l := by
  have h1 : l.countP (fun n => n.kind == 0) = (ids l).count 0 := by
    unfold ids
    rw [List.count, List.countP_map]
    refine List.countP_congr fun n hn => ?_
    have := hs n hn
    simp only [Function.comp, beq_iff_eq]
    exact this.symm
  rw [h1]
  constructor
  · intro h
    exact List.count_pos_iff.1 (by omega)
  · intro h
    have h2 := List.count_pos_iff.2 h
    have h3 := List.nodup_iff_count.1 hu 0
    omega
theorem mem_ids_of_find {l : List Nd} {f : Int} {j : Nat} (h : find l f = some j) : f ∈ ids l := by
  obtain ⟨m, hm, e⟩ := find_some h
  exact List.mem_map.2 ⟨m, List.mem_of_getElem? hm, e⟩
/-- THE LAW: what the program calls right is what the document calls so. -/
theorem right_iff {l l' : List Nd} (hp : l.Perm l') : RightR l ↔ RightP l l' := by
  constructor
  · intro h
    have hu : (ids l).Nodup := ids_nodup.1 fun i n hn => (h.ok i n hn).fst
    have hok : ∀ n ∈ l, ∃ i, OkR l i n := fun n hn => by
      obtain ⟨i, hi, e⟩ := List.mem_iff_getElem.1 hn
      exact ⟨i, h.ok i n (by rw [List.getElem?_eq_getElem hi, e])⟩
    have hfr : ∀ n ∈ l, ∀ f ∈ n.frm, ∃ j m, find l f = some j ∧ l[j]? = some m ∧ m.kind ≠ 2 := fun n hn f hf => by
      obtain ⟨i, hr⟩ := hok n hn
      obtain ⟨k, hk, e⟩ := List.mem_iff_getElem.1 hf
      exact (hr.fr k f (by rw [List.getElem?_eq_getElem hk, e])).1
    refine ⟨h.len, fun n hn => ?_, hu, (zero_one hu fun n hn => (hok n hn).elim fun i hr => hr.src).1 h.one, ?_⟩
    · obtain ⟨i, hr⟩ := hok n hn
      refine ⟨hr.id0, by have := hr.id7; omega, ?_, hr.pr1, hr.pr3, hr.rt, hfr n hn⟩
      have hk0 := hr.kd0
      have hk2 := hr.kd2
      have hs := hr.src
      rcases (show n.kind = 0 ∨ n.kind = 1 ∨ n.kind = 2 by omega) with e | e | e
      · exact .inl ⟨e, hs.2 e, hr.f0 e, hr.p0 (by omega)⟩
      · exact .inr (.inl ⟨e, fun q => by have := hs.1 q; omega, hr.f1 e, hr.p1 e⟩)
      · exact .inr (.inr ⟨e, fun q => by have := hs.1 q; omega, by have := hr.f2 e; omega, hr.fr3, nodup_take.2 fun k f hk => (hr.fr k f hk).2, hr.p0 (by omega)⟩)
    · rw [hp.length_eq]
      refine (sort_all (by rw [← hp.length_eq]; exact h.len) ((perm_ids hp).nodup_iff.1 hu) (fun n hn f hf => ?_)).2 fun n hn => ?_
      · obtain ⟨j, m, h1, _⟩ := hfr n (hp.mem_iff.2 hn) f hf
        exact (perm_ids hp).mem_iff.1 (mem_ids_of_find h1)
      · rw [← above_perm hp hu]
        exact h.ac n (hp.mem_iff.2 hn)
  · intro h
    have hu := h.un
    refine ⟨h.len, fun i n hn => ?_, (zero_one hu fun n hn => ?_).2 h.z, fun n hn => ?_⟩
    · have hr := h.ok n (List.mem_of_getElem? hn)
      have hkd := hr.kd
      refine ⟨hr.id0, by have := hr.id7; omega, ids_nodup.2 hu i n hn, by omega, by omega, hr.pr1, hr.pr3, by omega, by omega, hr.rt, by omega, by omega, by omega, ?_, by omega, fun k f hk => ⟨hr.fr f (List.mem_of_getElem? hk), ?_⟩⟩
      · intro e
        rcases hkd with h1 | h1 | h1
        · omega
        · exact h1.2.2.2
        · omega
      · have hnd : n.frm.Nodup := by
          rcases hkd with h1 | h1 | h1
          · rw [List.length_eq_zero_iff.1 h1.2.2.1]; exact List.nodup_nil
          · obtain ⟨a, e⟩ := List.length_eq_one_iff.1 h1.2.2.1
            rw [e]; simp
          · exact h1.2.2.2.2.1
        exact nodup_take.1 hnd k f hk
    · have hkd := (h.ok n hn).kd
      omega
    · rw [above_perm hp hu]
      refine (sort_all (l := l') (by rw [← hp.length_eq]; exact h.len) ((perm_ids hp).nodup_iff.1 hu) (fun n hn f hf => ?_)).1 (h.so.trans hp.length_eq) n (hp.mem_iff.1 hn)
      obtain ⟨j, m, h1, _⟩ := (h.ok n (hp.mem_iff.2 hn)).fr f hf
      exact (perm_ids hp).mem_iff.1 (mem_ids_of_find h1)
end Gr

/-! forebayref08: Find, Has. -/
namespace Go.Proofs.YtmdmbimfdpngaaaGreatDoor
set_option linter.unusedSimpArgs false
set_option linter.unusedVariables false
open Go.RowKit Ga
set_option maxRecDepth 100000

theorem ints_open {w : World} {v : Value} {l : List Int} (h : IntsAt w v l) : ∃ a cap, v = .slice a l.length cap ∧ l.length ≤ 9223372036854775807 ∧ ∀ i (hi : i < l.length), ∃ b off, a = some ⟨b, off, none⟩ ∧ Pre b w ∧ w.cell? ⟨b, off + i, none⟩ = some (.int .i64 l[i]) := by
  obtain ⟨a, cap, rfl, hm, hl⟩ := h
  refine ⟨a, cap, rfl, by unfold maxLen at hm; omega, fun i hi => ?_⟩
  obtain ⟨b, off, rfl, hx⟩ := hl (by intro e; subst e; simp at hi)
  have h0 := hx i l[i] (List.getElem?_eq_getElem hi) 0 _ rfl
  rw [Nat.mul_one, Nat.add_zero] at h0
  exact ⟨b, off, rfl, Pre.mk (World.block_lt_of_cell? w _ h0), h0⟩

end Go.Proofs.YtmdmbimfdpngaaaGreatDoor

/-! Instructions and values as two cells. -/
namespace Go.Proofs.YtmdmbimfdpngaaaGreatDoor
set_option linter.unusedSimpArgs false
set_option linter.unusedVariables false
open Go.RowKit Ga
set_option maxRecDepth 100000

def encI (a : Val) : List Value := [.int .i64 a.1, .int .i64 a.2]
theorem infoIns : (Tryz.prog.info? 124).map (fun i => (i.zero, i.size, i.bytes)) = some (some (.agg #[.int .i64 0, .int .i64 0]), 2, 16) := by kernel_rfl

theorem encI_len (l : Val) : (encI l).length = 2 := rfl
theorem encI_one (l : Val) : ∀ u ∈ encI l, u.oneCell' = true := by
  intro u hu; simp [encI] at hu; rcases hu with rfl | rfl <;> rfl
theorem encI_at (W : World) (a : Val) (t : TypeId) (b : Nat) {c : Array Value} (hc : c = #[.int .i64 a.1, .int .i64 a.2]) (hb : b = W.heap.size) : ∀ j u, (encI a)[j]? = some u → (W.alloc (.cells c t)).cell? ⟨b, j, none⟩ = some u := by
  subst hc
  intro j u hu
  rw [new_cells W _ t b hb j]
  simpa [encI] using hu
end Go.Proofs.YtmdmbimfdpngaaaGreatDoor

/-! Numbers as four bytes: plain laws. -/
namespace Oc
set_option linter.unusedSimpArgs false
set_option linter.unusedVariables false

/-- a number's bytes -/
def be (n : Int) : List UInt8 := [UInt8.ofNat (n % 4294967296 / 16777216).toNat, UInt8.ofNat (n % 4294967296 / 65536 % 256).toNat, UInt8.ofNat (n % 4294967296 / 256 % 256).toNat, UInt8.ofNat (n % 4294967296 % 256).toNat]
def bes (l : List Int) : List UInt8 := l.flatMap be
/-- the number with which bytes begin -/
def raw : List UInt8 → Int
  | a :: b :: c :: d :: _ => ((a.toNat * 256 + b.toNat) * 256 + c.toNat) * 256 + d.toNat
  | _ => 0
def num (l : List UInt8) : Int := if 2147483648 ≤ raw l then raw l - 4294967296 else raw l

/-- as the loop of four rounds reckons it -/
def part (l : List UInt8) (k : Nat) : Int := (l.take k).foldl (fun u c => u * 256 + (c.toNat : Int)) 0
end Oc

/-! octet.Writer and octet.Reader. -/
namespace Go.Proofs.YtmdmbimfdpngaaaGreatDoor
set_option linter.unusedSimpArgs false
set_option linter.unusedVariables false
open Go.RowKit
set_option maxRecDepth 100000

def encB (x : UInt8) : List Value := [.int .u8 x.toNat]
def encN (n : Int) : List Value := [.int .i64 n]
theorem encN_len (x : Int) : (encN x).length = 1 := rfl
theorem cell_of_heap {W : World} {b o : Nat} {c : Array Value} {t : TypeId} {f : Nat × Nat} (h : W.heap[b]? = some (.cells c t f)) : W.cell? ⟨b, o, none⟩ = c[o]? := by
  unfold World.cell?; rw [h]; simp
theorem frozen_of_heap {W : World} {b o : Nat} {c : Array Value} {t : TypeId} (h : W.heap[b]? = some (.cells c t)) : W.frozen? ⟨b, o, none⟩ = false := by
  unfold World.frozen?; rw [h]; simp

/-- b is no block of bytes of the call's own. -/
def Safe (base b : Nat) (W : World) : Prop := b < base ∨ ∃ c t f, W.heap[b]? = some (.cells c t f) ∧ t ≠ 5
theorem Safe.own {base b : Nat} {W : World} {vb : Value} {bs : List UInt8} (h : Safe base b W) (ho : OwnAt base 5 1 encB W vb bs) : vb.ownBlock ≠ some b := by
  intro e
  obtain ⟨h1, h2⟩ := ho
  rcases h2 with ⟨rfl, _⟩ | ⟨g, cap, cur, rfl, hb, hh, _⟩
  · cases e
  · cases e
    rcases h with h | ⟨c, t, f, hc, ht⟩
    · exact absurd h (by show ¬ (g < base); omega)
    · rw [show (Addr.block ⟨g, 0, none⟩) = g from rfl] at hc
      rw [hh] at hc
      cases hc
      exact ht rfl

end Go.Proofs.YtmdmbimfdpngaaaGreatDoor

/-! slices.Clone at numbers and at instructions; graph.own. -/
namespace Go.Proofs.YtmdmbimfdpngaaaGreatDoor
set_option linter.unusedSimpArgs false
set_option linter.unusedVariables false
open Go.RowKit Ga
set_option maxRecDepth 100000

theorem heap_more_same {W W' : World} (hs : W.heap.size = W'.heap.size) (R : Array Obj) (n b : Nat) (hb : W.heap.size ≤ b) : (W'.more R n).heap[b]? = (W.more R n).heap[b]? := by
  rw [heap_more_in W R n b hb, heap_more_in W' R n b (by omega), hs]
/-- its slices lie behind 'base' -/
def OwnsNd (base : Nat) (w : World) (c : NdC) (n : Gr.Nd) : Prop := OwnAt base 3 1 encN w c.vf n.frm ∧ OwnAt base 124 2 encI w c.vp n.prog
theorem OwnsNd.to {base : Nat} {w w' : World} {c : NdC} {n : Gr.Nd} (o : OwnsNd base w c n) (hb : ∀ b, base ≤ b → b < w.heap.size → w'.heap[b]? = w.heap[b]?) : OwnsNd base w' c n := by
  refine ⟨OwnAt.same o.1 fun b h => ?_, OwnAt.same o.2 fun b h => ?_⟩
  · obtain ⟨h1, _, h2⟩ := OwnAt.block o.1 h
    exact hb b h1 (heap_lt h2)
  · obtain ⟨h1, _, h2⟩ := OwnAt.block o.2 h
    exact hb b h1 (heap_lt h2)
theorem OwnsNd.is {base : Nat} {w w' : World} {c : NdC} {n : Gr.Nd} (o : OwnsNd base w' c n) (h : NodeIs w c n) : NodeIs w' c n :=
  { h with f := o.1.rows encN_len, p := o.2.rows encI_len }
theorem OwnsNd.low {base base' : Nat} {w : World} {c : NdC} {n : Gr.Nd} (o : OwnsNd base w c n) (hb : base' ≤ base) : OwnsNd base' w c n := ⟨OwnAt.low o.1 hb, OwnAt.low o.2 hb⟩
theorem OwnsNd.grew {base : Nat} {w w' : World} {c : NdC} {n : Gr.Nd} (o : OwnsNd base w c n) (g : Grew w w') : OwnsNd base w' c n := ⟨o.1.grew g, o.2.grew g⟩
theorem OwnAt.cap {α : Type} {base : Nat} {e : TypeId} {k : Nat} {enc : α → List Value} {w : World} {a : Option Addr} {n cap : Nat} {l : List α} (h : OwnAt base e k enc w (.slice a n cap) l) : l.length ≤ cap := by
  obtain ⟨h1, h2⟩ := h
  rcases h2 with ⟨h, h0⟩ | ⟨g, cap', cur, hv, hb, hh, hc, r⟩
  · rw [h0]; exact Nat.zero_le _
  · cases hv; exact hc
end Go.Proofs.YtmdmbimfdpngaaaGreatDoor

/-! slices.IndexFunc and ContainsFunc at numbers and at nodes; slices.Index and Contains at numbers. -/
namespace Go.Proofs.YtmdmbimfdpngaaaGreatDoor
set_option linter.unusedSimpArgs false
set_option linter.unusedVariables false
open Go.RowKit Ga
set_option maxRecDepth 100000

theorem containsI_any (v : Value) (l : List Int) (x : Int) (w : World) (hv : IntsAt w v l) : Calls Tryz.prog 51 #[v, .int .i64 x] w fun e w' => e = .returned (.bool (decide (x ∈ l))) ∧ w' = w := by
  obtain ⟨a, cap, rfl, hm, hx⟩ := ints_open hv
  cases l with
  | nil =>
    refine (Tryz.slices_Contains_int_empty a cap x w).mono fun e w' ⟨he, hw⟩ => ⟨?_, hw⟩
    rw [he]; simp
  | cons y l =>
    obtain ⟨b, off, h, _⟩ := hx 0 (by simp)
    cases h
    refine (Tryz.slices_Contains_int b off _ cap (y :: l) x w (Nat.le_refl _) (by omega) fun j hj => ?_).mono fun e w' ⟨he, hw⟩ => ⟨?_, hw⟩
    · obtain ⟨b', off', h, _, hc⟩ := hx j hj
      cases h
      rw [List.getD_eq_getElem?_getD, List.getElem?_eq_getElem hj]
      exact hc
    · rw [he, List.take_of_length_le (Nat.le_refl _)]
      simp

end Go.Proofs.YtmdmbimfdpngaaaGreatDoor

/-! graph.unlike: a list's numbers are unlike. -/
namespace Go.Proofs.YtmdmbimfdpngaaaGreatDoor
set_option linter.unusedSimpArgs false
set_option linter.unusedVariables false
open Go.RowKit Ga
set_option maxRecDepth 100000

theorem grewRow {α : Type} [Inhabited α] {enc : α → Value} {w0 W : World} (g : Grew w0 W) {b off : Nat} {d : Array α} (hb : w0.heap.size ≤ b) : Grew w0 (Sort.putRow enc W b off d) :=
  Grew.ofBelow (g.below.trans ⟨rfl, rfl, rfl, by rw [Sort.size_putRow]; exact Nat.le_refl _, fun k hk => by
    unfold Sort.putRow Sort.mapBlock
    simp only [Array.getElem?_modify]
    rw [if_neg (by omega)]⟩)
theorem grewAhead {w0 W : World} (g : Grew w0 W) (n : Nat) : Grew w0 (Sort.ahead W n) := g.drewN n
theorem grewOs {w0 W : World} (g : Grew w0 W) (os : Array Obj) : Grew w0 (Sort.grow W os) := g.more os W.drawn
end Go.Proofs.YtmdmbimfdpngaaaGreatDoor

/-! forebayref08.above. -/
namespace Go.Proofs.YtmdmbimfdpngaaaGreatDoor
set_option linter.unusedSimpArgs false
set_option linter.unusedVariables false
open Go.RowKit Ga
set_option maxRecDepth 100000

end Go.Proofs.YtmdmbimfdpngaaaGreatDoor

/-! Graphs: the nodes by their numbers: whatever sorts them makes the list that the document writes. -/
namespace Gr
set_option linter.unusedSimpArgs false
set_option linter.unusedVariables false

end Gr

/-! Graphs as bytes: what is written is read again, and what is read was written: plain laws. -/
namespace Gr
open Oc (be bes)
set_option linter.unusedSimpArgs false
set_option linter.unusedVariables false

section
variable (gp : List UInt8 → List Vm.Ins × Int × List UInt8) (pp : List Vm.Ins → List UInt8) (fits : List Vm.Ins → Prop)
end
section
variable {gp : List UInt8 → List Vm.Ins × Int × List UInt8} {pp : List Vm.Ins → List UInt8} {fits : List Vm.Ins → Prop}
end
end Gr

/-! A graph as bytes: what is put is got, and what is got was put: plain laws. -/
namespace Gr
open Oc (be bes)
set_option linter.unusedSimpArgs false
set_option linter.unusedVariables false

section
variable {gp : List UInt8 → List Vm.Ins × Int × List UInt8} {pp : List Vm.Ins → List UInt8} {fits : List Vm.Ins → Prop}
theorem RightR.ids {l : List Nd} (h : RightR l) : (ids l).Nodup := ids_nodup.1 fun i n hn => (h.ok i n hn).fst
theorem RightR.at {l : List Nd} (h : RightR l) {n : Nd} (hn : n ∈ l) : ∃ i, OkR l i n := by
  obtain ⟨i, hi, e⟩ := List.mem_iff_getElem.1 hn
  exact ⟨i, h.ok i n (by rw [List.getElem?_eq_getElem hi, e])⟩
theorem RightR.r7 {l : List Nd} (h : RightR l) : ∀ n ∈ l, 0 ≤ n.id ∧ n.id ≤ 7 := fun n hn => by
  obtain ⟨i, hr⟩ := h.at hn
  exact ⟨hr.id0, hr.id7⟩
/-- the same nodes in another order are right too -/
theorem RightR.perm {l l' : List Nd} (hp : l.Perm l') (h : RightR l) : RightR l' := by
  have hq := (right_iff hp).1 h
  refine (right_iff (List.Perm.refl l')).2 ⟨by rw [← hp.length_eq]; exact hq.len, fun n hn => ?_, (perm_ids hp).nodup_iff.1 hq.un, (perm_ids hp).mem_iff.1 hq.z, by rw [← hp.length_eq, hp.length_eq]; exact hq.so.trans hp.length_eq⟩
  have ho := hq.ok n (hp.mem_iff.2 hn)
  refine ⟨ho.id0, ho.id7, ho.kd, ho.pr1, ho.pr3, ho.rt, fun f hf => ?_⟩
  obtain ⟨j, m, h1, h2, h3⟩ := ho.fr f hf
  have hb := bind_perm hp hq.un f
  rw [h1, Option.bind_some, h2] at hb
  cases hf' : find l' f with
  | none => rw [hf'] at hb; cases hb
  | some j' =>
    rw [hf', Option.bind_some] at hb
    exact ⟨j', m, rfl, hb.symm, h3⟩
end
end Gr

/-! graph.Find; the predicates route$1, sort$1, sort$2, node$1. -/
namespace Go.Proofs.YtmdmbimfdpngaaaGreatDoor
set_option linter.unusedSimpArgs false
set_option linter.unusedVariables false
open Go.RowKit Ga
set_option maxRecDepth 100000

end Go.Proofs.YtmdmbimfdpngaaaGreatDoor
