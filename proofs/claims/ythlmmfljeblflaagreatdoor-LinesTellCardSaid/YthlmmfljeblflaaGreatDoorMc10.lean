import Derived.Test.YthlmmfljeblflaaGreatDoorMc7
import Derived.Test.YthlmmfljeblflaaGreatDoorMc0
import Derived.Test.YthlmmfljeblflaaGreatDoorMc4
import Derived.Scope
import Derived.Laws.RangeString
import Derived.Lib.TrimU
import Derived.Lib.TrimAscii
import Derived.Lib.AsciiSet
import Derived.Lib.Hide
import Derived.Deep.WholeRow
import Derived.Test.YthlmmfljeblflaaGreatDoorMc2
import Derived.Test.YthlmmfljeblflaaGreatDoorMc5
/-! strings.IndexRune of a rune beyond ASCII in "+-": -1. -/
namespace Go.Proofs.YthlmmfljeblflaaGreatDoor
open Go.RowKit
set_option linter.unusedSimpArgs false
set_option linter.unusedVariables false
set_option maxRecDepth 100000

end Go.Proofs.YthlmmfljeblflaaGreatDoor

/-! strings.LastIndexAny(s, "+-"): of ASCII letters the last one of the two; of any it lies within. -/
namespace Go.Proofs.YthlmmfljeblflaaGreatDoor
open Go.RowKit
set_option linter.unusedSimpArgs false
set_option linter.unusedVariables false
set_option maxRecDepth 100000

/-- One of the two signs. -/
def pm (b : UInt8) : Bool := ([43, 45] : List UInt8).contains b
/-- What is known of the place. -/
def PmAt (l : List UInt8) (k : Int) : Prop :=
  -1 ≤ k ∧ k < l.length ∧ ((∀ b ∈ l, b.toNat < 128) → (∀ (j : Nat) (b : UInt8), k < j → l[j]? = some b → pm b = false) ∧ (∀ b, 0 ≤ k → l[k.toNat]? = some b → pm b = true))

/-- None behind it. -/
def NoPm (l : List UInt8) (n : Int) : Prop := ∀ (j : Nat) (b : UInt8), n < j → l[j]? = some b → pm b = false
theorem NoPm.step {l : List UInt8} {k : Nat} {x : UInt8} (h : NoPm l k) (hx : l[k]? = some x) (hp : pm x = false) : NoPm l ((k : Int) - 1) := by
  intro j b hj hb
  by_cases e : j = k
  · subst e; rw [hx] at hb; cases hb; exact hp
  · exact h j b (by omega) hb
theorem PmAt.hit {l : List UInt8} {k : Nat} {x : UInt8} (h : NoPm l k) (hx : l[k]? = some x) (hp : pm x = true) : PmAt l (k : Int) := by
  have hk : k < l.length := (List.getElem?_eq_some_iff.1 hx).1
  refine ⟨by omega, by omega, fun _ => ⟨h, fun b _ hb => ?_⟩⟩
  rw [Int.toNat_natCast, hx] at hb
  cases hb
  exact hp
theorem PmAt.gone {l : List UInt8} (h : NoPm l (-1)) : PmAt l (-1) := ⟨by omega, by omega, fun _ => ⟨h, fun b h0 _ => by omega⟩⟩

end Go.Proofs.YthlmmfljeblflaaGreatDoor

/-! octet.Writer and octet.Reader. -/
namespace Go.Proofs.YthlmmfljeblflaaGreatDoor
set_option linter.unusedSimpArgs false
set_option linter.unusedVariables false
open Go.RowKit
set_option maxRecDepth 100000

def encB (x : UInt8) : List Value := [.int .u8 x.toNat]
def encN (n : Int) : List Value := [.int .i64 n]
theorem infoU8 : (Tryz.prog.info? 5).map (fun i => (i.zero, i.size, i.bytes)) = some (some (.int .u8 0), 1, 1) := by kernel_rfl
theorem encB_len (x : UInt8) : (encB x).length = 1 := rfl
theorem encN_len (x : Int) : (encN x).length = 1 := rfl
theorem encB_one (x : UInt8) : ∀ u ∈ encB x, u.oneCell' = true := by intro u hu; simp [encB] at hu; subst hu; rfl

theorem cell_of_heap {W : World} {b o : Nat} {c : Array Value} {t : TypeId} {f : Nat × Nat} (h : W.heap[b]? = some (.cells c t f)) : W.cell? ⟨b, o, none⟩ = c[o]? := by
  unfold World.cell?; rw [h]; simp
theorem frozen_of_heap {W : World} {b o : Nat} {c : Array Value} {t : TypeId} (h : W.heap[b]? = some (.cells c t)) : W.frozen? ⟨b, o, none⟩ = false := by
  unfold World.frozen?; rw [h]; simp

/-- b is no block of bytes of the call's own. -/
def Safe (base b : Nat) (W : World) : Prop := b < base ∨ ∃ c t f, W.heap[b]? = some (.cells c t f) ∧ t ≠ 5
theorem Safe.own {base b : Nat} {W : World} {vb : Value} {bs : List UInt8} (h : Safe base b W) (ho : OwnAt base 5 1 encB W vb bs) : vb.ownBlock ≠ some b := by
  intro e
  obtain ⟨h1, h2⟩ := ho
  rcases h2 with ⟨rfl, _⟩ | ⟨g, cap, cur, rfl, hb, hh, _⟩
  · cases e
  · cases e
    rcases h with h | ⟨c, t, f, hc, ht⟩
    · exact absurd h (by show ¬ (g < base); omega)
    · rw [show (Addr.block ⟨g, 0, none⟩) = g from rfl] at hc
      rw [hh] at hc
      cases hc
      exact ht rfl

theorem RowsAt.sameBlock {α : Type} {k : Nat} {enc : α → List Value} {W W' : World} {v : Value} {l : List α} (h : RowsAt k enc W v l) (hb : ∀ b off, (∃ n c, v = .slice (some ⟨b, off, none⟩) n c) → W'.heap[b]? = W.heap[b]?) : RowsAt k enc W' v l := by
  obtain ⟨a, cap, rfl, hm, hl⟩ := h
  refine ⟨a, cap, rfl, hm, fun hne => ?_⟩
  obtain ⟨b, off, rfl, hx⟩ := hl hne
  refine ⟨b, off, rfl, fun i x hi j u hu => ?_⟩
  rw [← hx i x hi j u hu]
  unfold World.cell?
  rw [hb b off ⟨_, _, rfl⟩]
theorem Safe.sameBlock {base b : Nat} {W W' : World} (h : Safe base b W) (hb : W'.heap[b]? = W.heap[b]?) : Safe base b W' := by
  rcases h with h | ⟨c, t, f, hc, ht⟩
  · exact .inl h
  · exact .inr ⟨c, t, f, by rw [hb]; exact hc, ht⟩

theorem OwnAt.sameBlock {α : Type} {base : Nat} {e : TypeId} {k : Nat} {enc : α → List Value} {W W' : World} {v : Value} {l : List α} (h : OwnAt base e k enc W v l) (hb : ∀ b, v.ownBlock = some b → W'.heap[b]? = W.heap[b]?) : OwnAt base e k enc W' v l := by
  obtain ⟨h1, h2⟩ := h
  refine ⟨h1, ?_⟩
  rcases h2 with h | ⟨g, cap, cur, rfl, hg, hh, r⟩
  · exact .inl h
  · exact .inr ⟨g, cap, cur, rfl, hg, by rw [hb g rfl]; exact hh, r⟩

theorem heap_alloc_old {W : World} {b : Nat} {x : Obj} (h : W.heap[b]? = some x) (o : Obj) : (W.alloc o).heap[b]? = some x := by
  have hb := (Array.getElem?_eq_some_iff.1 h).1
  show (W.heap.push o)[b]? = some x
  rw [Array.getElem?_push_lt hb]
  rw [← h, Array.getElem?_eq_getElem hb]
end Go.Proofs.YthlmmfljeblflaaGreatDoor

/-! Programs that may run, by all their ways: plain laws. -/
namespace Vm
set_option linter.unusedSimpArgs false
set_option linter.unusedVariables false
open Ga

/-- A set of places, each with a depth and what was put out, that nothing leads out of. -/
structure Closed (l : List Ins) (M : Nat → Int → Int → Prop) : Prop where
  zero : M 0 0 0
  ok : ∀ k d e, M k d e → d ≤ 8 ∧ 0 ≤ e ∧ e ≤ 4 ∧ k ≤ l.length
  one : ∀ k d e d' e', M k d e → M k d' e' → k < l.length → d = d'
  enough : ∀ k d e i, M k d e → l[k]? = some i → (takes i.1 : Int) ≤ d
  next : ∀ k d e i, M k d e → l[k]? = some i → ∀ a ∈ next l k i, M a (d - takes i.1 + leaves i.1) (e + if i.1 = 14 then 1 else 0)
/-- All that is known is so on some way. -/
structure Real (n : Nat) (M : Nat → Int → Int → Prop) (s : Cst) : Prop where
  dl : s.depth.length = n
  el : s.emits.length = n
  m : ∀ j, s.depth.getD j (-1) ≠ -1 → M j (s.depth.getD j (-1)) (s.emits.getD j 0)
  z : ∀ j, s.depth.getD j (-1) = -1 → s.emits.getD j 0 = 0
theorem Real.come {l : List Ins} {M : Nat → Int → Int → Prop} (h : Closed l M) {s : Cst} (hr : Real l.length M s) {k : Nat} {d e : Int} (hm : M k d e) (hd : 0 ≤ d) : (come l.length s k d e).2 = true ∧ Real l.length M (come l.length s k d e).1 := by
  obtain ⟨h1, h2, h3, h4⟩ := h.ok k d e hm
  unfold Vm.come
  rw [if_neg (by omega)]
  by_cases hk : k = l.length
  · rw [if_pos hk]
    exact ⟨rfl, hr.dl, hr.el, hr.m, hr.z⟩
  rw [if_neg hk]
  have hkl : k < l.length := by omega
  have hone : ¬ (s.depth.getD k (-1) ≠ -1 ∧ s.depth.getD k (-1) ≠ d) := fun hh => hh.2 (h.one k _ _ _ _ (hr.m k hh.1) hm hkl)
  rw [if_neg hone]
  refine ⟨rfl, by simp [hr.dl], by simp [hr.el], fun j hj => ?_, fun j hj => ?_⟩
  · show M j ((s.depth.set k d).getD j (-1)) ((s.emits.set k (max (s.emits.getD k 0) e)).getD j 0)
    have hj' : (s.depth.set k d).getD j (-1) ≠ -1 := hj
    rw [getD_set] at hj' ⊢
    rw [getD_set]
    by_cases hjk : j = k
    · subst hjk
      rw [if_pos ⟨rfl, by rw [hr.dl]; exact hkl⟩, if_pos ⟨rfl, by rw [hr.el]; exact hkl⟩]
      by_cases hu : s.depth.getD j (-1) = -1
      · rw [hr.z j hu, show max 0 e = e by omega]; exact hm
      · have hd2 : s.depth.getD j (-1) = d := Classical.byContradiction fun x => hone ⟨hu, x⟩
        have := hr.m j hu
        rw [hd2] at this
        rcases Int.le_total (s.emits.getD j 0) e with x | x
        · rw [show max (s.emits.getD j 0) e = e by omega]; exact hm
        · rw [show max (s.emits.getD j 0) e = s.emits.getD j 0 by omega]; exact this
    · rw [if_neg (fun x => hjk x.1)] at hj' ⊢
      rw [if_neg (fun x => hjk x.1)]
      exact hr.m j hj'
  · show (s.emits.set k (max (s.emits.getD k 0) e)).getD j 0 = 0
    have hj' : (s.depth.set k d).getD j (-1) = -1 := hj
    rw [getD_set] at hj'
    rw [getD_set]
    by_cases hjk : j = k
    · subst hjk
      rw [if_pos ⟨rfl, by rw [hr.dl]; exact hkl⟩] at hj'
      omega
    · rw [if_neg (fun x => hjk x.1)] at hj' ⊢
      exact hr.z j hj'
theorem Real.comes {l : List Ins} {M : Nat → Int → Int → Prop} (h : Closed l M) {d e : Int} (hd : 0 ≤ d) : ∀ (bs : List Nat) {s : Cst}, Real l.length M s → (∀ a ∈ bs, M a d e) → (comes l.length d e bs s).2 = true ∧ Real l.length M (comes l.length d e bs s).1
  | [], s, hr, _ => ⟨rfl, hr⟩
  | a :: bs, s, hr, ha => by
    obtain ⟨h1, h2⟩ := hr.come h (ha a (List.mem_cons_self ..)) hd
    rw [Vm.comes, if_pos h1]
    exact Real.comes h hd bs h2 fun b hb => ha b (List.mem_cons_of_mem _ hb)
theorem Real.uses {n : Nat} {M : Nat → Int → Int → Prop} {s : Cst} (hr : Real n M s) (i : Ins) : Real n M (uses s i) := by
  have h1 := uses_depth s i
  have h2 := uses_emits s i
  exact ⟨by rw [h1]; exact hr.dl, by rw [h2]; exact hr.el, by rw [h1, h2]; exact hr.m, by rw [h1, h2]; exact hr.z⟩
theorem Real.step {l : List Ins} {M : Nat → Int → Int → Prop} (h : Closed l M) {s : Cst} (hr : Real l.length M s) {k : Nat} {i : Ins} (hi : l[k]? = some i) (hk : s.depth.getD k (-1) ≠ -1) : (stepC l s k i).2 = true ∧ Real l.length M (stepC l s k i).1 := by
  have hm := hr.m k hk
  have he := h.enough k _ _ i hm hi
  unfold stepC
  rw [if_neg (by omega)]
  exact (hr.uses i).comes h (by omega) (Vm.next l k i) fun a ha => h.next k _ _ i hm hi a ha
theorem goC_real {l : List Ins} {M : Nat → Int → Int → Prop} (h : Closed l M) : ∀ (r : List Ins) (k : Nat) (s : Cst), (∀ j i, r[j]? = some i → l[k + j]? = some i) → Real l.length M s → (goC l r k s).isSome = true
  | [], k, s, _, _ => rfl
  | i :: r, k, s, hl, hr => by
    have hi : l[k]? = some i := by have := hl 0 i rfl; rwa [Nat.add_zero] at this
    have hn : ∀ j i', r[j]? = some i' → l[k + 1 + j]? = some i' := fun j i' hj => by
      have := hl (j + 1) i' (by rw [List.getElem?_cons_succ]; exact hj)
      rwa [show k + (j + 1) = k + 1 + j by omega] at this
    rw [goC]
    split
    · rename_i hk
      obtain ⟨h1, h2⟩ := hr.step h hi hk
      rw [if_pos h1]
      exact goC_real h r (k + 1) _ hn h2
    · exact goC_real h r (k + 1) _ hn hr
theorem safe_of_closed {l : List Ins} (hf : Co.fitsI l = true) {M : Nat → Int → Int → Prop} (h : Closed l M) : safe l = true := by
  unfold safe checkC
  rw [if_pos hf]
  refine goC_real h l 0 (start l.length) (fun j i hj => by rwa [Nat.zero_add]) ?_
  have h0 : Real l.length M ⟨List.replicate l.length (-1), List.replicate l.length 0, 0, 0, false, false⟩ := by
    have e1 : ∀ j, (List.replicate l.length (-1 : Int)).getD j (-1) = -1 := fun j => by
      rw [List.getD_eq_getElem?_getD, List.getElem?_replicate]; split <;> rfl
    have e2 : ∀ j, (List.replicate l.length (0 : Int)).getD j 0 = 0 := fun j => by
      rw [List.getD_eq_getElem?_getD, List.getElem?_replicate]; split <;> rfl
    exact ⟨List.length_replicate, List.length_replicate, fun j hj => absurd (e1 j) hj, fun j _ => e2 j⟩
  exact (h0.come h h.zero (Int.le_refl _)).2

/-! ### and where it is safe, each way stays within what is known -/
def Snd (l : List Ins) (c : Cst) (k : Nat) (d e : Int) : Prop := 0 ≤ e ∧ d ≤ 8 ∧ e ≤ 4 ∧ k ≤ l.length ∧ (k < l.length → c.depth.getD k (-1) = d ∧ 0 ≤ d ∧ e ≤ c.emits.getD k 0)
theorem come_deep {n : Nat} {s : Cst} {k : Nat} {d e : Int} (hb : (come n s k d e).2 = true) : d ≤ 8 := by
  unfold come at hb
  split at hb
  · cases hb
  · omega
theorem comes_deep {n : Nat} {d e : Int} : ∀ (l : List Nat) (s : Cst), (comes n d e l s).2 = true → ∀ k ∈ l, d ≤ 8
  | [], s, _, k, hk => by cases hk
  | a :: l, s, hb, k, hk => by
    rw [comes] at hb
    split at hb
    · rename_i ha
      exact come_deep ha
    · cases hb
def DSound (p : List Ins) (c : Cst) (k : Nat) (i : Ins) : Prop := c.depth.getD k (-1) ≠ -1 → ∀ a ∈ next p k i, c.depth.getD k (-1) - takes i.1 + leaves i.1 ≤ 8
theorem goC_dsound {p : List Ins} {c : Cst} : ∀ (l : List Ins) (k : Nat) (s : Cst), goC p l k s = some c → k + l.length = p.length → ∀ j i, l[j]? = some i → DSound p c (k + j) i
  | [], _, s, _, _, j, i, hj => by simp at hj
  | i0 :: l, k, s, h, hl, j, i, hj => by
    rw [List.length_cons] at hl
    rw [goC] at h
    cases j with
    | succ j =>
      rw [List.getElem?_cons_succ] at hj
      have e : k + (j + 1) = k + 1 + j := by omega
      rw [e]
      split at h
      · split at h
        · exact goC_dsound l _ _ h (by omega) j i hj
        · cases h
      · exact goC_dsound l _ _ h (by omega) j i hj
    | zero =>
      rw [List.getElem?_cons_zero] at hj
      cases hj
      intro hk
      rw [Nat.add_zero] at hk ⊢
      split at h
      · rename_i hs
        split at h
        · rename_i hb
          have e1 : c.depth.getD k (-1) = s.depth.getD k (-1) := (goC_low l _ _ h (by omega) (by omega)).trans (stepC_low (by omega) (by omega))
          rw [e1]
          intro a ha
          unfold stepC at hb
          split at hb
          · cases hb
          · exact comes_deep (next p k i0) (uses s i0) hb a ha
        · cases h
      · rename_i hs
        exact absurd ((goC_low l _ _ h (by omega) (by omega)).trans (Classical.byContradiction fun x => hs x)) hk
theorem checkC_dsound {p : List Ins} {c : Cst} (h : checkC p = some c) {k : Nat} {i : Ins} (hi : p[k]? = some i) : DSound p c k i := by
  unfold checkC at h
  split at h
  · have := goC_dsound p 0 _ h (by omega) k i hi
    rwa [Nat.zero_add] at this
  · cases h
theorem snd_zero {l : List Ins} {c : Cst} (h : checkC l = some c) : Snd l c 0 0 0 :=
  ⟨Int.le_refl _, by decide, by decide, Nat.zero_le _, fun hl => ⟨checkC_zero h hl, Int.le_refl _, ((checkC_inv h).2 0).1⟩⟩
theorem next_le' {p : List Ins} {k : Nat} {i : Ins} (hk : k < p.length) : ∀ a ∈ next p k i, a ≤ p.length := by
  intro a ha
  unfold next at ha
  split at ha
  · cases ha
  split at ha
  · rw [List.mem_singleton] at ha; omega
  split at ha
  · rcases List.mem_cons.1 ha with e | e
    · omega
    · rw [List.mem_singleton] at e; omega
  · rw [List.mem_singleton] at ha; omega
theorem snd_next {l : List Ins} {c : Cst} (h : checkC l = some c) {k : Nat} {d e : Int} (hs : Snd l c k d e) {i : Ins} (hi : l[k]? = some i) : ∀ a ∈ next l k i, Snd l c a (d - takes i.1 + leaves i.1) (e + if i.1 = 14 then 1 else 0) := by
  intro a ha
  have hlt : k < l.length := (List.getElem?_eq_some_iff.1 hi).1
  obtain ⟨h1, h2, h3⟩ := hs.2.2.2.2 hlt
  have hk : c.depth.getD k (-1) ≠ -1 := by rw [h1]; omega
  obtain ⟨s1, s2⟩ := checkC_sound h hi hk
  obtain ⟨e1, e2⟩ := checkC_esound h hi hk a ha
  have d1 := checkC_dsound h hi hk a ha
  rw [h1] at s1 s2 d1
  have hp : (0 : Int) ≤ if i.1 = 14 then 1 else 0 := by split <;> decide
  have h0 := hs.1
  refine ⟨by omega, d1, by omega, next_le' hlt a ha, fun hal => ⟨s2 a ha hal, by omega, Int.le_trans (by omega) (e2 hal)⟩⟩
end Vm

/-! The document's machine: on right values it reckons as the program does. -/
namespace Vm
set_option linter.unusedSimpArgs false
set_option linter.unusedVariables false
open Ga

theorem right_parts {v : Val} (h : rightV v = true) : into v.1 = v.1 ∧ into v.2 = v.2 := by
  unfold rightV at h
  simp only [Bool.and_eq_true, decide_eq_true_eq] at h
  exact ⟨h.1.symm, h.2.symm⟩
end Vm

/-! All ways gone, one after the other: plain laws. -/
namespace Vm
set_option linter.unusedSimpArgs false
set_option linter.unusedVariables false
open Ga

abbrev Plc := Int × Int × Int
def okP (n : Nat) (x : Plc) : Prop := 0 ≤ x.1 ∧ x.1 ≤ n ∧ 0 ≤ x.2.1 ∧ x.2.1 ≤ 8 ∧ 0 ≤ x.2.2 ∧ x.2.2 ≤ 4
def numP (x : Plc) : Nat := (x.1 * 45 + x.2.1 * 5 + x.2.2).toNat
theorem numP_inj {n : Nat} {x y : Plc} (hx : okP n x) (hy : okP n y) (h : numP x = numP y) : x = y := by
  obtain ⟨a, b, c⟩ := x
  obtain ⟨d, e, f⟩ := y
  unfold okP at hx hy
  unfold numP at h
  simp only at hx hy h
  have h1 : a * 45 + b * 5 + c = d * 45 + e * 5 + f := by omega
  have e1 : a = d := by omega
  subst e1
  have e2 : b = e := by omega
  subst e2
  have e3 : c = f := by omega
  rw [e3]
def free (M : List Plc) : Nat := (List.range 1125).countP fun k => !(M.map numP).contains k
theorem countP_lt {p q : Nat → Bool} : ∀ (L : List Nat), (∀ k, q k = true → p k = true) → ∀ a ∈ L, p a = true → q a = false → L.countP q < L.countP p
  | [], _, a, ha, _, _ => by cases ha
  | b :: L, h, a, ha, hp, hq => by
    have hm := List.countP_mono_left (l := L) (p := q) (q := p) fun x _ => h x
    rw [List.countP_cons, List.countP_cons]
    rcases List.mem_cons.1 ha with e | e
    · subst e
      rw [hp, hq]
      simp
      omega
    · have := countP_lt L h a e hp hq
      cases hb : q b
      · simp
        omega
      · rw [h b hb]
        simp
        omega
theorem free_cons {n : Nat} (hn : n ≤ 24) {M : List Plc} {x : Plc} (hM : ∀ y ∈ M, okP n y) (hx : okP n x) (hnew : x ∉ M) : free (x :: M) < free M := by
  unfold free
  refine countP_lt _ (fun k hk => ?_) (numP x) (List.mem_range.2 ?_) ?_ ?_
  · simp at hk ⊢
    exact hk.2
  · unfold okP at hx
    unfold numP
    omega
  · simp
    intro a b c hm he
    exact hnew (numP_inj (hM _ hm) hx he ▸ hm)
  · simp
theorem free_le (M : List Plc) : free M ≤ 1125 := by
  unfold free
  have := List.countP_le_length (l := List.range 1125) (p := fun k => !(M.map numP).contains k)
  rwa [List.length_range] at this
def lead (k : Nat) (d e : Int) (i : Ins) (a : Nat) : Plc := ((a : Int), d - takes i.1 + leaves i.1, e + if i.1 = 14 then 1 else 0)
structure Gone (l : List Ins) (M T : List Plc) (dep : List Int) : Prop where
  len : dep.length = l.length
  okM : ∀ x ∈ M, okP l.length x
  okT : ∀ x ∈ T, 0 ≤ x.1 ∧ x.1 ≤ l.length ∧ 0 ≤ x.2.1 ∧ x.2.1 ≤ 10 ∧ 0 ≤ x.2.2 ∧ x.2.2 ≤ 5
  fr : M.length + free M ≤ 1125
  tl : T.length ≤ M.length + 1
  zero : ((0, 0, 0) : Plc) ∈ M ∨ ((0, 0, 0) : Plc) ∈ T
  one : ∀ (k : Nat) (d e : Int), ((k : Int), d, e) ∈ M → k < l.length → dep.getD k (-1) = d
  dm : ∀ (k : Nat), 0 ≤ dep.getD k (-1) → ∃ e, ((k : Int), dep.getD k (-1), e) ∈ M
  enough : ∀ (k : Nat) (d e : Int) (i : Ins), ((k : Int), d, e) ∈ M → l[k]? = some i → (takes i.1 : Int) ≤ d
  next : ∀ (k : Nat) (d e : Int) (i : Ins), ((k : Int), d, e) ∈ M → l[k]? = some i → ∀ a ∈ next l k i, lead k d e i a ∈ M ∨ lead k d e i a ∈ T
  snd : ∀ c, checkC l = some c → ∀ (k : Nat) (d e : Int), ((k : Int), d, e) ∈ M ∨ ((k : Int), d, e) ∈ T → Snd l c k d e
theorem Gone.start (l : List Ins) : Gone l [] [(0, 0, 0)] (List.replicate l.length (-1)) where
  len := List.length_replicate
  okM := fun x hx => by cases hx
  okT := fun x hx => by rw [List.mem_singleton] at hx; subst hx; exact ⟨by decide, by simp, by decide, by decide, by decide, by decide⟩
  fr := by have := free_le []; simpa using this
  tl := Nat.le_refl _
  zero := .inr (List.mem_singleton.2 rfl)
  one := fun k d e h => by cases h
  dm := fun k h => by
    rw [List.getD_eq_getElem?_getD, List.getElem?_replicate] at h
    split at h <;> simp at h
  enough := fun k d e i h => by cases h
  next := fun k d e i h => by cases h
  snd := fun c hc k d e h => by
    rcases h with h | h
    · cases h
    · rw [List.mem_singleton] at h
      simp only [Prod.mk.injEq] at h
      obtain ⟨h1, rfl, rfl⟩ := h
      obtain rfl : k = 0 := by omega
      exact snd_zero hc
section
variable {l : List Ins} {M T : List Plc} {dep : List Int} {x : Plc} {k : Nat} {d e : Int}
theorem mem_back {y : Plc} (h : y ∈ M ∨ y ∈ T ++ [x]) (hx : x ∈ M) : y ∈ M ∨ y ∈ T := by
  rcases h with h | h
  · exact .inl h
  · rcases List.mem_append.1 h with h | h
    · exact .inr h
    · rw [List.mem_singleton] at h; exact .inl (h ▸ hx)
theorem Gone.skip (h : Gone l M (T ++ [x]) dep) (hx : x ∈ M) : Gone l M T dep where
  len := h.len
  okM := h.okM
  okT := fun y hy => h.okT y (List.mem_append_left _ hy)
  fr := h.fr
  tl := by have := h.tl; rw [List.length_append] at this; simp at this; omega
  zero := mem_back h.zero hx
  one := h.one
  dm := h.dm
  enough := h.enough
  next := fun k d e i hm hi a ha => mem_back (h.next k d e i hm hi a ha) hx
  snd := fun c hc k d e hm => h.snd c hc k d e (hm.imp id fun q => List.mem_append_left _ q)
theorem Gone.at (h : Gone l M (T ++ [((k : Int), d, e)]) dep) : k ≤ l.length ∧ 0 ≤ d ∧ d ≤ 10 ∧ 0 ≤ e ∧ e ≤ 5 := by
  obtain ⟨h1, h2, h3, h4, h5, h6⟩ := h.okT _ (List.mem_append_right _ (List.mem_singleton.2 rfl))
  simp only at h1 h2 h3 h4 h5 h6
  exact ⟨by omega, h3, h4, h5, h6⟩
theorem mem_on {y : Plc} {T' : List Plc} (h : y ∈ M ∨ y ∈ T ++ [x]) : y ∈ x :: M ∨ y ∈ T ++ T' := by
  rcases h with h | h
  · exact .inl (List.mem_cons_of_mem _ h)
  · rcases List.mem_append.1 h with h | h
    · exact .inr (List.mem_append_left _ h)
    · rw [List.mem_singleton] at h; exact .inl (h ▸ List.mem_cons_self ..)
theorem mem_off {y : Plc} (h : y ∈ x :: M ∨ y ∈ T) : y ∈ M ∨ y ∈ T ++ [x] := by
  rcases h with h | h
  · rcases List.mem_cons.1 h with h | h
    · exact .inr (List.mem_append_right _ (List.mem_singleton.2 h))
    · exact .inl h
  · exact .inr (List.mem_append_left _ h)
theorem Gone.last (hn : l.length ≤ 24) (h : Gone l M (T ++ [((k : Int), d, e)]) dep) (hnew : ((k : Int), d, e) ∉ M) (h8 : d ≤ 8) (h4 : e ≤ 4) (hk : l.length ≤ k) : Gone l (((k : Int), d, e) :: M) T dep := by
  obtain ⟨a1, a2, a3, a4, a5⟩ := h.at
  have hok : okP l.length ((k : Int), d, e) := ⟨by simp, by simpa using a1, a2, h8, a4, h4⟩
  have hnone : ∀ {i : Ins}, l[k]? = some i → False := fun hi => by have := (List.getElem?_eq_some_iff.1 hi).1; omega
  refine ⟨h.len, fun y hy => ?_, fun y hy => h.okT y (List.mem_append_left _ hy), ?_, ?_, ?_, fun k' d' e' hm hk' => ?_, fun k' h0 => ?_, fun k' d' e' i hm hi => ?_, fun k' d' e' i hm hi a ha => ?_, fun c hc k' d' e' hm => h.snd c hc k' d' e' (mem_off hm)⟩
  · rcases List.mem_cons.1 hy with e1 | e1
    · exact e1 ▸ hok
    · exact h.okM y e1
  · have := free_cons hn h.okM hok hnew
    have := h.fr
    rw [List.length_cons]
    omega
  · have := h.tl
    rw [List.length_append] at this
    rw [List.length_cons]
    simp at this
    omega
  · simpa using mem_on (T' := []) h.zero
  · rcases List.mem_cons.1 hm with e1 | e1
    · simp only [Prod.mk.injEq] at e1
      omega
    · exact h.one k' d' e' e1 hk'
  · obtain ⟨e', hm⟩ := h.dm k' h0
    exact ⟨e', List.mem_cons_of_mem _ hm⟩
  · rcases List.mem_cons.1 hm with e1 | e1
    · simp only [Prod.mk.injEq] at e1
      obtain rfl : k' = k := by omega
      exact absurd hi (fun x => hnone x)
    · exact h.enough k' d' e' i e1 hi
  · rcases List.mem_cons.1 hm with e1 | e1
    · simp only [Prod.mk.injEq] at e1
      obtain rfl : k' = k := by omega
      exact absurd hi (fun x => hnone x)
    · simpa using mem_on (T' := []) (h.next k' d' e' i e1 hi a ha)
theorem next_len2 (l : List Ins) (k : Nat) (i : Ins) : (Vm.next l k i).length ≤ 2 := by
  unfold Vm.next
  repeat' split
  all_goals simp
theorem Gone.go (hn : l.length ≤ 24) (h : Gone l M (T ++ [((k : Int), d, e)]) dep) (hnew : ((k : Int), d, e) ∉ M) (h8 : d ≤ 8) (h4 : e ≤ 4) {i : Ins} (hi : l[k]? = some i) (hdep : ¬ (0 ≤ dep.getD k (-1) ∧ dep.getD k (-1) ≠ d)) (ht : (takes i.1 : Int) ≤ d) :
    Gone l (((k : Int), d, e) :: M) (T ++ (Vm.next l k i).map (lead k d e i)) (dep.set k d) := by
  obtain ⟨a1, a2, a3, a4, a5⟩ := h.at
  have hlt : k < l.length := (List.getElem?_eq_some_iff.1 hi).1
  have hok : okP l.length ((k : Int), d, e) := ⟨by simp, by simpa using a1, a2, h8, a4, h4⟩
  have hlv : (leaves i.1 : Int) ≤ 2 := by unfold leaves; repeat' split
                                          all_goals decide
  have hp : (0 : Int) ≤ (if i.1 = 14 then 1 else 0) ∧ (if i.1 = 14 then 1 else 0) ≤ (1 : Int) := by split <;> decide
  refine ⟨by rw [List.length_set]; exact h.len, fun y hy => ?_, fun y hy => ?_, ?_, ?_, mem_on h.zero, fun k' d' e' hm hk' => ?_, fun k' h0 => ?_, fun k' d' e' i' hm hi' => ?_, fun k' d' e' i' hm hi' a ha => ?_, fun c hc k' d' e' hm => ?_⟩
  · rcases List.mem_cons.1 hy with e1 | e1
    · exact e1 ▸ hok
    · exact h.okM y e1
  · rcases List.mem_append.1 hy with e1 | e1
    · exact h.okT y (List.mem_append_left _ e1)
    · obtain ⟨a, ha, rfl⟩ := List.mem_map.1 e1
      have := next_le' hlt a ha
      unfold lead
      simp only
      omega
  · have := free_cons hn h.okM hok hnew
    have := h.fr
    rw [List.length_cons]
    omega
  · have := h.tl
    have := next_len2 l k i
    simp only [List.length_append, List.length_map, List.length_cons, List.length_nil] at *
    omega
  · rw [getD_set]
    rcases List.mem_cons.1 hm with e1 | e1
    · simp only [Prod.mk.injEq] at e1
      obtain ⟨e2, rfl, rfl⟩ := e1
      rw [if_pos ⟨by omega, by rw [h.len]; exact hlt⟩]
    · have h1 := h.one k' d' e' e1 hk'
      split
      · rename_i hq
        obtain ⟨rfl, _⟩ := hq
        have := h.okM _ e1
        unfold okP at this
        simp only at this
        have hne : ¬ dep.getD k' (-1) ≠ d := fun q => hdep ⟨by omega, q⟩
        rw [← h1]
        exact (Classical.not_not.1 hne).symm
      · exact h1
  · rw [getD_set] at h0 ⊢
    by_cases hq : k' = k ∧ k < dep.length
    · rw [if_pos hq]
      exact ⟨e, by rw [hq.1]; exact List.mem_cons_self ..⟩
    · rw [if_neg hq] at h0 ⊢
      obtain ⟨e', hm⟩ := h.dm k' h0
      exact ⟨e', List.mem_cons_of_mem _ hm⟩
  · rcases List.mem_cons.1 hm with e1 | e1
    · simp only [Prod.mk.injEq] at e1
      obtain ⟨e2, rfl, rfl⟩ := e1
      obtain rfl : k' = k := by omega
      rw [hi] at hi'
      cases hi'
      exact ht
    · exact h.enough k' d' e' i' e1 hi'
  · rcases List.mem_cons.1 hm with e1 | e1
    · simp only [Prod.mk.injEq] at e1
      obtain ⟨e2, rfl, rfl⟩ := e1
      obtain rfl : k' = k := by omega
      rw [hi] at hi'
      cases hi'
      exact .inr (List.mem_append_right _ (List.mem_map.2 ⟨a, ha, rfl⟩))
    · exact mem_on (h.next k' d' e' i' e1 hi' a ha)
  · rcases hm with hm | hm
    · rcases List.mem_cons.1 hm with e1 | e1
      · exact h.snd c hc k' d' e' (.inr (List.mem_append_right _ (List.mem_singleton.2 e1)))
      · exact h.snd c hc k' d' e' (.inl e1)
    · rcases List.mem_append.1 hm with e1 | e1
      · exact h.snd c hc k' d' e' (.inr (List.mem_append_left _ e1))
      · obtain ⟨a, ha, e2⟩ := List.mem_map.1 e1
        unfold lead at e2
        simp only [Prod.mk.injEq] at e2
        obtain ⟨e3, rfl, rfl⟩ := e2
        obtain rfl : a = k' := by omega
        exact snd_next hc (h.snd c hc k d e (.inr (List.mem_append_right _ (List.mem_singleton.2 rfl)))) hi a ha
theorem Gone.fin (hf : Co.fitsI l = true) (h : Gone l M [] dep) : safe l = true := by
  have hin : ∀ {y : Plc}, y ∈ M ∨ y ∈ ([] : List Plc) → y ∈ M := fun hy => hy.elim id fun q => by cases q
  refine safe_of_closed hf (M := fun k d e => ((k : Int), d, e) ∈ M) ⟨?_, fun k d e hm => ?_, fun k d e d' e' h1 h2 hk => ?_, fun k d e i hm hi => h.enough k d e i hm hi, fun k d e i hm hi a ha => hin (h.next k d e i hm hi a ha)⟩
  · exact hin h.zero
  · have := h.okM _ hm
    unfold okP at this
    simp only at this
    omega
  · exact (h.one k d e h1 hk).symm.trans (h.one k d' e' h2 hk)
end
end Vm

/-! A program that was trimmed: plain laws. -/
namespace Vm
set_option linter.unusedSimpArgs false
set_option linter.unusedVariables false
open Ga

def livesL : List Ins → List Int → List Bool
  | i :: l, d :: ds => (decide (d ≠ -1) && (decide (i.1 ≠ 16) || decide (0 < ((livesL l ds).take i.2.toNat).count true))) :: livesL l ds
  | _, _ => []
def trimOne (i : Ins) (n : Nat) : Ins := if i.1 = 15 ∧ n = 0 then (13, 0) else if i.1 = 15 ∨ i.1 = 16 then (i.1, (n : Int)) else i
def trimL : List Ins → List Bool → List Ins
  | i :: l, b :: st => if b = true then trimOne i ((st.take i.2.toNat).count true) :: trimL l st else trimL l st
  | _, _ => []
def pos (st : List Bool) (k : Nat) : Nat := (st.take k).count true
theorem lives_len : ∀ (p : List Ins) (ds : List Int), ds.length = p.length → (livesL p ds).length = p.length
  | [], [], _ => rfl
  | [], d :: ds, h => by cases h
  | i :: l, [], h => by cases h
  | i :: l, d :: ds, h => by
    rw [livesL, List.length_cons, lives_len l ds (by simpa using h), List.length_cons]
theorem pos_zero (st : List Bool) : pos st 0 = 0 := rfl
theorem pos_cons (b : Bool) (st : List Bool) (k : Nat) : pos (b :: st) (k + 1) = (if b = true then 1 else 0) + pos st k := by
  unfold pos
  rw [List.take_succ_cons, List.count_cons]
  cases b <;> simp
  omega
theorem pos_succ : ∀ (st : List Bool) (k : Nat), pos st (k + 1) = pos st k + if st.getD k false = true then 1 else 0
  | [], k => by simp [pos]
  | b :: st, 0 => by rw [pos_cons, pos_zero, pos_zero]; cases b <;> rfl
  | b :: st, k + 1 => by
    rw [pos_cons, pos_cons, pos_succ st k, List.getD_cons_succ]; omega
theorem pos_mono (st : List Bool) (k : Nat) : ∀ n, pos st k ≤ pos st (k + n)
  | 0 => Nat.le_refl _
  | n + 1 => by
    have := pos_succ st (k + n)
    have := pos_mono st k n
    have e : k + (n + 1) = k + n + 1 := rfl
    rw [e]; omega
theorem pos_all {st : List Bool} {k : Nat} (h : st.length ≤ k) : pos st k = st.count true := by
  unfold pos; rw [List.take_of_length_le h]
theorem over_eq (st : List Bool) (j n : Nat) : ((st.drop j).take n).count true = pos st (j + n) - pos st j := by
  unfold pos
  rw [List.take_add, List.count_append]; omega
theorem trim_len : ∀ (p : List Ins) (st : List Bool), st.length = p.length → (trimL p st).length = st.count true
  | [], [], _ => rfl
  | [], b :: st, h => by cases h
  | i :: l, [], h => by cases h
  | i :: l, b :: st, h => by
    have := trim_len l st (by simpa using h)
    rw [trimL]
    cases b <;> simp [this]
theorem lives_at : ∀ (p : List Ins) (ds : List Int) (k : Nat) (i : Ins), ds.length = p.length → p[k]? = some i → (livesL p ds).getD k false = (decide (ds.getD k (-1) ≠ -1) && (decide (i.1 ≠ 16) || decide (0 < ((((livesL p ds).drop (k + 1)).take i.2.toNat).count true))))
  | [], ds, k, i, _, h => by simp at h
  | j :: l, [], k, i, h, _ => by cases h
  | j :: l, d :: ds, 0, i, h, hi => by
    rw [List.getElem?_cons_zero] at hi
    cases hi
    rw [livesL]; rfl
  | j :: l, d :: ds, k + 1, i, h, hi => by
    rw [List.getElem?_cons_succ] at hi
    rw [livesL, List.getD_cons_succ, List.getD_cons_succ, List.drop_succ_cons]
    exact lives_at l ds k i (by simpa using h) hi

/-! ### the ways of the whole, and of what is left -/
theorem goC_len {p : List Ins} {c : Cst} : ∀ (l : List Ins) (k : Nat) (s : Cst), goC p l k s = some c → c.depth.length = s.depth.length
  | [], k, s, h => by cases h; rfl
  | i :: l, k, s, h => by
    rw [goC] at h
    split at h
    · split at h
      · exact (goC_len l _ _ h).trans (stepC_len ..)
      · cases h
    · exact goC_len l _ _ h
theorem checkC_len {p : List Ins} {c : Cst} (h : checkC p = some c) : c.depth.length = p.length := by
  unfold checkC at h
  split at h
  · exact (goC_len p 0 _ h).trans (start_len _)
  · cases h
section
variable {p : List Ins} {c : Cst}
theorem stay_known (hc : checkC p = some c) {k : Nat} {i : Ins} (hi : p[k]? = some i) (hd : c.depth.getD k (-1) ≠ -1) (hs : (livesL p c.depth).getD k false ≠ true) : i.1 = 16 ∧ pos (livesL p c.depth) (k + 1 + i.2.toNat) = pos (livesL p c.depth) (k + 1) := by
  have hl : c.depth.length = p.length := checkC_len hc
  have h := lives_at p c.depth k i hl hi
  rw [over_eq] at h
  have hm := pos_mono (livesL p c.depth) (k + 1) i.2.toNat
  rw [h] at hs
  simp only [Bool.and_eq_true, Bool.or_eq_true, decide_eq_true_eq, ne_eq, not_and, not_or] at hs
  have := hs hd
  omega
theorem stay_off {k : Nat} (hs : (livesL p c.depth).getD k false ≠ true) : pos (livesL p c.depth) (k + 1) = pos (livesL p c.depth) k := by
  rw [pos_succ, if_neg hs]; rfl
/-- where a way leads, past jumps that are left out -/
theorem resolve (hc : checkC p = some c) : ∀ (m k : Nat) (d e : Int), p.length - k ≤ m → Snd p c k d e → pos (livesL p c.depth) k < (trimL p (livesL p c.depth)).length → ∃ k2, (livesL p c.depth).getD k2 false = true ∧ pos (livesL p c.depth) k2 = pos (livesL p c.depth) k ∧ Snd p c k2 d e
  | m, k, d, e, hm, hs, hp => by
    have hl : c.depth.length = p.length := checkC_len hc
    have hlv := lives_len p c.depth hl
    rw [trim_len p _ hlv] at hp
    have hk : k < p.length := by
      rcases Nat.lt_or_ge k p.length with x | x
      · exact x
      · rw [pos_all (by omega)] at hp; omega
    by_cases hst : (livesL p c.depth).getD k false = true
    · exact ⟨k, hst, rfl, hs⟩
    · cases m with
      | zero => omega
      | succ m =>
        obtain ⟨h1, h2, h3⟩ := hs.2.2.2.2 hk
        have hi : p[k]? = some p[k] := List.getElem?_eq_getElem hk
        obtain ⟨h16, hj⟩ := stay_known hc hi (by omega) hst
        have hn : min (k + 1 + p[k].2.toNat) p.length ∈ next p k p[k] := by
          unfold next
          rw [if_neg (by omega), if_pos h16]
          exact List.mem_singleton.2 rfl
        have hs2 := snd_next hc hs hi _ hn
        have ht : takes p[k].1 = 0 := by rw [h16]; rfl
        have hv : leaves p[k].1 = 0 := by rw [h16]; rfl
        rw [ht, hv, if_neg (by omega)] at hs2
        rw [show d - ((0 : Nat) : Int) + ((0 : Nat) : Int) = d by omega, Int.add_zero] at hs2
        have hpe : pos (livesL p c.depth) (min (k + 1 + p[k].2.toNat) p.length) = pos (livesL p c.depth) k := by
          rcases Nat.le_total (k + 1 + p[k].2.toNat) p.length with x | x
          · rw [Nat.min_eq_left x, hj, stay_off hst]
          · rw [Nat.min_eq_right x, pos_all (by omega), ← pos_all (k := k + 1 + p[k].2.toNat) (by omega), hj, stay_off hst]
        obtain ⟨k2, q1, q2, q3⟩ := resolve hc m _ d e (by omega) hs2 (by rw [trim_len p _ hlv, hpe]; exact hp)
        exact ⟨k2, q1, q2.trans hpe, q3⟩
/-! ### and they run alike -/
end
end Vm
