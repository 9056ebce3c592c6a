import Derived.Test.YthlmmfljeblflaaGreatDoorRows
import Derived.Test.YthlmmfljeblflaaGreatDoorMc0
import Derived.Lib.ItoaNum
import Derived.WalkKit
import Derived.WalkSpells
import Derived.Lib.Hide
import Derived.Outline
import Derived.LoopTactic
/-! Digits of a number, by the other text. -/
namespace Go.Proofs.YthlmmfljeblflaaGreatDoor
set_option linter.unusedSimpArgs false
set_option linter.unusedVariables false
open Go.RowKit

abbrev str (l : List UInt8) : Value := .string ⟨l.toArray⟩
def digs : ByteArray := ⟨#[48, 49, 50, 51, 52, 53, 54, 55, 56, 57]⟩
theorem digs_at (k : Nat) (h : k < 10) : digs.extract k (k + 1) = ⟨[UInt8.ofNat (48 + k)].toArray⟩ := by
  match k, h with
  | 0, _ | 1, _ | 2, _ | 3, _ | 4, _ | 5, _ | 6, _ | 7, _ | 8, _ | 9, _ => decide +kernel

/-- the digits ahead of the last one -/
def hiD (m : Nat) : List UInt8 := if m < 10 then [] else Lib.decDigits (m / 10)
theorem dec_hi (m : Nat) : Lib.decDigits m = hiD m ++ [UInt8.ofNat (48 + m % 10)] := by
  unfold hiD
  rw [Lib.decDigits]
  by_cases h : m < 10
  · rw [dif_pos h, if_pos h, Nat.mod_eq_of_lt h]; rfl
  · rw [dif_neg h, if_neg h]
theorem dec_len (m : Nat) (h : m < 18446744073709551616) : (Lib.decDigits m).length ≤ 20 := by
  have key : ∀ (k m : Nat), m < 10 ^ (k + 1) → (Lib.decDigits m).length ≤ k + 1 := by
    intro k
    induction k with
    | zero => intro m hm; rw [Lib.decDigits, dif_pos (by omega)]; simp
    | succ k ih =>
      intro m hm
      rw [Lib.decDigits]
      split
      · simp
      · have := ih (m / 10) (by rw [Nat.pow_succ] at hm; omega)
        simp; omega
  exact key 19 m (by omega)
theorem itoa_len (n : Int) (h : -9223372036854775808 ≤ n ∧ n ≤ 9223372036854775807) : (Lib.itoa n).length ≤ 21 := by
  unfold Lib.itoa
  split
  · have := dec_len n.natAbs (by omega); simp; omega
  · have := dec_len n.toNat (by omega); omega

theorem str_cat (a b : List UInt8) : (⟨a.toArray⟩ ++ ⟨b.toArray⟩ : ByteArray) = ⟨(a ++ b).toArray⟩ := ByteArray.mk_append_mk a b

set_option maxHeartbeats 1000000 in
theorem digits_pos (N : Nat) (hN : N ≤ 9223372036854775807) (w : World) : Calls Tryz.prog 6 #[.int .i64 N] w fun e w' => e = .returned (str (Lib.itoa N)) ∧ w = w' := by
  have h0 : ¬ (N : Int) < 0 := by omega
  go_enter Tryz.func6, Tryz.ntmps6
  go_wp2
  go_loop [0, 5] (fun i t => ∃ (m : Nat) (l : List UInt8), m ≤ N ∧ l.length ≤ 20 ∧ i = .int .i64 m ∧ t = str l ∧ Lib.decDigits N = hiD m ++ l) (fun i _ => (intOf i).toNat)
  case atStart =>
    refine ⟨N, [UInt8.ofNat (48 + N % 10)], Nat.le_refl _, by simp, rfl, ?_, dec_hi N⟩
    exact congrArg Value.string (digs_at (N % 10) (Nat.mod_lt _ (by decide)))
  case round =>
    obtain ⟨m, l, hm, hl, rfl, rfl, hd⟩ := hrel
    have hlen : l.length ≤ 19 ∨ m < 10 := by
      have h1 := dec_len N (by omega)
      rw [hd, List.length_append] at h1
      by_cases h : m < 10
      · exact .inr h
      · left
        unfold hiD at h1
        rw [if_neg h] at h1
        have := congrArg List.length (dec_hi (m / 10))
        rw [List.length_append] at this; simp at this; omega
    have HD := Lib.hid hd
    clear hd
    by_cases hlt : m < 10
    · go_wp2
      go_ret
      refine ⟨?_, rfl⟩
      have h1 := HD.out
      unfold hiD at h1
      rw [if_pos hlt, List.nil_append] at h1
      have h2 : Lib.itoa N = l := by unfold Lib.itoa; rw [if_neg (by omega)]; simpa using h1
      rw [h2]
      rfl
    · have h10 := hlen.resolve_right hlt
      go_wp2
      go_round
      case rel =>
        refine ⟨m / 10, [UInt8.ofNat (48 + m / 10 % 10)] ++ l, by omega, by simp; omega, by go_num, ?_, ?_⟩
        · have e := digs_at (m / 10 % 10) (Nat.mod_lt _ (by decide))
          exact congrArg Value.string (by rw [← str_cat, ← e]; rfl)
        · rw [HD.out, ← List.append_assoc, ← dec_hi (m / 10)]
          unfold hiD
          rw [if_neg hlt]
      case measure => simp [intOf]; omega

theorem tdiv_neg10 (m : Nat) : (-(m : Int)).tdiv 10 = -((m / 10 : Nat) : Int) := by rw [Int.neg_tdiv]; rfl
theorem tmod_neg10 (m : Nat) : (-(m : Int)).tmod 10 = -((m % 10 : Nat) : Int) := by rw [Int.neg_tmod]; rfl
theorem itoa_neg (m : Nat) (h : 0 < m) : Lib.itoa (-(m : Int)) = 45 :: Lib.decDigits m := by
  unfold Lib.itoa
  rw [if_pos (by omega)]
  simp

theorem digs_at' (k : Nat) (h : k < 10) : digs.extract k (1 + k) = ⟨[UInt8.ofNat (48 + k)].toArray⟩ := by rw [Nat.add_comm]; exact digs_at k h

set_option maxHeartbeats 1000000 in
theorem digits_neg (k : Nat) : ∀ (m : Nat) (n : Int) (w : World), n = -(m : Int) → m ≤ k → 0 < m → m ≤ 9223372036854775808 → Calls Tryz.prog 6 #[.int .i64 n] w fun e w' => e = .returned (str (Lib.itoa n)) ∧ w = w' := by
  induction k with
  | zero => intro m n w _ h h2; omega
  | succ k ih =>
    intro m n w hn hk hpos hlo
    have hd := digs_at' (m % 10) (Nat.mod_lt _ (by decide))
    have ht := tmod_neg10 m
    have hv := tdiv_neg10 m
    rw [← hn] at ht hv
    have hr : m % 10 < 10 := Nat.mod_lt _ (by decide)
    have hneg : n < 0 := by omega
    have hit : Lib.itoa n = 45 :: Lib.decDigits m := by rw [hn]; exact itoa_neg m hpos
    have IH := Lib.hid ih
    have HD := Lib.hid hd
    have HN := Lib.hid hn
    clear hd hn ih
    by_cases h10 : m < 10
    · have hn10 : -10 < n := by have := HN.out; omega
      have hfin : Lib.itoa n = [45] ++ [UInt8.ofNat (48 + m % 10)] := by
        rw [hit, Lib.decDigits, dif_pos h10, Nat.mod_eq_of_lt h10]; rfl
      have HF := Lib.hid hfin
      clear hfin hv hit
      go_enter Tryz.func6, Tryz.ntmps6
      go_wp2
      go_ret
      refine ⟨?_, rfl⟩
      rw [HF.out]
      exact congrArg (fun b => Ending.returned (Value.string b)) (by rw [← str_cat, ← HD.out]; rfl)
    · have hn10 : ¬ -10 < n := by have := HN.out; omega
      have hfin : Lib.itoa n = Lib.itoa (n.tdiv 10) ++ [UInt8.ofNat (48 + m % 10)] := by
        rw [hit, Lib.decDigits, dif_neg h10, hv, itoa_neg (m / 10) (by omega), List.cons_append]
      have hlen := itoa_len (n.tdiv 10) (by rw [hv]; omega)
      rw [hv] at hfin hlen
      have HF := Lib.hid hfin
      have hlen' : (Lib.itoa (-((m : Int) / 10))).length ≤ 21 := hlen
      clear hfin hit hlen
      go_enter Tryz.func6, Tryz.ntmps6
      go_wp2_with (go_at_call 6; refine (IH.out (m / 10) _ _ (by omega) (by omega) (by omega) (by omega)).mono ?_; rintro e w1 ⟨rfl, rfl⟩)
      go_ret
      refine ⟨?_, rfl⟩
      rw [HF.out]
      exact congrArg (fun b => Ending.returned (Value.string b)) (by rw [← str_cat, ← HD.out]; rfl)

theorem digits_any (n : Int) (h : -9223372036854775808 ≤ n ∧ n ≤ 9223372036854775807) (w : World) : Calls Tryz.prog 6 #[.int .i64 n] w fun e w' => e = .returned (str (Lib.itoa n)) ∧ w = w' := by
  by_cases hn : n < 0
  · exact digits_neg n.natAbs n.natAbs n w (by omega) (Nat.le_refl _) (by omega) (by omega)
  · obtain ⟨N, rfl⟩ := Int.eq_ofNat_of_zero_le (show 0 ≤ n by omega)
    exact digits_pos N (by omega) w
end Go.Proofs.YthlmmfljeblflaaGreatDoor

/-! A slice of the call's own, seen from further back. -/
namespace Go.Proofs.YthlmmfljeblflaaGreatDoor
set_option linter.unusedSimpArgs false
set_option linter.unusedVariables false
open Go.RowKit
set_option maxRecDepth 100000

theorem OwnAt.low {α : Type} {base base' : Nat} {e : TypeId} {k : Nat} {enc : α → List Value} {w : World} {v : Value} {l : List α} (h : OwnAt base e k enc w v l) (hb : base' ≤ base) : OwnAt base' e k enc w v l := by
  obtain ⟨h3, h4⟩ := h
  refine ⟨h3, ?_⟩
  rcases h4 with h | ⟨g2, cap2, cur, hv2, hb2, r⟩
  · exact .inl h
  · exact .inr ⟨g2, cap2, cur, hv2, Nat.le_trans hb hb2, r⟩
end Go.Proofs.YthlmmfljeblflaaGreatDoor

/-! All blocks but one stay. -/
namespace Go.Proofs.YthlmmfljeblflaaGreatDoor
set_option linter.unusedSimpArgs false
set_option linter.unusedVariables false
open Go.RowKit
set_option maxRecDepth 100000

/-- No block but B is another. -/
def Keep (B : Nat) (w w' : World) : Prop := w.heap.size ≤ w'.heap.size ∧ ∀ q, q < w.heap.size → q ≠ B → w'.heap[q]? = w.heap[q]?
theorem Keep.ofGrew {B : Nat} {w w' : World} (g : Grew w w') : Keep B w w' := ⟨g.below.size, fun q hq _ => g.below.block q hq⟩
theorem Keep.trans {B : Nat} {a b c : World} (h : Keep B a b) (k : Keep B b c) : Keep B a c :=
  ⟨Nat.le_trans h.1 k.1, fun q hq hn => (k.2 q (Nat.lt_of_lt_of_le hq h.1) hn).trans (h.2 q hq hn)⟩
theorem Keep.set {w : World} {B : Nat} (v : Value) : Keep B w (w.setCell ⟨B, 0, none⟩ v) :=
  ⟨by simp [World.size_setCell], fun q _ hn => set_other (fun e => hn e.symm)⟩
theorem Keep.own {α : Type} {base B : Nat} {e : TypeId} {k : Nat} {enc : α → List Value} {w w' : World} {v : Value} {l : List α} (h : Keep B w w') (ho : OwnAt base e k enc w v l) (hne : v.ownBlock ≠ some B) : OwnAt base e k enc w' v l :=
  OwnAt.same ho fun b hb => h.2 b (by have := (World.ownsRow.lt ho b hb).2; exact this) (fun e => hne (by rw [hb, e]))
end Go.Proofs.YthlmmfljeblflaaGreatDoor
