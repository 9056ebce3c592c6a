import Derived.Test.YtmnllmbchpebbaaGreatDoorGe4
import Derived.Test.YtmnllmbchpebbaaGreatDoorGe0
import Derived.Test.YtmnllmbchpebbaaGreatDoorGe5
import Derived.Scope
import Derived.Laws.RangeString
import Derived.Lib.TrimU
import Derived.Lib.TrimAscii
import Derived.Lib.AsciiSet
import Derived.Lib.Hide
import Derived.Deep.WholeRow
import Derived.Test.YtmnllmbchpebbaaGreatDoorGe3
import Derived.Lib.AtoiTie
import Derived.Lib.PathFns
import Derived.Test.YtmnllmbchpebbaaGreatDoorRows
import Derived.Lib.LaidU8T
import Derived.Lib.LaidTab
import Derived.Stop.LaidErr
/-! strings.IndexRune of a rune beyond ASCII in "+-": -1. -/
namespace Go.Proofs.YtmnllmbchpebbaaGreatDoor
open Go.RowKit
set_option linter.unusedSimpArgs false
set_option linter.unusedVariables false
set_option maxRecDepth 100000

theorem indexRune_invalid (r : Int) (h0 : 128 ≤ r) (h1 : r ≤ 1114111) (w : World) (h65 : (r == 65533) = false) (hv : Lib.validRune r = false) :
    Calls Tryz.prog 161 #[.string ⟨#[43, 45]⟩, .int .i32 r] w fun e w' => e = .returned (.int .i64 (-1)) ∧ w = w' := by
  go_enter Tryz.func161, Tryz.ntmps161
  go_wp2_with (go_at_call 186; refine (Tryz.utf8_ValidRune _ _).mono ?_; rintro e w' ⟨rfl, rfl⟩)
  go_ret
  exact ⟨rfl, rfl⟩

theorem iter_grew (w : World) (s : ByteArray) (k : Nat) : Grew w (w.iter s k) := (Grew.refl w).alloc _
theorem next_pm0 (w : World) (ty : TypeId) : (Instr.next (.pointer (some ⟨w.heap.size, 0, none⟩)) true ty).run Tryz.prog (w.iter ⟨#[43, 45]⟩ 0) = .ok (.tuple #[.bool true, .int .i64 0, .int .i32 43]) (w.iter ⟨#[43, 45]⟩ 1) :=
  run_next_ascii w ⟨#[43, 45]⟩ 0 ty (by decide) (by decide)
theorem next_pm1 (w : World) (ty : TypeId) : (Instr.next (.pointer (some ⟨w.heap.size, 0, none⟩)) true ty).run Tryz.prog (w.iter ⟨#[43, 45]⟩ 1) = .ok (.tuple #[.bool true, .int .i64 1, .int .i32 45]) (w.iter ⟨#[43, 45]⟩ 2) :=
  run_next_ascii w ⟨#[43, 45]⟩ 1 ty (by decide) (by decide)
theorem next_pm2 (w : World) (ty : TypeId) : (Instr.next (.pointer (some ⟨w.heap.size, 0, none⟩)) true ty).run Tryz.prog (w.iter ⟨#[43, 45]⟩ 2) = .ok (.tuple #[.bool false]) (w.iter ⟨#[43, 45]⟩ 2) :=
  run_next_end w ⟨#[43, 45]⟩ 2 ty (by decide)

theorem indexRune_error (w : World) :
    Calls Tryz.prog 161 #[.string ⟨#[43, 45]⟩, .int .i32 65533] w (Gives (.int .i64 (-1)) w) := by
  have h0 := next_pm0 w
  have h1 := next_pm1 w
  have h2 := next_pm2 w
  go_enter Tryz.func161, Tryz.ntmps161
  go_wp2
  refine wp_loop_rounds 3 ?_
  rw [rounds_succ]
  go_wp2
  rw [rounds_succ]
  go_wp2
  rw [rounds_succ]
  go_wp2
  go_ret
  exact ⟨rfl, iter_grew w _ _⟩

theorem enc_shape (r : Int) (h0 : 128 ≤ r) (hv : Lib.validRune r = true) : (∃ b0 b1, Utf8.encode r = ⟨#[b0, b1]⟩ ∧ 128 ≤ b1.toNat) ∨ (∃ b0 b1 b2, Utf8.encode r = ⟨#[b0, b1, b2]⟩) ∨ (∃ b0 b1 b2 b3, Utf8.encode r = ⟨#[b0, b1, b2, b3]⟩) := by
  have hval : Utf8.valid r = true := by
    unfold Lib.validRune at hv; unfold Utf8.valid
    simp at hv ⊢
    omega
  unfold Utf8.encode
  simp only [hval, if_true]
  rw [if_neg (by omega)]
  split
  · left
    refine ⟨_, _, rfl, ?_⟩
    rw [UInt8.toNat_ofNat']
    have : r.toNat % 64 < 64 := Nat.mod_lt _ (by decide)
    omega
  · split
    · exact .inr (.inl ⟨_, _, _, rfl⟩)
    · exact .inr (.inr ⟨_, _, _, _, rfl⟩)

theorem indexRune_high (r : Int) (h0 : 128 ≤ r) (h1 : r ≤ 1114111) (w : World) (h65 : (r == 65533) = false) (hv : Lib.validRune r = true) :
    Calls Tryz.prog 161 #[.string ⟨#[43, 45]⟩, .int .i32 r] w (Gives (.int .i64 (-1)) w) := by
  rcases enc_shape r h0 hv with ⟨b0, b1, he, hb⟩ | ⟨b0, b1, b2, he⟩ | ⟨b0, b1, b2, b3, he⟩
  · have hne : ((((⟨#[43, 45]⟩ : ByteArray)[1]'(by decide)).toNat : Int) != (((⟨#[b0, b1]⟩ : ByteArray)[1]'(by simp [ByteArray.size])).toNat : Int)) = true := by
      rw [bne_iff_ne]
      show (45 : Int) ≠ (b1.toNat : Int)
      omega
    go_enter Tryz.func161, Tryz.ntmps161
    go_wp2_with (go_at_call 186; refine (Tryz.utf8_ValidRune _ _).mono ?_; rintro e w' ⟨rfl, rfl⟩)
    go_step3
    go_wp2
    refine wp_loop_rounds 1 ?_
    rw [rounds_succ]
    go_wp2
    go_step3
    go_wp2
    go_quiet (fail)
    go_wp2
    refine wp_region_seq 9 Tryz.mixed (by kernel_rfl) (by kernel_rfl) ?_
    iterate 9
      apply Seq.val
      focus
        rintro w1 u ⟨R1, n1, rfl⟩ hF
        simp [moreFacts, Fact.more, Oper.deps, Region.binds, List.filter_cons, World.more_drew] at hF
        simp [putFacts, Oper.deps, Region.binds, List.filter_cons, Region.dstOf, Fact.at, Act.put, World.more_drew]
        go_wp2_with (first
          | (go_at_call 185; refine (Tryz.strings_IndexByte _ _ _).mono ?_; rintro e w1 ⟨rfl, rfl⟩)
          )
        exact ⟨by repeat (first | with_reducible exact Grew.refl _ | apply Grew.more | apply Grew.alloc | apply Grew.drew | apply Grew.drewN), rfl, _, _, rfl, rfl, rfl⟩
    rintro u w1 ⟨R1, n1, rfl⟩ hF
    clear hF
    simp [putFacts, Region.dstOf, Fact.at, Act.put, List.range_succ, World.more_drew]
    go_wp2
    rw [Exit.noGoto_ret]
    go_ret
    refine ⟨rfl, ?_⟩
    repeat (first | with_reducible exact Grew.refl _ | apply Grew.more | apply Grew.alloc | apply Grew.drew | apply Grew.drewN)
  · go_enter Tryz.func161, Tryz.ntmps161
    go_wp2_with (go_at_call 186; refine (Tryz.utf8_ValidRune _ _).mono ?_; rintro e w' ⟨rfl, rfl⟩)
    go_step3
    go_wp2
    refine wp_loop_rounds 1 ?_
    rw [rounds_succ]
    go_wp2
    rw [Exit.noGoto_ret]
    go_ret
    exact ⟨rfl, Grew.refl _⟩
  · go_enter Tryz.func161, Tryz.ntmps161
    go_wp2_with (go_at_call 186; refine (Tryz.utf8_ValidRune _ _).mono ?_; rintro e w' ⟨rfl, rfl⟩)
    go_step3
    go_wp2
    refine wp_loop_rounds 1 ?_
    rw [rounds_succ]
    go_wp2
    rw [Exit.noGoto_ret]
    go_ret
    exact ⟨rfl, Grew.refl _⟩
/-- .. of any rune that a decoder may leave: whether it is one of the two. -/
theorem indexRune_pm (r : Int) (h0 : 0 ≤ r) (h1 : r ≤ 1114111) (w : World) :
    Calls Tryz.prog 161 #[.string ⟨#[43, 45]⟩, .int .i32 r] w (fun e w' => ∃ k : Int, e = .returned (.int .i64 k) ∧ (0 ≤ k ↔ r = 43 ∨ r = 45) ∧ Grew w w') := by
  by_cases ha : r < 128
  · refine (Tryz.strings_IndexRune_ascii ⟨#[43, 45]⟩ r w h0 ha).mono ?_
    rintro e w' ⟨rfl, rfl⟩
    refine ⟨_, rfl, ?_, Grew.refl _⟩
    obtain ⟨n, rfl⟩ : ∃ n : Nat, r = n := ⟨r.toNat, by omega⟩
    have hn : n < 128 := by omega
    have key : ∀ n : Nat, n < 128 → (0 ≤ Lib.indexByte [43, 45] (Int.toNat n).toUInt8 ↔ (n : Int) = 43 ∨ (n : Int) = 45) := by decide
    exact key n hn
  · have hno : ¬ (r = 43 ∨ r = 45) := by omega
    have key : ∀ w', Grew w w' → ∃ k : Int, Ending.returned (.int .i64 (-1)) = .returned (.int .i64 k) ∧ (0 ≤ k ↔ r = 43 ∨ r = 45) ∧ Grew w w' := fun w' hg => ⟨-1, rfl, ⟨fun h => by omega, fun h => absurd h hno⟩, hg⟩
    by_cases h65 : r = 65533
    · subst h65
      refine (indexRune_error w).mono ?_
      rintro e w' ⟨rfl, hg⟩
      exact key w' hg
    · have h65' : (r == 65533) = false := by simpa using h65
      cases hv : Lib.validRune r with
      | false =>
        refine (indexRune_invalid r (by omega) h1 w h65' hv).mono ?_
        rintro e w' ⟨rfl, rfl⟩
        exact key w (Grew.refl _)
      | true =>
        refine (indexRune_high r (by omega) h1 w h65' hv).mono ?_
        rintro e w' ⟨rfl, hg⟩
        exact key w' hg
end Go.Proofs.YtmnllmbchpebbaaGreatDoor

/-! strings.LastIndexAny(s, "+-"): of ASCII letters the last one of the two; of any it lies within. -/
namespace Go.Proofs.YtmnllmbchpebbaaGreatDoor
open Go.RowKit
set_option linter.unusedSimpArgs false
set_option linter.unusedVariables false
set_option maxRecDepth 100000

/-- One of the two signs. -/
def pm (b : UInt8) : Bool := ([43, 45] : List UInt8).contains b
/-- What is known of the place. -/
def PmAt (l : List UInt8) (k : Int) : Prop :=
  -1 ≤ k ∧ k < l.length ∧ ((∀ b ∈ l, b.toNat < 128) → (∀ (j : Nat) (b : UInt8), k < j → l[j]? = some b → pm b = false) ∧ (∀ b, 0 ≤ k → l[k.toNat]? = some b → pm b = true))

theorem pm_iff (b : UInt8) : pm b = true ↔ ((b.toNat : Int) = 43 ∨ (b.toNat : Int) = 45) := by
  unfold pm
  simp only [List.contains_cons, List.contains_nil, Bool.or_eq_true, beq_iff_eq, Bool.or_false]
  constructor
  · rintro (rfl | rfl) <;> simp
  · rintro (h | h)
    · left; apply UInt8.toNat_inj.1; show b.toNat = 43; omega
    · right; apply UInt8.toNat_inj.1; show b.toNat = 45; omega
/-- None behind it. -/
def NoPm (l : List UInt8) (n : Int) : Prop := ∀ (j : Nat) (b : UInt8), n < j → l[j]? = some b → pm b = false
theorem NoPm.step {l : List UInt8} {k : Nat} {x : UInt8} (h : NoPm l k) (hx : l[k]? = some x) (hp : pm x = false) : NoPm l ((k : Int) - 1) := by
  intro j b hj hb
  by_cases e : j = k
  · subst e; rw [hx] at hb; cases hb; exact hp
  · exact h j b (by omega) hb
theorem PmAt.hit {l : List UInt8} {k : Nat} {x : UInt8} (h : NoPm l k) (hx : l[k]? = some x) (hp : pm x = true) : PmAt l (k : Int) := by
  have hk : k < l.length := (List.getElem?_eq_some_iff.1 hx).1
  refine ⟨by omega, by omega, fun _ => ⟨h, fun b _ hb => ?_⟩⟩
  rw [Int.toNat_natCast, hx] at hb
  cases hb
  exact hp
theorem PmAt.gone {l : List UInt8} (h : NoPm l (-1)) : PmAt l (-1) := ⟨by omega, by omega, fun _ => ⟨h, fun b h0 _ => by omega⟩⟩

theorem pm_ascii (j : Nat) (b : UInt8) (h : (⟨#[43, 45]⟩ : ByteArray).data.toList[j]? = some b) : b.toNat < 128 := by
  have h1 : b ∈ [(43 : UInt8), 45] := List.mem_of_getElem? h
  have h2 : ∀ c ∈ [(43 : UInt8), 45], c.toNat < 128 := by decide
  exact h2 b h1

theorem utf8_grew {g3 g4 : Nat} {w w' : World} (h : Lib.Utf8Tabs g3 g4 w) (g : Grew w w') : Lib.Utf8Tabs g3 g4 w' := by
  obtain ⟨R, n, rfl⟩ := g
  refine ⟨fun c hc => ?_, fun i hi => ⟨?_, ?_⟩⟩
  · have := h.1 c hc
    rw [World.cell?_more_past R n _ _ (Pre.ofCell this)]; exact this
  · have := (h.2 i hi).1
    rw [World.cell?_more_past R n _ _ (Pre.ofCell this)]; exact this
  · have := (h.2 i hi).2
    rw [World.cell?_more_past R n _ _ (Pre.ofCell this)]; exact this

theorem decodeLast_grew (s : ByteArray) (w : World) (hs : s.size ≤ 9223372036854775807) (hT : Lib.Utf8Tabs 5 6 w) :
    Calls Tryz.prog 165 #[.string s] w (Gives (.tuple #[.int .i32 (Lib.decodeLastL s.data.toList).1, .int .i64 (Lib.decodeLastL s.data.toList).2]) w) :=
  (Tryz.utf8_DecodeLastRuneInString s w hs hT).mono fun _ _ ⟨h1, h2⟩ => ⟨h1, Grew.ofBelow h2⟩

set_option maxHeartbeats 4000000 in
/-- .. of a text of more than eight letters. -/
theorem lastIndexAny_long (s : ByteArray) (hs : s.size ≤ maxLen) (h8 : 8 < s.size) (w : World) :
    Calls Tryz.prog 126 #[.string s, .string ⟨#[43, 45]⟩] w (fun e w' => ∃ k : Int, e = .returned (.int .i64 k) ∧ PmAt s.data.toList k ∧ Grew w w') := by
  unfold maxLen at hs
  have hl : s.data.toList.length = s.size := (Lib.size_eq s).symm
  have HL := Lib.hid hl
  clear hl
  have hn1 : ((s.size : Int) == 1) = false := beq_eq_false_iff_ne.2 (by omega)
  have h8z : decide ((8 : Int) < (s.size : Int)) = true := decide_eq_true (by omega)
  have hv : ∀ w, (zeroValue 197).run Tryz.prog w = .ok (.agg (Array.replicate 256 (.bool false))) w := Tryz.zeroValue197
  have hM := Tryz.strings_makeASCIISet hv ⟨#[43, 45]⟩ w (by decide) pm_ascii
  have hi : (Tryz.prog.info? 197).map (·.size) = some 256 := by kernel_rfl
  generalize hA : (Lib.setCells (⟨#[43, 45]⟩ : ByteArray).data.toList) = A at hM
  have hAs : A.size = 256 := by rw [← hA]; exact Lib.setCells_size _
  have hA1 : A.all (·.oneCell') = true := by rw [← hA]; decide +kernel
  have hsc : (storeCells ⟨w.heap.size + 1, 0, none⟩ A.toList 0).run Tryz.prog ((w.alloc (.cells A 197)).alloc (.cells Tryz.zeroCells197 197)) = .ok () ((w.alloc (.cells A 197)).alloc (.cells A 197)) := by
    have := run_storeCells_new (P := Tryz.prog) (w.alloc (.cells A 197)) 197 Tryz.zeroCells197 A (by rw [hAs]; exact hi) (by rw [hAs]; kernel_rfl) hA1
    simpa using this
  have hcell : ∀ x : UInt8, ((w.alloc (.cells A 197)).alloc (.cells A 197)).cell? ⟨w.heap.size + 1, x.toNat, none⟩ = some (.bool (pm x)) := fun x => by
    rw [World.cell?_alloc_at _ _ _ _ (by simp), ← hA, Lib.setCells_at]; rfl
  have HC := Lib.hid hcell
  have HA := Lib.hid hAs
  clear hcell hAs hA hv hi
  go_enter Tryz.func126, Tryz.ntmps126
  go_wp2_with (first
    | (go_at_call 162; refine (Tryz.strings_shouldUseASCIISet _ _).mono ?_; rintro e w1 ⟨rfl, hw⟩; rw [hw, h8z])
    | (go_at_call 163; refine hM.mono ?_; rintro e w1 ⟨rfl, hw⟩; rw [hw])
    )
  go_wp2
  clear hM hsc
  go_loop [8] (fun i => ∃ n : Int, -1 ≤ n ∧ n < s.size ∧ i = .int .i64 n ∧ NoPm s.data.toList n) (fun i => (intOf i + 1).toNat)
  case atStart => exact ⟨(s.size : Int) - 1, by omega, by omega, rfl, fun j b hj hb => by have := (List.getElem?_eq_some_iff.1 hb).1; have := HL.out; omega⟩
  case round =>
    obtain ⟨n, h0, h1, rfl, hno⟩ := hrel
    have HN := Lib.hid hno
    clear hno
    by_cases hn : 0 ≤ n
    · obtain ⟨k, rfl⟩ : ∃ k : Nat, n = k := ⟨n.toNat, by omega⟩
      have hk : k < s.size := by omega
      obtain ⟨x, hx⟩ : ∃ x : UInt8, s[k]'hk = x := ⟨_, rfl⟩
      have hxl : s.data.toList[k]? = some x := by rw [← hx]; exact Lib.data_getElem? s k hk
      have HX := Lib.hid hxl
      clear hxl
      have hcx := HC.out x
      cases hin : pm x <;> rw [hin] at hcx
      · go_wp2_with (go_at_call 164; refine (Tryz.asciiSet_contains _ x _ _ hcx).mono ?_; rintro e w' ⟨rfl, hw⟩; rw [hw])
        go_round
        case rel => exact ⟨(k : Int) - 1, by omega, by omega, rfl, HN.out.step HX.out hin⟩
        case measure => first | (simp [intOf]; done) | (simp [intOf]; omega)
      · go_wp2_with (go_at_call 164; refine (Tryz.asciiSet_contains _ x _ _ hcx).mono ?_; rintro e w' ⟨rfl, hw⟩; rw [hw])
        go_ret
        refine ⟨_, rfl, PmAt.hit HN.out HX.out hin, ?_⟩
        repeat (first | with_reducible exact Grew.refl _ | apply Grew.more | apply Grew.alloc | apply Grew.drew | apply Grew.drewN)
    · obtain rfl : n = -1 := by omega
      go_wp2
      go_ret
      refine ⟨_, rfl, PmAt.gone HN.out, ?_⟩
      repeat (first | with_reducible exact Grew.refl _ | apply Grew.more | apply Grew.alloc | apply Grew.drew | apply Grew.drewN)

set_option maxHeartbeats 4000000 in
/-- .. of one letter. -/
theorem lastIndexAny_one (s : ByteArray) (h1 : s.size = 1) (w : World) :
    Calls Tryz.prog 126 #[.string s, .string ⟨#[43, 45]⟩] w (fun e w' => ∃ k : Int, e = .returned (.int .i64 k) ∧ PmAt s.data.toList k ∧ Grew w w') := by
  obtain ⟨x, hx⟩ : ∃ x : UInt8, s[0]'(by omega) = x := ⟨_, rfl⟩
  have hxl : s.data.toList[0]? = some x := by rw [← hx]; exact Lib.data_getElem? s 0 (by omega)
  have hl : s.data.toList.length = 1 := by rw [← Lib.size_eq]; exact h1
  have hx256 := x.toNat_lt
  have key : ∀ k : Int, (x.toNat < 128 → (0 ≤ k ↔ pm x = true)) → PmAt s.data.toList (if 0 ≤ k then 0 else -1) := by
    intro k hk
    have hall : (∀ b ∈ s.data.toList, b.toNat < 128) → x.toNat < 128 := fun h => h x (List.mem_of_getElem? hxl)
    refine ⟨by split <;> omega, by split <;> omega, fun ha => ?_⟩
    have hk' := hk (hall ha)
    by_cases h0 : 0 ≤ k
    · simp only [h0, if_true]
      refine ⟨fun j b hj hb => by have := (List.getElem?_eq_some_iff.1 hb).1; omega, fun b _ hb => ?_⟩
      have : s.data.toList[0]? = some b := hb
      rw [hxl] at this; cases this
      exact hk'.1 h0
    · simp only [h0, if_false]
      refine ⟨fun j b hj hb => ?_, fun b h _ => by omega⟩
      have hj0 : j = 0 := by have := (List.getElem?_eq_some_iff.1 hb).1; omega
      subst hj0
      rw [hxl] at hb; cases hb
      cases hp : pm x with
      | false => rfl
      | true => exact absurd (hk'.2 hp) h0
  have hsz : (s.size : Int) = 1 := by omega
  by_cases ha : x.toNat < 128
  all_goals
    have KEY := Lib.hid key
    clear key hxl hl
    first
      | have hz : decide (128 ≤ (x.toNat : Int)) = false := decide_eq_false (by omega)
      | have hz : decide (128 ≤ (x.toNat : Int)) = true := decide_eq_true (by omega)
    go_enter Tryz.func126, Tryz.ntmps126
    go_wp2_with (first
      | (go_at_call 161; refine (indexRune_pm _ (by omega) (by omega) _).mono ?_; rintro e w1 ⟨k, rfl, hk, R, n, rfl⟩; (have HK := Lib.hid hk); clear hk)
      )
    all_goals
      go_ret
      have hk' : x.toNat < 128 → (0 ≤ k ↔ pm x = true) := by
        first
          | exact fun _ => HK.out.trans (pm_iff x).symm
          | exact fun h => absurd h ha
      have hat := KEY.out k hk'
      refine ⟨_, rfl, ?_, ?_⟩
      · first
          | rwa [if_pos (show (0 : Int) ≤ k by assumption)] at hat
          | rwa [if_neg (show ¬ (0 : Int) ≤ k by omega)] at hat
      · repeat (first | with_reducible exact Grew.refl _ | apply Grew.more | apply Grew.alloc | apply Grew.drew | apply Grew.drewN)

set_option maxHeartbeats 4000000 in
/-- .. of none, or of two to eight letters. -/
theorem lastIndexAny_short (s : ByteArray) (h1 : s.size ≠ 1) (h8 : s.size ≤ 8) (w : World) (hT : Lib.Utf8Tabs 5 6 w) :
    Calls Tryz.prog 126 #[.string s, .string ⟨#[43, 45]⟩] w (fun e w' => ∃ k : Int, e = .returned (.int .i64 k) ∧ PmAt s.data.toList k ∧ Grew w w') := by
  have hn1 : ((s.size : Int) == 1) = false := beq_eq_false_iff_ne.2 (by omega)
  have h8z : decide ((8 : Int) < (s.size : Int)) = false := decide_eq_false (by omega)
  have hl : s.data.toList.length = s.size := (Lib.size_eq s).symm
  have HL := Lib.hid hl
  have HT := Lib.hid hT
  clear hl hT
  go_enter Tryz.func126, Tryz.ntmps126
  go_wp2_with (go_at_call 162; refine (Tryz.strings_shouldUseASCIISet _ _).mono ?_; rintro e w1 ⟨rfl, hw⟩; rw [hw, h8z])
  go_loopw [13] (fun i wr => ∃ k : Nat, k ≤ s.size ∧ i = .int .i64 k ∧ ((∀ b ∈ s.data.toList, b.toNat < 128) → NoPm s.data.toList ((k : Int) - 1)) ∧ Grew w wr) (fun i _ => (intOf i).toNat)
  case atStart => exact ⟨s.size, Nat.le_refl _, rfl, fun _ j b hj hb => by have := (List.getElem?_eq_some_iff.1 hb).1; have := HL.out; omega, Grew.refl _⟩
  case round =>
    obtain ⟨k, hk, rfl, hno, R, n, rfl⟩ := hrel
    have HN := Lib.hid hno
    clear hno
    by_cases h0 : 0 < k
    · have hex : (s.extract 0 k).data.toList = s.data.toList.take k := by simp
      have hlen : (s.extract 0 k).data.toList.length = k := by rw [hex, List.length_take, HL.out]; omega
      have hwd := Lib.decodeLastL_width (s.extract 0 k).data.toList (by omega)
      rw [hlen] at hwd
      have hr := Lib.decodeLastL_rune (s.extract 0 k).data.toList
      have hsz : (s.extract 0 k).size ≤ 9223372036854775807 := by rw [Lib.size_eq]; omega
      have hD := fun W hW => decodeLast_grew (s.extract 0 k) W hsz hW
      have hasc : (∀ b ∈ s.data.toList, b.toNat < 128) → ∃ x : UInt8, s.data.toList[k - 1]? = some x ∧ Lib.decodeLastL (s.extract 0 k).data.toList = (x.toNat, 1) := by
        intro ha
        have hk1 : k - 1 < s.data.toList.length := by rw [HL.out]; omega
        refine ⟨s.data.toList[k - 1], List.getElem?_eq_getElem hk1, ?_⟩
        have htk : s.data.toList.take k = s.data.toList.take (k - 1) ++ [s.data.toList[k - 1]] := by
          rw [← List.take_succ_eq_append_getElem hk1]; congr 1; omega
        rw [hex, htk]
        exact Lib.decodeLastL_ascii _ _ (ha _ (List.getElem_mem _))
      generalize Lib.decodeLastL (s.extract 0 k).data.toList = d at *
      obtain ⟨r, q⟩ := d
      have HA := Lib.hid hasc
      have HE := Lib.hid hex
      clear hasc hex hlen hsz
      obtain ⟨q1, q2⟩ := hwd
      simp only at hr q1 q2 hD
      have hk8 : k ≤ 8 := by omega
      have hb1 : (0 : Int) ≤ (k : Int) - (q : Int) := by omega
      have hb2 : (k : Int) - (q : Int) ≤ 8 := by omega
      go_wp2_with (first
        | (go_at_call 165; refine (hD _ (utf8_grew HT.out (by repeat (first | with_reducible exact Grew.refl _ | apply Grew.more | apply Grew.alloc | apply Grew.drew | apply Grew.drewN)))).mono ?_; rintro e w1 ⟨rfl, R3, n3, rfl⟩)
        | (go_at_call 161; refine (indexRune_pm _ (by omega) (by omega) _).mono ?_; rintro e w1 ⟨k2, rfl, hk2, R4, n4, rfl⟩; (have HK2 := Lib.hid hk2); clear hk2)
        )
      · go_ret
        have h43 : (0 : Int) ≤ k2 := by assumption
        have hr43 := HK2.out.1 h43
        refine ⟨(k : Int) - q, rfl, ⟨by omega, by have := HL.out; omega, fun ha => ?_⟩, ?_⟩
        · obtain ⟨x, hx, hd⟩ := HA.out ha
          have hno := HN.out ha
          cases hd
          have hpx : pm x = true := (pm_iff x).2 hr43
          refine ⟨fun j b hj hb => hno j b (by omega) hb, fun b _ hb => ?_⟩
          have e : ((k : Int) - ((1 : Nat) : Int)).toNat = k - 1 := by omega
          rw [e, hx] at hb
          cases hb
          exact hpx
        · repeat (first | with_reducible exact Grew.refl _ | apply Grew.more | apply Grew.alloc | apply Grew.drew | apply Grew.drewN)
      · have h43 : ¬ (0 : Int) ≤ k2 := by omega
        go_roundw
        case rel =>
          refine ⟨k - q, by omega, by go_num, fun ha => ?_, ?_⟩
          · obtain ⟨x, hx, hd⟩ := HA.out ha
            have hno := HN.out ha
            cases hd
            have hpx : pm x = false := by
              cases hp : pm x with
              | false => rfl
              | true => exact absurd (HK2.out.2 ((pm_iff x).1 hp)) h43
            intro j b hj hb
            by_cases e : j = k - 1
            · subst e; rw [hx] at hb; cases hb; exact hpx
            · exact hno j b (by omega) hb
          · repeat (first | with_reducible exact Grew.refl _ | apply Grew.more | apply Grew.alloc | apply Grew.drew | apply Grew.drewN)
        case measure => first | (simp [intOf]; done) | (simp [intOf]; omega)
    · obtain rfl : k = 0 := by omega
      go_wp2
      go_ret
      refine ⟨-1, rfl, ?_, ?_⟩
      · have hno := HN.out
        refine ⟨by omega, by omega, fun ha => ⟨fun j b hj hb => hno ha j b (by omega) hb, fun b h _ => by omega⟩⟩
      · repeat (first | with_reducible exact Grew.refl _ | apply Grew.more | apply Grew.alloc | apply Grew.drew | apply Grew.drewN)
/-- .. of any text. -/
theorem lastIndexAny_any (s : ByteArray) (hs : s.size ≤ maxLen) (w : World) (hT : Lib.Utf8Tabs 5 6 w) :
    Calls Tryz.prog 126 #[.string s, .string ⟨#[43, 45]⟩] w (fun e w' => ∃ k : Int, e = .returned (.int .i64 k) ∧ PmAt s.data.toList k ∧ Grew w w') := by
  by_cases h1 : s.size = 1
  · exact lastIndexAny_one s h1 w
  · by_cases h8 : s.size ≤ 8
    · exact lastIndexAny_short s h1 h8 w hT
    · exact lastIndexAny_long s hs (by omega) w
end Go.Proofs.YtmnllmbchpebbaaGreatDoor

/-! gauss.Parse. -/
namespace Go.Proofs.YtmnllmbchpebbaaGreatDoor
open Go.RowKit Ga
set_option linter.unusedSimpArgs false
set_option linter.unusedVariables false
set_option maxRecDepth 100000

/-- What strconv's errors are. -/
def Errs (w : World) : Prop := (∃ tp p, w.var? Tryz.prog "strconv.ErrSyntax" = some #[.iface tp p]) ∧ (∃ tp p, w.var? Tryz.prog "strconv.ErrRange" = some #[.iface tp p])
theorem Errs.grew {w w' : World} (h : Errs w) (g : Grew w w') : Errs w' := by
  obtain ⟨⟨t, p, h1⟩, ⟨t2, p2, h2⟩⟩ := h
  exact ⟨⟨t, p, var_grew h1 g⟩, ⟨t2, p2, var_grew h2 g⟩⟩

/-- strconv.Atoi of any text. -/
theorem atoi_any (s : ByteArray) (hs : s.size ≤ 281474976710656) (w : World) (h : Errs w) :
    Calls Tryz.prog 62 #[.string s] w (fun e w' => ∃ (n : Int) (v : Value), e = .returned (.tuple #[.int .i64 n, v]) ∧ (-9223372036854775808 ≤ n ∧ n ≤ 9223372036854775807) ∧ (∀ m, Lib.atoiAll s.data.toList = .ok m → n = m) ∧ Grew w w') := by
  obtain ⟨⟨t, p, h1⟩, ⟨t2, p2, h2⟩⟩ := h
  have key : ∀ r, Lib.atoiAll s.data.toList = r → Calls Tryz.prog 62 #[.string s] w (fun e w' => ∃ (n : Int) (v : Value), e = .returned (.tuple #[.int .i64 n, v]) ∧ (-9223372036854775808 ≤ n ∧ n ≤ 9223372036854775807) ∧ (∀ m, r = .ok m → n = m) ∧ Grew w w') := by
    intro r ha
    rcases r with m | _ | _
    · refine (Tryz.strconv_Atoi_ok s (by omega) m ha w).mono ?_
      rintro e w' ⟨rfl, hw⟩
      refine ⟨m, _, rfl, Lib.atoiAll_bounds ha, (fun m' hm => by cases hm; rfl), ?_⟩
      rcases hw with rfl | ⟨t, rfl⟩
      · exact Grew.refl _
      · exact grew_bytes _ _ _
    · refine (Tryz.strconv_Atoi_syntax_var s hs ha t p w h1).mono ?_
      rintro e w' ⟨N, rfl, _, _, hb⟩
      exact ⟨0, _, rfl, by omega, (fun m' hm => by cases hm), Grew.ofBelow hb⟩
    · refine (Tryz.strconv_Atoi_range_var s hs ha t2 p2 w h2).mono ?_
      rintro e w' ⟨N, rfl, _, _, hb⟩
      exact ⟨_, _, rfl, Lib.atoiSat_bounds _, (fun m' hm => by cases hm), Grew.ofBelow hb⟩
  exact key _ rfl

theorem pm_isPM (b : UInt8) : pm b = Tx.isPM b := by
  unfold pm Tx.isPM
  rw [Bool.eq_iff_iff]
  simp
theorem pmAt_split {a b : List UInt8} {x : UInt8} {k : Int} (hx : pm x = true) (hb : ∀ y ∈ b, pm y = false) (ha : ∀ y ∈ a ++ x :: b, y.toNat < 128) (h : PmAt (a ++ x :: b) k) : k = a.length := by
  obtain ⟨h1, h2, h3⟩ := h
  obtain ⟨h4, h5⟩ := h3 ha
  apply Classical.byContradiction
  intro hne
  by_cases hlt : k < a.length
  · have := h4 a.length x (by omega) (by simp)
    rw [hx] at this; cases this
  · have hin : k.toNat - a.length - 1 < b.length := by simp at h2; omega
    have e : (a ++ x :: b)[k.toNat]? = b[k.toNat - a.length - 1]? := by
      rw [List.getElem?_append_right (by omega), List.getElem?_cons, if_neg (by omega)]
    have := h5 b[k.toNat - a.length - 1] (by omega) (by rw [e]; exact List.getElem?_eq_getElem hin)
    rw [hb _ (List.getElem_mem _)] at this; cases this
theorem pmAt_text {r i k : Int} (h : PmAt (Tx.textL r i) k) : k = (Lib.itoa r).length := by
  obtain ⟨x, d, h1, h2, h3⟩ := Tx.imL_shape i
  have e : Tx.textL r i = Lib.itoa r ++ x :: (d ++ [105]) := by rw [Tx.textL_eq, h1]; simp
  have hasc := Tx.textL_ascii r i
  rw [e] at h hasc
  refine pmAt_split (by rw [pm_isPM]; exact h2) ?_ hasc h
  intro y hy
  rw [pm_isPM]
  rcases List.mem_append.1 hy with h | h
  · exact Tx.not_pm_of_dig (h3 y h)
  · simp at h; subst h; decide

/-- What Parse hands back. -/
noncomputable def parseOut (l : List UInt8) : Val × Int :=
  haveI := Classical.propDecidable
  if h : ∃ x : Val, l = Tx.textL (into x.1) (into x.2) then ((into h.choose.1, into h.choose.2), 0) else ((0, 0), 4)
theorem parseOut_text (p q : Int) : parseOut (Tx.textL (into p) (into q)) = ((into p, into q), 0) := by
  have h : ∃ x : Val, Tx.textL (into p) (into q) = Tx.textL (into x.1) (into x.2) := ⟨(p, q), rfl⟩
  obtain ⟨e1, e2⟩ := Tx.textL_inj h.choose_spec
  unfold parseOut
  rw [dif_pos h, ← e1, ← e2]
theorem parseOut_none {l : List UInt8} (h : ∀ x : Val, l ≠ Tx.textL (into x.1) (into x.2)) : parseOut l = ((0, 0), 4) := by
  unfold parseOut
  rw [dif_neg (by rintro ⟨x, hx⟩; exact h x hx)]

/-- A text of a right value, cut where Parse cuts it. -/
theorem cut_text {p q k : Int} (h : PmAt (Tx.textL p q) k) : 1 ≤ k ∧ ((Tx.textL p q).take k.toNat) = Lib.itoa p ∧ (((Tx.textL p q).take ((Tx.textL p q).length - 1)).drop k.toNat) = Tx.imL q := by
  have hk := pmAt_text h
  have h1 := Tx.itoa_pos p
  subst hk
  refine ⟨by omega, by rw [Int.toNat_natCast]; exact Tx.take_text p q, ?_⟩
  rw [Int.toNat_natCast, Tx.textL_eq]
  have e : (Lib.itoa p ++ (Tx.imL q ++ [105])).length - 1 = (Lib.itoa p ++ Tx.imL q).length := by simp only [List.length_append, List.length_cons, List.length_nil]; omega
  rw [e, ← List.append_assoc, List.take_left, List.drop_left]

set_option maxHeartbeats 4000000 in
theorem parse_any (l : List UInt8) (hs : l.length ≤ 1000000) (w : World) (hT : Lib.Utf8Tabs 5 6 w) (hE : Errs w) (hp : Pow w) :
    Calls Tryz.prog 97 #[.string ⟨l.toArray⟩] w (Gives (.tuple #[vv (parseOut l).1, .int .i64 (parseOut l).2]) w) := by
  have HT := Lib.hid hT
  have HE := Lib.hid hE
  have HP := Lib.hid hp
  clear hT hE hp
  have hsz : (⟨l.toArray⟩ : ByteArray).size = l.length := rfl
  generalize hs' : (⟨l.toArray⟩ : ByteArray) = s at *
  go_enter Tryz.func97, Tryz.ntmps97
  go_wp2_with (go_at_call 126; refine (lastIndexAny_any s (by unfold maxLen; omega) _ (utf8_grew HT.out (by repeat (first | with_reducible exact Grew.refl _ | apply Grew.more | apply Grew.alloc | apply Grew.drew | apply Grew.drewN)))).mono ?_; rintro e w1 ⟨k, rfl, hk, R1, n1, rfl⟩; (have HK := Lib.hid hk); clear hk)
  -- the letter at the end
  rotate_left
  · have hno : parseOut l = ((0, 0), 4) := parseOut_none (by
      rintro x rfl
      have := cut_text (k := k) (p := into x.1) (q := into x.2) (by have := HK.out; rw [← hs'] at this; exact this)
      omega)
    exact bodyPost_ret (v := .tuple #[.agg #[.int .i64 0, .int .i64 0], .int .i64 4]) (by simp [results, Tryz.results97, go_sem]) rfl ⟨by rw [hno], by repeat (first | with_reducible exact Grew.refl _ | apply Grew.more | apply Grew.alloc | apply Grew.drew | apply Grew.drewN)⟩
  have k0 : 1 ≤ k := by omega
  have k1 : k < s.size := by have := HK.out.2.1; rw [← hs'] at this; rw [hsz]; exact this
  obtain ⟨m, rfl⟩ : ∃ m : Nat, k = m := ⟨k.toNat, by omega⟩
  have m0 : 1 ≤ m := by omega
  have m1 : m + 1 ≤ s.size := by omega
  have m2 : (m : Int) ≤ (s.size : Int) - 1 := by omega
  clear k0 k1
  cases hsuf : Lib.hasSuffix s.data.toList [105]
  · go_wp2_with (go_at_call 127; refine (Tryz.strings_HasSuffix _ _ _ (by omega)).mono ?_; rintro e w1 ⟨rfl, rfl⟩)
    have hno : parseOut l = ((0, 0), 4) := parseOut_none (by
      rintro x rfl
      rw [← hs'] at hsuf
      have : Lib.hasSuffix (Tx.textL (into x.1) (into x.2)) [105] = false := hsuf
      rw [Tx.textL_eq, ← List.append_assoc] at this
      have h2 : Lib.hasSuffix (Lib.itoa (into x.1) ++ Tx.imL (into x.2) ++ [105]) [105] = true := by
        unfold Lib.hasSuffix; rw [List.isSuffixOf_iff_suffix]; exact List.suffix_append _ _
      rw [h2] at this; cases this)
    exact bodyPost_ret (v := .tuple #[.agg #[.int .i64 0, .int .i64 0], .int .i64 4]) (by simp [results, Tryz.results97, go_sem]) rfl ⟨by rw [hno], by repeat (first | with_reducible exact Grew.refl _ | apply Grew.more | apply Grew.alloc | apply Grew.drew | apply Grew.drewN)⟩
  go_wp2_with (first
    | (go_at_call 127; refine (Tryz.strings_HasSuffix _ _ _ (by omega)).mono ?_; rintro e w1 ⟨rfl, rfl⟩)
    | (go_at_call 62; (with_reducible refine (atoi_any (s.extract 0 m) (by simp; omega) _ (HE.out.grew (by repeat (first | with_reducible exact Grew.refl _ | apply Grew.more | apply Grew.alloc | apply Grew.drew | apply Grew.drewN)))).mono ?_); rintro e w1 ⟨a, va, rfl, hba, hoa, R2, n2, rfl⟩; (have HOA := Lib.hid hoa); clear hoa)
    | (go_at_call 62; (with_reducible refine (atoi_any (s.extract m (l.length - 1)) (by simp; omega) _ (HE.out.grew (by repeat (first | with_reducible exact Grew.refl _ | apply Grew.more | apply Grew.alloc | apply Grew.drew | apply Grew.drewN)))).mono ?_); rintro e w1 ⟨b, vb, rfl, hbb, hob, R3, n3, rfl⟩; (have HOB := Lib.hid hob); clear hob)
    )
  have hex : ∀ X Y, l = Tx.textL (into X) (into Y) → a = into X ∧ b = into Y := by
    rintro X Y rfl
    have hc := cut_text (k := (m : Int)) (p := into X) (q := into Y) (by have := HK.out; rw [← hs'] at this; exact this)
    rw [Int.toNat_natCast] at hc
    obtain ⟨_, hc1, hc2⟩ := hc
    have rX := into_range X
    have rY := into_range Y
    have lX := Tx.itoa_len6 (into X) (by omega)
    have lY := Tx.itoa_len6 (into Y) (by omega)
    constructor
    · refine HOA.out _ ?_
      have e : (s.extract 0 m).data.toList = Lib.itoa (into X) := by rw [Lib.extract_data, ← hs']; simpa using hc1
      rw [e, Lib.atoiAll_short _ (by omega), Tx.atoi_itoa]; rfl
    · refine HOB.out _ ?_
      have e : (s.extract m ((Tx.textL (into X) (into Y)).length - 1)).data.toList = Tx.imL (into Y) := by
        rw [Lib.extract_data, ← hs', ← hc2, List.drop_take]
      have lI : (Tx.imL (into Y)).length ≤ 8 := by unfold Tx.imL; split <;> (try simp only [List.length_cons]) <;> omega
      rw [e, Lib.atoiAll_short _ (by omega), Tx.atoi_imL]; rfl
  have HEX := Lib.hid hex
  clear hex HOA HOB HK
  by_cases htx : l = Tx.textL (into a) (into b)
  · obtain ⟨ea, eb⟩ := HEX.out a b htx
    have hr : rightV (a, b) = true := by
      unfold rightV
      simp only
      rw [Bool.and_eq_true, decide_eq_true_iff, decide_eq_true_iff]
      exact ⟨ea, eb⟩
    have hpo : parseOut l = ((a, b), 0) := by
      rw [htx, parseOut_text, ← ea, ← eb]
    have HPO := Lib.hid hpo
    have HR := Lib.hid hr
    have htl : s.toList = Tx.textL (into a) (into b) := by rw [← htx, Lib.toList_data, ← hs']
    clear hpo htx ea eb hr
    go_wp2_with (first
      | (go_at_call 79; refine (text_xyL _ _ _ (HP.out.grew (by repeat (first | with_reducible exact Grew.refl _ | apply Grew.more | apply Grew.alloc | apply Grew.drew | apply Grew.drewN)))).mono ?_; rintro e w1 ⟨rfl, R4, n4, rfl⟩)
      | (go_at_call 74; refine (right_any (a, b) _).mono ?_; rintro e w1 ⟨rfl, R5, n5, rfl⟩; rw [HR.out])
      )
    exact bodyPost_ret (v := .tuple #[.agg #[.int .i64 a, .int .i64 b], .int .i64 0]) (by simp [results, Tryz.results97, go_sem]) rfl ⟨by rw [HPO.out], by repeat (first | with_reducible exact Grew.refl _ | apply Grew.more | apply Grew.alloc | apply Grew.drew | apply Grew.drewN)⟩
  · have hno : parseOut l = ((0, 0), 4) := parseOut_none (by
      intro x hx
      obtain ⟨ea, eb⟩ := HEX.out x.1 x.2 hx
      apply htx
      rw [ea, eb, into_into, into_into]; exact hx)
    have HNO := Lib.hid hno
    have htl : ¬ (Tx.textL (into a) (into b) = s.toList) := by
      rw [Lib.toList_data, ← hs']; exact fun h => htx h.symm
    clear hno htx
    go_wp2_with (go_at_call 79; refine (text_xyL _ _ _ (HP.out.grew (by repeat (first | with_reducible exact Grew.refl _ | apply Grew.more | apply Grew.alloc | apply Grew.drew | apply Grew.drewN)))).mono ?_; rintro e w1 ⟨rfl, R4, n4, rfl⟩)
    exact bodyPost_ret (v := .tuple #[.agg #[.int .i64 0, .int .i64 0], .int .i64 4]) (by simp [results, Tryz.results97, go_sem]) rfl ⟨by rw [HNO.out], by repeat (first | with_reducible exact Grew.refl _ | apply Grew.more | apply Grew.alloc | apply Grew.drew | apply Grew.drewN)⟩
end Go.Proofs.YtmnllmbchpebbaaGreatDoor

/-! What the listed variables give the walks. -/
namespace Go.Proofs.YtmnllmbchpebbaaGreatDoor
set_option linter.unusedSimpArgs false
set_option linter.unusedVariables false
open Go.RowKit Go.Lib
set_option maxRecDepth 100000

theorem gTabType : (Tryz.prog.globals[4]?).map (·.type) = some 214 := by kernel_rfl
theorem cellsA : Tryz.prog.cellsOf 214 = 20 := by kernel_rfl
theorem cells1 : Tryz.prog.cellsOf 187 = 1 := by kernel_rfl
theorem tab_of_reads {P : Program} {W : World} {name : String} {k : IntKind} {zs : List Int} {g : Nat} {t e : TypeId} {n : Nat}
    (hg : P.globalNamed name = some g) (hty : (P.globals[g]?).map (·.type) = some t) (ht : P.underlying t = some (.array n e)) (he : P.underlying e = some (.int k)) (hce : P.cellsOf e = 1) (hct : P.cellsOf t = n)
    (h : VarReads P W name (tabData k zs)) : TabIs P W name k zs := by
  obtain ⟨g', t', cs, fuel, p, hg', hty', hvar, hd⟩ := h
  obtain rfl := Option.some.inj (hg.symm.trans hg')
  obtain rfl := Option.some.inj (hty.symm.trans hty')
  have hcs := cells_of_tab ht he hce hct hd
  unfold TabIs
  rw [hvar]
  congr 1
  exact Array.toList_inj.1 hcs
theorem pow_of {W : World} {l : List (String × DataW Unit)} (h : laidMet Tryz.prog l W) (hm : ("internal/strconv.uint64pow10", Rows.laid_internal_strconv_uint64pow10) ∈ l) : Pow W :=
  tab_of_reads gPow gTabType Tryz.underlying214 Tryz.underlying187 cells1 cellsA (laidMet.reads h hm)

theorem firstIs : Rows.laid_unicode_utf8_first = firstData := by kernel_rfl
theorem acceptIs : (Rows.laid_unicode_utf8_acceptRanges : DataW Unit) = acceptData := by kernel_rfl
theorem u8Extra : U8Extra Tryz.prog Tryz.lays260_ren :=
  { n3 := by kernel_rfl, n4 := by kernel_rfl, y3 := by kernel_rfl, y4 := by kernel_rfl, c5 := by kernel_rfl, c119 := by kernel_rfl, c138 := by kernel_rfl }
theorem utf8_of {W : World} {l : List (String × DataW Unit)} (h : laidMet Tryz.prog l W) (m3 : ("unicode/utf8.first", Rows.laid_unicode_utf8_first) ∈ l) (m4 : ("unicode/utf8.acceptRanges", Rows.laid_unicode_utf8_acceptRanges) ∈ l) :
    Lib.Utf8Tabs 5 6 W := by
  rw [firstIs] at m3
  rw [acceptIs] at m4
  exact utf8Tabs_of_readsT (U8Types.of260 Tryz.lays260) u8Extra (laidMet.reads h m3) (laidMet.reads h m4)

theorem gES : Tryz.prog.globalNamed "strconv.ErrSyntax" = some 1 := by kernel_rfl
theorem gESType : (Tryz.prog.globals[1]?).map (·.type) = some 80 := by kernel_rfl
theorem gER : Tryz.prog.globalNamed "strconv.ErrRange" = some 2 := by kernel_rfl
theorem gERType : (Tryz.prog.globals[2]?).map (·.type) = some 80 := by kernel_rfl
theorem cellsES : Tryz.prog.cellsOf 226 = 1 := by kernel_rfl
theorem cellsStr : Tryz.prog.cellsOf 9 = 1 := by kernel_rfl
theorem starES : "*" ++ "errors.errorString" = "*errors.errorString" := by decide
theorem rowES (u : TypeId) (h : Tryz.prog.typeName? 3 u = some "*errors.errorString") : u = 224 :=
  typeName_ptr_named (nm := "errors.errorString") (by rw [starES]; kernel_rfl) (by kernel_rfl) (by decide) u (by rw [starES]; exact h)
theorem errs_of {W : World} {r1 r2 : List (String × DataW Unit)} (h1 : laidMet Tryz.prog (("strconv.ErrRange", Rows.laid_strconv_ErrRange) :: r1) W) (h2 : laidMet Tryz.prog (("strconv.ErrSyntax", Rows.laid_strconv_ErrSyntax) :: r2) W) : Errs W := by
  obtain ⟨a1, s1, v1, -, -, -⟩ := laid_sentinel h1 gER gERType Tryz.underlying80 rowES Tryz.underlying224 Tryz.underlying226 rfl rfl Tryz.underlying9 cellsES cellsStr
  obtain ⟨a2, s2, v2, -, -, -⟩ := laid_sentinel h2 gES gESType Tryz.underlying80 rowES Tryz.underlying224 Tryz.underlying226 rfl rfl Tryz.underlying9 cellsES cellsStr
  exact ⟨⟨_, _, v2⟩, ⟨_, _, v1⟩⟩

/-- A witness: two errors in blocks of their own, behind the others. -/
noncomputable def layErrs (w : World) : World :=
  layBlocks ((w.alloc (.cells #[.string ⟨#[118, 97, 108, 117, 101, 32, 111, 117, 116, 32, 111, 102, 32, 114, 97, 110, 103, 101]⟩] 226)).alloc (.cells #[.string ⟨#[105, 110, 118, 97, 108, 105, 100, 32, 115, 121, 110, 116, 97, 120]⟩] 226))
    [(2, #[.iface 224 (.pointer (some ⟨w.heap.size, 0, none⟩))]), (1, #[.iface 224 (.pointer (some ⟨w.heap.size + 1, 0, none⟩))])]
end Go.Proofs.YtmnllmbchpebbaaGreatDoor
