import Derived.Test.YtlgbipfpnfphjaaGreatDoorGb6
import Derived.Test.YtlgbipfpnfphjaaGreatDoorGb0
import Derived.Test.YtlgbipfpnfphjaaGreatDoorGb4
import Derived.Scope
import Derived.Laws.RangeString
import Derived.Lib.TrimU
import Derived.Lib.TrimAscii
import Derived.Lib.AsciiSet
import Derived.Lib.Hide
import Derived.Deep.WholeRow
/-! strings.IndexRune of a rune beyond ASCII in "+-": -1. -/
namespace Go.Proofs.YtlgbipfpnfphjaaGreatDoor
open Go.RowKit
set_option linter.unusedSimpArgs false
set_option linter.unusedVariables false
set_option maxRecDepth 100000

theorem indexRune_invalid (r : Int) (h0 : 128 ≤ r) (h1 : r ≤ 1114111) (w : World) (h65 : (r == 65533) = false) (hv : Lib.validRune r = false) :
    Calls Tryz.prog 171 #[.string ⟨#[43, 45]⟩, .int .i32 r] w fun e w' => e = .returned (.int .i64 (-1)) ∧ w = w' := by
  go_enter Tryz.func171, Tryz.ntmps171
  go_wp2_with (go_at_call 194; refine (Tryz.utf8_ValidRune _ _).mono ?_; rintro e w' ⟨rfl, rfl⟩)
  go_ret
  exact ⟨rfl, rfl⟩

theorem iter_grew (w : World) (s : ByteArray) (k : Nat) : Grew w (w.iter s k) := (Grew.refl w).alloc _
theorem next_pm0 (w : World) (ty : TypeId) : (Instr.next (.pointer (some ⟨w.heap.size, 0, none⟩)) true ty).run Tryz.prog (w.iter ⟨#[43, 45]⟩ 0) = .ok (.tuple #[.bool true, .int .i64 0, .int .i32 43]) (w.iter ⟨#[43, 45]⟩ 1) :=
  run_next_ascii w ⟨#[43, 45]⟩ 0 ty (by decide) (by decide)
theorem next_pm1 (w : World) (ty : TypeId) : (Instr.next (.pointer (some ⟨w.heap.size, 0, none⟩)) true ty).run Tryz.prog (w.iter ⟨#[43, 45]⟩ 1) = .ok (.tuple #[.bool true, .int .i64 1, .int .i32 45]) (w.iter ⟨#[43, 45]⟩ 2) :=
  run_next_ascii w ⟨#[43, 45]⟩ 1 ty (by decide) (by decide)
theorem next_pm2 (w : World) (ty : TypeId) : (Instr.next (.pointer (some ⟨w.heap.size, 0, none⟩)) true ty).run Tryz.prog (w.iter ⟨#[43, 45]⟩ 2) = .ok (.tuple #[.bool false]) (w.iter ⟨#[43, 45]⟩ 2) :=
  run_next_end w ⟨#[43, 45]⟩ 2 ty (by decide)

theorem indexRune_error (w : World) :
    Calls Tryz.prog 171 #[.string ⟨#[43, 45]⟩, .int .i32 65533] w (Gives (.int .i64 (-1)) w) := by
  have h0 := next_pm0 w
  have h1 := next_pm1 w
  have h2 := next_pm2 w
  go_enter Tryz.func171, Tryz.ntmps171
  go_wp2
  refine wp_loop_rounds 3 ?_
  rw [rounds_succ]
  go_wp2
  rw [rounds_succ]
  go_wp2
  rw [rounds_succ]
  go_wp2
  go_ret
  exact ⟨rfl, iter_grew w _ _⟩

theorem enc_shape (r : Int) (h0 : 128 ≤ r) (hv : Lib.validRune r = true) : (∃ b0 b1, Utf8.encode r = ⟨#[b0, b1]⟩ ∧ 128 ≤ b1.toNat) ∨ (∃ b0 b1 b2, Utf8.encode r = ⟨#[b0, b1, b2]⟩) ∨ (∃ b0 b1 b2 b3, Utf8.encode r = ⟨#[b0, b1, b2, b3]⟩) := by
  have hval : Utf8.valid r = true := by
    unfold Lib.validRune at hv; unfold Utf8.valid
    simp at hv ⊢
    omega
  unfold Utf8.encode
  simp only [hval, if_true]
  rw [if_neg (by omega)]
  split
  · left
    refine ⟨_, _, rfl, ?_⟩
    rw [UInt8.toNat_ofNat']
    have : r.toNat % 64 < 64 := Nat.mod_lt _ (by decide)
    omega
  · split
    · exact .inr (.inl ⟨_, _, _, rfl⟩)
    · exact .inr (.inr ⟨_, _, _, _, rfl⟩)

theorem indexRune_high (r : Int) (h0 : 128 ≤ r) (h1 : r ≤ 1114111) (w : World) (h65 : (r == 65533) = false) (hv : Lib.validRune r = true) :
    Calls Tryz.prog 171 #[.string ⟨#[43, 45]⟩, .int .i32 r] w (Gives (.int .i64 (-1)) w) := by
  rcases enc_shape r h0 hv with ⟨b0, b1, he, hb⟩ | ⟨b0, b1, b2, he⟩ | ⟨b0, b1, b2, b3, he⟩
  · have hne : ((((⟨#[43, 45]⟩ : ByteArray)[1]'(by decide)).toNat : Int) != (((⟨#[b0, b1]⟩ : ByteArray)[1]'(by simp [ByteArray.size])).toNat : Int)) = true := by
      rw [bne_iff_ne]
      show (45 : Int) ≠ (b1.toNat : Int)
      omega
    go_enter Tryz.func171, Tryz.ntmps171
    go_wp2_with (go_at_call 194; refine (Tryz.utf8_ValidRune _ _).mono ?_; rintro e w' ⟨rfl, rfl⟩)
    go_step3
    go_wp2
    refine wp_loop_rounds 1 ?_
    rw [rounds_succ]
    go_wp2
    go_step3
    go_wp2
    go_quiet (fail)
    go_wp2
    refine wp_region_seq 9 Tryz.mixed (by kernel_rfl) (by kernel_rfl) ?_
    iterate 9
      apply Seq.val
      focus
        rintro w1 u ⟨R1, n1, rfl⟩ hF
        simp [moreFacts, Fact.more, Oper.deps, Region.binds, List.filter_cons, World.more_drew] at hF
        simp [putFacts, Oper.deps, Region.binds, List.filter_cons, Region.dstOf, Fact.at, Act.put, World.more_drew]
        go_wp2_with (first
          | (go_at_call 193; refine (Tryz.strings_IndexByte _ _ _).mono ?_; rintro e w1 ⟨rfl, rfl⟩)
          )
        exact ⟨by repeat (first | with_reducible exact Grew.refl _ | apply Grew.more | apply Grew.alloc | apply Grew.drew | apply Grew.drewN), rfl, _, _, rfl, rfl, rfl⟩
    rintro u w1 ⟨R1, n1, rfl⟩ hF
    clear hF
    simp [putFacts, Region.dstOf, Fact.at, Act.put, List.range_succ, World.more_drew]
    go_wp2
    rw [Exit.noGoto_ret]
    go_ret
    refine ⟨rfl, ?_⟩
    repeat (first | with_reducible exact Grew.refl _ | apply Grew.more | apply Grew.alloc | apply Grew.drew | apply Grew.drewN)
  · go_enter Tryz.func171, Tryz.ntmps171
    go_wp2_with (go_at_call 194; refine (Tryz.utf8_ValidRune _ _).mono ?_; rintro e w' ⟨rfl, rfl⟩)
    go_step3
    go_wp2
    refine wp_loop_rounds 1 ?_
    rw [rounds_succ]
    go_wp2
    rw [Exit.noGoto_ret]
    go_ret
    exact ⟨rfl, Grew.refl _⟩
  · go_enter Tryz.func171, Tryz.ntmps171
    go_wp2_with (go_at_call 194; refine (Tryz.utf8_ValidRune _ _).mono ?_; rintro e w' ⟨rfl, rfl⟩)
    go_step3
    go_wp2
    refine wp_loop_rounds 1 ?_
    rw [rounds_succ]
    go_wp2
    rw [Exit.noGoto_ret]
    go_ret
    exact ⟨rfl, Grew.refl _⟩
/-- .. of any rune that a decoder may leave: whether it is one of the two. -/
theorem indexRune_pm (r : Int) (h0 : 0 ≤ r) (h1 : r ≤ 1114111) (w : World) :
    Calls Tryz.prog 171 #[.string ⟨#[43, 45]⟩, .int .i32 r] w (fun e w' => ∃ k : Int, e = .returned (.int .i64 k) ∧ (0 ≤ k ↔ r = 43 ∨ r = 45) ∧ Grew w w') := by
  by_cases ha : r < 128
  · refine (Tryz.strings_IndexRune_ascii ⟨#[43, 45]⟩ r w h0 ha).mono ?_
    rintro e w' ⟨rfl, rfl⟩
    refine ⟨_, rfl, ?_, Grew.refl _⟩
    obtain ⟨n, rfl⟩ : ∃ n : Nat, r = n := ⟨r.toNat, by omega⟩
    have hn : n < 128 := by omega
    have key : ∀ n : Nat, n < 128 → (0 ≤ Lib.indexByte [43, 45] (Int.toNat n).toUInt8 ↔ (n : Int) = 43 ∨ (n : Int) = 45) := by decide
    exact key n hn
  · have hno : ¬ (r = 43 ∨ r = 45) := by omega
    have key : ∀ w', Grew w w' → ∃ k : Int, Ending.returned (.int .i64 (-1)) = .returned (.int .i64 k) ∧ (0 ≤ k ↔ r = 43 ∨ r = 45) ∧ Grew w w' := fun w' hg => ⟨-1, rfl, ⟨fun h => by omega, fun h => absurd h hno⟩, hg⟩
    by_cases h65 : r = 65533
    · subst h65
      refine (indexRune_error w).mono ?_
      rintro e w' ⟨rfl, hg⟩
      exact key w' hg
    · have h65' : (r == 65533) = false := by simpa using h65
      cases hv : Lib.validRune r with
      | false =>
        refine (indexRune_invalid r (by omega) h1 w h65' hv).mono ?_
        rintro e w' ⟨rfl, rfl⟩
        exact key w (Grew.refl _)
      | true =>
        refine (indexRune_high r (by omega) h1 w h65' hv).mono ?_
        rintro e w' ⟨rfl, hg⟩
        exact key w' hg
end Go.Proofs.YtlgbipfpnfphjaaGreatDoor

/-! strings.LastIndexAny(s, "+-"): of ASCII letters the last one of the two; of any it lies within. -/
namespace Go.Proofs.YtlgbipfpnfphjaaGreatDoor
open Go.RowKit
set_option linter.unusedSimpArgs false
set_option linter.unusedVariables false
set_option maxRecDepth 100000

/-- One of the two signs. -/
def pm (b : UInt8) : Bool := ([43, 45] : List UInt8).contains b
/-- What is known of the place. -/
def PmAt (l : List UInt8) (k : Int) : Prop :=
  -1 ≤ k ∧ k < l.length ∧ ((∀ b ∈ l, b.toNat < 128) → (∀ (j : Nat) (b : UInt8), k < j → l[j]? = some b → pm b = false) ∧ (∀ b, 0 ≤ k → l[k.toNat]? = some b → pm b = true))

theorem pm_iff (b : UInt8) : pm b = true ↔ ((b.toNat : Int) = 43 ∨ (b.toNat : Int) = 45) := by
  unfold pm
  simp only [List.contains_cons, List.contains_nil, Bool.or_eq_true, beq_iff_eq, Bool.or_false]
  constructor
  · rintro (rfl | rfl) <;> simp
  · rintro (h | h)
    · left; apply UInt8.toNat_inj.1; show b.toNat = 43; omega
    · right; apply UInt8.toNat_inj.1; show b.toNat = 45; omega
/-- None behind it. -/
def NoPm (l : List UInt8) (n : Int) : Prop := ∀ (j : Nat) (b : UInt8), n < j → l[j]? = some b → pm b = false
theorem NoPm.step {l : List UInt8} {k : Nat} {x : UInt8} (h : NoPm l k) (hx : l[k]? = some x) (hp : pm x = false) : NoPm l ((k : Int) - 1) := by
  intro j b hj hb
  by_cases e : j = k
  · subst e; rw [hx] at hb; cases hb; exact hp
  · exact h j b (by omega) hb
theorem PmAt.hit {l : List UInt8} {k : Nat} {x : UInt8} (h : NoPm l k) (hx : l[k]? = some x) (hp : pm x = true) : PmAt l (k : Int) := by
  have hk : k < l.length := (List.getElem?_eq_some_iff.1 hx).1
  refine ⟨by omega, by omega, fun _ => ⟨h, fun b _ hb => ?_⟩⟩
  rw [Int.toNat_natCast, hx] at hb
  cases hb
  exact hp
theorem PmAt.gone {l : List UInt8} (h : NoPm l (-1)) : PmAt l (-1) := ⟨by omega, by omega, fun _ => ⟨h, fun b h0 _ => by omega⟩⟩

theorem pm_ascii (j : Nat) (b : UInt8) (h : (⟨#[43, 45]⟩ : ByteArray).data.toList[j]? = some b) : b.toNat < 128 := by
  have h1 : b ∈ [(43 : UInt8), 45] := List.mem_of_getElem? h
  have h2 : ∀ c ∈ [(43 : UInt8), 45], c.toNat < 128 := by decide
  exact h2 b h1

theorem utf8_grew {g3 g4 : Nat} {w w' : World} (h : Lib.Utf8Tabs g3 g4 w) (g : Grew w w') : Lib.Utf8Tabs g3 g4 w' := by
  obtain ⟨R, n, rfl⟩ := g
  refine ⟨fun c hc => ?_, fun i hi => ⟨?_, ?_⟩⟩
  · have := h.1 c hc
    rw [World.cell?_more_past R n _ _ (Pre.ofCell this)]; exact this
  · have := (h.2 i hi).1
    rw [World.cell?_more_past R n _ _ (Pre.ofCell this)]; exact this
  · have := (h.2 i hi).2
    rw [World.cell?_more_past R n _ _ (Pre.ofCell this)]; exact this

theorem decodeLast_grew (s : ByteArray) (w : World) (hs : s.size ≤ 9223372036854775807) (hT : Lib.Utf8Tabs 6 7 w) :
    Calls Tryz.prog 175 #[.string s] w (Gives (.tuple #[.int .i32 (Lib.decodeLastL s.data.toList).1, .int .i64 (Lib.decodeLastL s.data.toList).2]) w) :=
  (Tryz.utf8_DecodeLastRuneInString s w hs hT).mono fun _ _ ⟨h1, h2⟩ => ⟨h1, Grew.ofBelow h2⟩

set_option maxHeartbeats 4000000 in
/-- .. of a text of more than eight letters. -/
theorem lastIndexAny_long (s : ByteArray) (hs : s.size ≤ maxLen) (h8 : 8 < s.size) (w : World) :
    Calls Tryz.prog 141 #[.string s, .string ⟨#[43, 45]⟩] w (fun e w' => ∃ k : Int, e = .returned (.int .i64 k) ∧ PmAt s.data.toList k ∧ Grew w w') := by
  unfold maxLen at hs
  have hl : s.data.toList.length = s.size := (Lib.size_eq s).symm
  have HL := Lib.hid hl
  clear hl
  have hn1 : ((s.size : Int) == 1) = false := beq_eq_false_iff_ne.2 (by omega)
  have h8z : decide ((8 : Int) < (s.size : Int)) = true := decide_eq_true (by omega)
  have hv : ∀ w, (zeroValue 202).run Tryz.prog w = .ok (.agg (Array.replicate 256 (.bool false))) w := Tryz.zeroValue202
  have hM := Tryz.strings_makeASCIISet hv ⟨#[43, 45]⟩ w (by decide) pm_ascii
  have hi : (Tryz.prog.info? 202).map (·.size) = some 256 := by kernel_rfl
  generalize hA : (Lib.setCells (⟨#[43, 45]⟩ : ByteArray).data.toList) = A at hM
  have hAs : A.size = 256 := by rw [← hA]; exact Lib.setCells_size _
  have hA1 : A.all (·.oneCell') = true := by rw [← hA]; decide +kernel
  have hsc : (storeCells ⟨w.heap.size + 1, 0, none⟩ A.toList 0).run Tryz.prog ((w.alloc (.cells A 202)).alloc (.cells Tryz.zeroCells202 202)) = .ok () ((w.alloc (.cells A 202)).alloc (.cells A 202)) := by
    have := run_storeCells_new (P := Tryz.prog) (w.alloc (.cells A 202)) 202 Tryz.zeroCells202 A (by rw [hAs]; exact hi) (by rw [hAs]; kernel_rfl) hA1
    simpa using this
  have hcell : ∀ x : UInt8, ((w.alloc (.cells A 202)).alloc (.cells A 202)).cell? ⟨w.heap.size + 1, x.toNat, none⟩ = some (.bool (pm x)) := fun x => by
    rw [World.cell?_alloc_at _ _ _ _ (by simp), ← hA, Lib.setCells_at]; rfl
  have HC := Lib.hid hcell
  have HA := Lib.hid hAs
  clear hcell hAs hA hv hi
  go_enter Tryz.func141, Tryz.ntmps141
  go_wp2_with (first
    | (go_at_call 172; refine (Tryz.strings_shouldUseASCIISet _ _).mono ?_; rintro e w1 ⟨rfl, hw⟩; rw [hw, h8z])
    | (go_at_call 173; refine hM.mono ?_; rintro e w1 ⟨rfl, hw⟩; rw [hw])
    )
  go_wp2
  clear hM hsc
  go_loop [8] (fun i => ∃ n : Int, -1 ≤ n ∧ n < s.size ∧ i = .int .i64 n ∧ NoPm s.data.toList n) (fun i => (intOf i + 1).toNat)
  case atStart => exact ⟨(s.size : Int) - 1, by omega, by omega, rfl, fun j b hj hb => by have := (List.getElem?_eq_some_iff.1 hb).1; have := HL.out; omega⟩
  case round =>
    obtain ⟨n, h0, h1, rfl, hno⟩ := hrel
    have HN := Lib.hid hno
    clear hno
    by_cases hn : 0 ≤ n
    · obtain ⟨k, rfl⟩ : ∃ k : Nat, n = k := ⟨n.toNat, by omega⟩
      have hk : k < s.size := by omega
      obtain ⟨x, hx⟩ : ∃ x : UInt8, s[k]'hk = x := ⟨_, rfl⟩
      have hxl : s.data.toList[k]? = some x := by rw [← hx]; exact Lib.data_getElem? s k hk
      have HX := Lib.hid hxl
      clear hxl
      have hcx := HC.out x
      cases hin : pm x <;> rw [hin] at hcx
      · go_wp2_with (go_at_call 174; refine (Tryz.asciiSet_contains _ x _ _ hcx).mono ?_; rintro e w' ⟨rfl, hw⟩; rw [hw])
        go_round
        case rel => exact ⟨(k : Int) - 1, by omega, by omega, rfl, HN.out.step HX.out hin⟩
        case measure => first | (simp [intOf]; done) | (simp [intOf]; omega)
      · go_wp2_with (go_at_call 174; refine (Tryz.asciiSet_contains _ x _ _ hcx).mono ?_; rintro e w' ⟨rfl, hw⟩; rw [hw])
        go_ret
        refine ⟨_, rfl, PmAt.hit HN.out HX.out hin, ?_⟩
        repeat (first | with_reducible exact Grew.refl _ | apply Grew.more | apply Grew.alloc | apply Grew.drew | apply Grew.drewN)
    · obtain rfl : n = -1 := by omega
      go_wp2
      go_ret
      refine ⟨_, rfl, PmAt.gone HN.out, ?_⟩
      repeat (first | with_reducible exact Grew.refl _ | apply Grew.more | apply Grew.alloc | apply Grew.drew | apply Grew.drewN)

set_option maxHeartbeats 4000000 in
/-- .. of one letter. -/
theorem lastIndexAny_one (s : ByteArray) (h1 : s.size = 1) (w : World) :
    Calls Tryz.prog 141 #[.string s, .string ⟨#[43, 45]⟩] w (fun e w' => ∃ k : Int, e = .returned (.int .i64 k) ∧ PmAt s.data.toList k ∧ Grew w w') := by
  obtain ⟨x, hx⟩ : ∃ x : UInt8, s[0]'(by omega) = x := ⟨_, rfl⟩
  have hxl : s.data.toList[0]? = some x := by rw [← hx]; exact Lib.data_getElem? s 0 (by omega)
  have hl : s.data.toList.length = 1 := by rw [← Lib.size_eq]; exact h1
  have hx256 := x.toNat_lt
  have key : ∀ k : Int, (x.toNat < 128 → (0 ≤ k ↔ pm x = true)) → PmAt s.data.toList (if 0 ≤ k then 0 else -1) := by
    intro k hk
    have hall : (∀ b ∈ s.data.toList, b.toNat < 128) → x.toNat < 128 := fun h => h x (List.mem_of_getElem? hxl)
    refine ⟨by split <;> omega, by split <;> omega, fun ha => ?_⟩
    have hk' := hk (hall ha)
    by_cases h0 : 0 ≤ k
    · simp only [h0, if_true]
      refine ⟨fun j b hj hb => by have := (List.getElem?_eq_some_iff.1 hb).1; omega, fun b _ hb => ?_⟩
      have : s.data.toList[0]? = some b := hb
      rw [hxl] at this; cases this
      exact hk'.1 h0
    · simp only [h0, if_false]
      refine ⟨fun j b hj hb => ?_, fun b h _ => by omega⟩
      have hj0 : j = 0 := by have := (List.getElem?_eq_some_iff.1 hb).1; omega
      subst hj0
      rw [hxl] at hb; cases hb
      cases hp : pm x with
      | false => rfl
      | true => exact absurd (hk'.2 hp) h0
  have hsz : (s.size : Int) = 1 := by omega
  by_cases ha : x.toNat < 128
  all_goals
    have KEY := Lib.hid key
    clear key hxl hl
    first
      | have hz : decide (128 ≤ (x.toNat : Int)) = false := decide_eq_false (by omega)
      | have hz : decide (128 ≤ (x.toNat : Int)) = true := decide_eq_true (by omega)
    go_enter Tryz.func141, Tryz.ntmps141
    go_wp2_with (first
      | (go_at_call 171; refine (indexRune_pm _ (by omega) (by omega) _).mono ?_; rintro e w1 ⟨k, rfl, hk, R, n, rfl⟩; (have HK := Lib.hid hk); clear hk)
      )
    all_goals
      go_ret
      have hk' : x.toNat < 128 → (0 ≤ k ↔ pm x = true) := by
        first
          | exact fun _ => HK.out.trans (pm_iff x).symm
          | exact fun h => absurd h ha
      have hat := KEY.out k hk'
      refine ⟨_, rfl, ?_, ?_⟩
      · first
          | rwa [if_pos (show (0 : Int) ≤ k by assumption)] at hat
          | rwa [if_neg (show ¬ (0 : Int) ≤ k by omega)] at hat
      · repeat (first | with_reducible exact Grew.refl _ | apply Grew.more | apply Grew.alloc | apply Grew.drew | apply Grew.drewN)

set_option maxHeartbeats 4000000 in
/-- .. of none, or of two to eight letters. -/
theorem lastIndexAny_short (s : ByteArray) (h1 : s.size ≠ 1) (h8 : s.size ≤ 8) (w : World) (hT : Lib.Utf8Tabs 6 7 w) :
    Calls Tryz.prog 141 #[.string s, .string ⟨#[43, 45]⟩] w (fun e w' => ∃ k : Int, e = .returned (.int .i64 k) ∧ PmAt s.data.toList k ∧ Grew w w') := by
  have hn1 : ((s.size : Int) == 1) = false := beq_eq_false_iff_ne.2 (by omega)
  have h8z : decide ((8 : Int) < (s.size : Int)) = false := decide_eq_false (by omega)
  have hl : s.data.toList.length = s.size := (Lib.size_eq s).symm
  have HL := Lib.hid hl
  have HT := Lib.hid hT
  clear hl hT
  go_enter Tryz.func141, Tryz.ntmps141
  go_wp2_with (go_at_call 172; refine (Tryz.strings_shouldUseASCIISet _ _).mono ?_; rintro e w1 ⟨rfl, hw⟩; rw [hw, h8z])
  go_loopw [13] (fun i wr => ∃ k : Nat, k ≤ s.size ∧ i = .int .i64 k ∧ ((∀ b ∈ s.data.toList, b.toNat < 128) → NoPm s.data.toList ((k : Int) - 1)) ∧ Grew w wr) (fun i _ => (intOf i).toNat)
  case atStart => exact ⟨s.size, Nat.le_refl _, rfl, fun _ j b hj hb => by have := (List.getElem?_eq_some_iff.1 hb).1; have := HL.out; omega, Grew.refl _⟩
  case round =>
    obtain ⟨k, hk, rfl, hno, R, n, rfl⟩ := hrel
    have HN := Lib.hid hno
    clear hno
    by_cases h0 : 0 < k
    · have hex : (s.extract 0 k).data.toList = s.data.toList.take k := by simp
      have hlen : (s.extract 0 k).data.toList.length = k := by rw [hex, List.length_take, HL.out]; omega
      have hwd := Lib.decodeLastL_width (s.extract 0 k).data.toList (by omega)
      rw [hlen] at hwd
      have hr := Lib.decodeLastL_rune (s.extract 0 k).data.toList
      have hsz : (s.extract 0 k).size ≤ 9223372036854775807 := by rw [Lib.size_eq]; omega
      have hD := fun W hW => decodeLast_grew (s.extract 0 k) W hsz hW
      have hasc : (∀ b ∈ s.data.toList, b.toNat < 128) → ∃ x : UInt8, s.data.toList[k - 1]? = some x ∧ Lib.decodeLastL (s.extract 0 k).data.toList = (x.toNat, 1) := by
        intro ha
        have hk1 : k - 1 < s.data.toList.length := by rw [HL.out]; omega
        refine ⟨s.data.toList[k - 1], List.getElem?_eq_getElem hk1, ?_⟩
        have htk : s.data.toList.take k = s.data.toList.take (k - 1) ++ [s.data.toList[k - 1]] := by
          rw [← List.take_succ_eq_append_getElem hk1]; congr 1; omega
        rw [hex, htk]
        exact Lib.decodeLastL_ascii _ _ (ha _ (List.getElem_mem _))
      generalize Lib.decodeLastL (s.extract 0 k).data.toList = d at *
      obtain ⟨r, q⟩ := d
      have HA := Lib.hid hasc
      have HE := Lib.hid hex
      clear hasc hex hlen hsz
      obtain ⟨q1, q2⟩ := hwd
      simp only at hr q1 q2 hD
      have hk8 : k ≤ 8 := by omega
      have hb1 : (0 : Int) ≤ (k : Int) - (q : Int) := by omega
      have hb2 : (k : Int) - (q : Int) ≤ 8 := by omega
      go_wp2_with (first
        | (go_at_call 175; refine (hD _ (utf8_grew HT.out (by repeat (first | with_reducible exact Grew.refl _ | apply Grew.more | apply Grew.alloc | apply Grew.drew | apply Grew.drewN)))).mono ?_; rintro e w1 ⟨rfl, R3, n3, rfl⟩)
        | (go_at_call 171; refine (indexRune_pm _ (by omega) (by omega) _).mono ?_; rintro e w1 ⟨k2, rfl, hk2, R4, n4, rfl⟩; (have HK2 := Lib.hid hk2); clear hk2)
        )
      · go_ret
        have h43 : (0 : Int) ≤ k2 := by assumption
        have hr43 := HK2.out.1 h43
        refine ⟨(k : Int) - q, rfl, ⟨by omega, by have := HL.out; omega, fun ha => ?_⟩, ?_⟩
        · obtain ⟨x, hx, hd⟩ := HA.out ha
          have hno := HN.out ha
          cases hd
          have hpx : pm x = true := (pm_iff x).2 hr43
          refine ⟨fun j b hj hb => hno j b (by omega) hb, fun b _ hb => ?_⟩
          have e : ((k : Int) - ((1 : Nat) : Int)).toNat = k - 1 := by omega
          rw [e, hx] at hb
          cases hb
          exact hpx
        · repeat (first | with_reducible exact Grew.refl _ | apply Grew.more | apply Grew.alloc | apply Grew.drew | apply Grew.drewN)
      · have h43 : ¬ (0 : Int) ≤ k2 := by omega
        go_roundw
        case rel =>
          refine ⟨k - q, by omega, by go_num, fun ha => ?_, ?_⟩
          · obtain ⟨x, hx, hd⟩ := HA.out ha
            have hno := HN.out ha
            cases hd
            have hpx : pm x = false := by
              cases hp : pm x with
              | false => rfl
              | true => exact absurd (HK2.out.2 ((pm_iff x).1 hp)) h43
            intro j b hj hb
            by_cases e : j = k - 1
            · subst e; rw [hx] at hb; cases hb; exact hpx
            · exact hno j b (by omega) hb
          · repeat (first | with_reducible exact Grew.refl _ | apply Grew.more | apply Grew.alloc | apply Grew.drew | apply Grew.drewN)
        case measure => first | (simp [intOf]; done) | (simp [intOf]; omega)
    · obtain rfl : k = 0 := by omega
      go_wp2
      go_ret
      refine ⟨-1, rfl, ?_, ?_⟩
      · have hno := HN.out
        refine ⟨by omega, by omega, fun ha => ⟨fun j b hj hb => hno ha j b (by omega) hb, fun b h _ => by omega⟩⟩
      · repeat (first | with_reducible exact Grew.refl _ | apply Grew.more | apply Grew.alloc | apply Grew.drew | apply Grew.drewN)
/-- .. of any text. -/
theorem lastIndexAny_any (s : ByteArray) (hs : s.size ≤ maxLen) (w : World) (hT : Lib.Utf8Tabs 6 7 w) :
    Calls Tryz.prog 141 #[.string s, .string ⟨#[43, 45]⟩] w (fun e w' => ∃ k : Int, e = .returned (.int .i64 k) ∧ PmAt s.data.toList k ∧ Grew w w') := by
  by_cases h1 : s.size = 1
  · exact lastIndexAny_one s h1 w
  · by_cases h8 : s.size ≤ 8
    · exact lastIndexAny_short s h1 h8 w hT
    · exact lastIndexAny_long s hs (by omega) w
end Go.Proofs.YtlgbipfpnfphjaaGreatDoor
