import Derived.Test.YtipgfjihdglocaaGreatCw14
import Derived.Test.YtipgfjihdglocaaGreatCw38
import Derived.Test.YtipgfjihdglocaaGreatCw0
import Derived.ArgAppend
import Derived.OwnWalk
/-! sum.number. -/
namespace Go.Proofs.YtipgfjihdglocaaGreat
set_option linter.unusedSimpArgs false
set_option linter.unusedVariables false
open Go.RowKit Ga
set_option maxRecDepth 100000

theorem dropB (s : List UInt8) (A n : Nat) (hn : s.length = n) : (⟨s.toArray⟩ : ByteArray).extract A n = ⟨(s.drop A).toArray⟩ := by
  rw [cutT, List.take_of_length_le (by rw [List.length_drop]; omega)]
theorem takeB (s : List UInt8) (n : Nat) : (⟨s.toArray⟩ : ByteArray).extract 0 n = ⟨(s.take n).toArray⟩ := by
  rw [cutT, List.drop_zero, Nat.sub_zero]
theorem i64_or_nat (a b : Nat) (ha : a < 4611686018427387904) (hb : b < 4611686018427387904) : bits .or .i64 (a : Int) (b : Int) = ((a ||| b : Nat) : Int) := by
  have hx : a ||| b < 2 ^ 62 := Nat.or_lt_two_pow (by omega) (by omega)
  have e : ∀ c : Nat, c < 4611686018427387904 → (BitVec.ofInt 64 (c : Int)).toNat = c := fun c hc => by
    rw [BitVec.ofInt_natCast, BitVec.toNat_ofNat]; exact Nat.mod_eq_of_lt (by omega)
  show IntKind.i64.wrap ((BitVec.ofInt 64 (a : Int) ||| BitVec.ofInt 64 (b : Int)).toNat : Int) = _
  rw [BitVec.toNat_or, e a ha, e b hb]
  simp [IntKind.wrap, IntKind.min, IntKind.max, IntKind.signed, IntKind.bits]
  omega
theorem or_byte64 (u : Int) (x : UInt8) (h0 : 0 ≤ u) (h1 : u < 16777216) : bits .or .i64 (u * 256) (x.toNat : Int) = u * 256 + x.toNat := by
  have hx := x.toNat_lt
  obtain ⟨n, rfl⟩ : ∃ n : Nat, u = n := ⟨u.toNat, by omega⟩
  have e : (n : Int) * 256 = ((n * 256 : Nat) : Int) := by omega
  rw [e, i64_or_nat _ _ (by omega) (by omega)]
  have := Nat.shiftLeft_add_eq_or_of_lt (show x.toNat < 2 ^ 8 by omega) n
  rw [Nat.shiftLeft_eq] at this
  have h2 : n * 256 ||| x.toNat = n * 256 + x.toNat := this.symm
  rw [h2]; omega
set_option maxHeartbeats 4000000 in
theorem sumNumber_any (s : List UInt8) (w : World) (h4 : 4 ≤ s.length) (hl : s.length ≤ 1000000) : Calls Tryz.prog 182 #[.string ⟨s.toArray⟩] w fun e w' => e = .returned (.int .i64 (Oc.part s 4)) ∧ w' = w := by
  have hsz : (s.length : Int) ≤ 9223372036854775807 := by omega
  go_enter Tryz.func182, Tryz.ntmps182
  go_wp2
  go_loop [3, 5] (fun u i => ∃ (k : Nat), k ≤ 4 ∧ i = .int .i64 k ∧ u = .int .i64 (Oc.part s k)) (fun _ i => 4 - (intOf i).toNat)
  case atStart => exact ⟨0, by omega, rfl, rfl⟩
  case round =>
    obtain ⟨k, hk, rfl, rfl⟩ := hrel
    by_cases hlt : k < 4
    · obtain ⟨x, hx⟩ : ∃ x, s[k]? = some x := ⟨s[k]'(by omega), List.getElem?_eq_getElem _⟩
      have hps := Oc.part_succ s k x hx
      have hpr := Oc.part_range s k hk
      have hk2 : (k : Int) < s.length := by omega
      have hpp : Oc.part s k < 16777216 := by
        have h3 : (256 : Int) ^ k ≤ 16777216 := by
          rcases (show k = 0 ∨ k = 1 ∨ k = 2 ∨ k = 3 by omega) with rfl | rfl | rfl | rfl <;> decide
        omega
      obtain ⟨hp0, -⟩ := hpr
      have hx8 := x.toNat_lt
      generalize Oc.part s k = u at *
      have HPS := Lib.hid hps
      have HX := Lib.hid hx
      clear hps hx
      go_wp2
      have hb : ∀ h, ({ data := s.toArray } : ByteArray)[k]'h = x := fun h => by
        have := HX.out
        rw [List.getElem?_eq_getElem (by omega)] at this
        exact Option.some.inj this
      have hw : wrap64 (x.toNat : Int) = x.toNat := by
        simp only [wrap64]
        first | omega | (split <;> omega)
      go_round
      case rel => exact ⟨k + 1, by omega, by go_num, by rw [HPS.out, hb, hw, or_byte64 u x hp0 hpp]⟩
      case measure => first | (simp [intOf]; done) | (simp [intOf]; omega)
    · obtain rfl : k = 4 := by omega
      go_wp2
      go_ret
      exact ⟨rfl, rfl⟩
end Go.Proofs.YtipgfjihdglocaaGreat
/-! sum.Open and log.Scan at any bytes. -/
namespace Go.Proofs.YtipgfjihdglocaaGreat
set_option linter.unusedSimpArgs false
set_option linter.unusedVariables false
open Go.RowKit Ga
set_option maxRecDepth 100000

/-- a frame's text and what stands behind it, or why there is none -/
def OpenRes (s : List UInt8) (w : World) (e : Ending) (w' : World) : Prop := Grew w w' ∧ ((∃ k : Int, k ≠ 0 ∧ e = .returned (.tuple #[str [], str s, .int .i64 k])) ∨ ∃ t b : List UInt8, s.length = t.length + b.length + 8 ∧ e = .returned (.tuple #[str t, str b, .int .i64 0]))
def IsInt (v : Value) (_ : World) : Prop := ∃ y : Int, v = .int .i64 y
theorem IsInt.st : ∀ v w w', IsInt v w → Grew w w' → IsInt v w' := fun _ _ _ h _ => h
def IsBo (v : Value) (_ : World) : Prop := ∃ y : Bool, v = .bool y
theorem IsBo.st : ∀ v w w', IsBo v w → Grew w w' → IsBo v w' := fun _ _ _ h _ => h
def Two (x y : List UInt8) (v : Value) (w : World) : Prop := ∃ b cap, v = .slice (some ⟨b, 0, none⟩) 2 cap ∧ RowsAt 1 encS w v [x, y]
theorem Two.st (x y : List UInt8) : ∀ v w w', Two x y v w → Grew w w' → Two x y v w' := fun _ _ _ ⟨b, cap, h1, h2⟩ g => ⟨b, cap, h1, h2.grew g⟩
set_option maxHeartbeats 16000000 in
theorem sumOpen_any (s : List UInt8) (w : World) (hs : s.length ≤ 100000) : Calls Tryz.prog 137 #[.string ⟨s.toArray⟩] w (OpenRes s w) := by
  have hsz : (s.length : Int) ≤ 9223372036854775807 := by omega
  by_cases h8 : s.length < 8
  · have h8' : (s.length : Int) < 8 := by omega
    go_enter Tryz.func137, Tryz.ntmps137
    go_wp2
    exact bodyPost_ret (v := .tuple #[.string ⟨#[]⟩, .string ⟨s.toArray⟩, .int .i64 3]) (by simp [results, Tryz.results137, go_sem]) rfl ⟨by repeat (first | with_reducible exact Grew.refl _ | apply Grew.more | apply Grew.alloc | apply Grew.drew | apply Grew.drewN), .inl ⟨3, by decide, rfl⟩⟩
  · have h8' : ¬ (s.length : Int) < 8 := by omega
    have HN1 := Lib.hid fun W => sumNumber_any s W (by omega) (by omega)
    have HN2 := Lib.hid fun W => sumNumber_any (s.drop 4) W (by rw [List.length_drop]; omega) (by rw [List.length_drop]; omega)
    have hpr := Oc.part_range s 4 (by omega)
    obtain ⟨n, hn⟩ : ∃ n : Nat, Oc.part s 4 = n := ⟨(Oc.part s 4).toNat, by omega⟩
    rw [hn] at HN1 hpr
    obtain ⟨wa, hwa⟩ : ∃ x, Oc.part (s.drop 4) 4 = x := ⟨_, rfl⟩
    rw [hwa] at HN2
    have e4 := dropB s 4 s.length rfl
    have e8 := dropB s 8 s.length rfl
    have hn9 : (n : Int) ≤ 9223372036854775807 := by omega
    have q4 : 4 ≤ s.length := by omega
    have q8 : 8 ≤ s.length := by omega
    have hl8 : (s.drop 8).length = s.length - 8 := List.length_drop
    obtain ⟨r, hr⟩ : ∃ r, s.drop 8 = r := ⟨_, rfl⟩
    rw [hr] at e8 hl8
    clear hn hwa hpr
    go_enter Tryz.func137, Tryz.ntmps137
    go_upto_region 3 with fail
    clear h8 h8'
    refine wp_region_seq 9 Tryz.mixed (by kernel_rfl) (by kernel_rfl) ?_
    iterate 1
      apply Seq.val
      focus
        rintro w1 u ⟨R1, n1, rfl⟩ hF
        simp [moreFacts, Fact.more, Oper.deps, Region.binds, List.filter_cons, World.more_drew] at hF
        simp [putFacts, Oper.deps, Region.binds, List.filter_cons, Region.dstOf, Fact.at, Act.put, World.more_drew]
        go_wp2
        exact ⟨by repeat (first | with_reducible exact Grew.refl _ | apply Grew.more | apply Grew.alloc | apply Grew.drew | apply Grew.drewN), rfl, _, _, rfl, rfl, rfl⟩
    apply Seq.val
    focus
      rintro w1 u ⟨R1, n1, rfl⟩ hF
      simp [moreFacts, Fact.more, Oper.deps, Region.binds, List.filter_cons, World.more_drew] at hF
      simp [putFacts, Oper.deps, Region.binds, List.filter_cons, Region.dstOf, Fact.at, Act.put, World.more_drew]
      go_wp2_with (first
        | (go_at_call 182; ((with_reducible refine (HN1.out _).mono ?_)); rintro e w2 ⟨rfl, rfl⟩)
        )
      exact ⟨by repeat (first | with_reducible exact Grew.refl _ | apply Grew.more | apply Grew.alloc | apply Grew.drew | apply Grew.drewN), rfl, _, _, rfl, rfl, rfl⟩
    iterate 2
      apply Seq.val
      focus
        rintro w1 u ⟨R1, n1, rfl⟩ hF
        simp [moreFacts, Fact.more, Oper.deps, Region.binds, List.filter_cons, World.more_drew] at hF
        simp [putFacts, Oper.deps, Region.binds, List.filter_cons, Region.dstOf, Fact.at, Act.put, World.more_drew]
        go_wp2
        exact ⟨by repeat (first | with_reducible exact Grew.refl _ | apply Grew.more | apply Grew.alloc | apply Grew.drew | apply Grew.drewN), rfl, _, _, rfl, rfl, rfl⟩
    apply Seq.val
    focus
      rintro w1 u ⟨R1, n1, rfl⟩ hF
      simp [moreFacts, Fact.more, Oper.deps, Region.binds, List.filter_cons, World.more_drew] at hF
      simp [putFacts, Oper.deps, Region.binds, List.filter_cons, Region.dstOf, Fact.at, Act.put, World.more_drew]
      go_wp2_with (first
        | (go_at_call 182; ((with_reducible refine (HN2.out _).mono ?_)); rintro e w2 ⟨rfl, rfl⟩)
        )
      exact ⟨by repeat (first | with_reducible exact Grew.refl _ | apply Grew.more | apply Grew.alloc | apply Grew.drew | apply Grew.drewN), rfl, _, _, rfl, rfl, rfl⟩
    iterate 4
      apply Seq.val
      focus
        rintro w1 u ⟨R1, n1, rfl⟩ hF
        simp [moreFacts, Fact.more, Oper.deps, Region.binds, List.filter_cons, World.more_drew] at hF
        simp [putFacts, Oper.deps, Region.binds, List.filter_cons, Region.dstOf, Fact.at, Act.put, World.more_drew]
        go_wp2
        exact ⟨by repeat (first | with_reducible exact Grew.refl _ | apply Grew.more | apply Grew.alloc | apply Grew.drew | apply Grew.drewN), rfl, _, _, rfl, rfl, rfl⟩
    rintro u w1 ⟨R1, n1, rfl⟩ hF
    clear hF
    simp [putFacts, Region.dstOf, Fact.at, Act.put, List.range_succ, World.more_drew]
    by_cases hm : (1048576 : Int) < n
    · go_wp2_with fail
      exact bodyPost_ret (v := .tuple #[.string ⟨#[]⟩, .string ⟨s.toArray⟩, .int .i64 6]) (by simp [results, Tryz.results137, go_sem]) rfl ⟨by repeat (first | with_reducible exact Grew.refl _ | apply Grew.more | apply Grew.alloc | apply Grew.drew | apply Grew.drewN), .inl ⟨6, by decide, rfl⟩⟩
    · by_cases hr2 : r.length < n
      · have hr3 : (r.length : Int) < n := by omega
        go_wp2_with fail
        exact bodyPost_ret (v := .tuple #[.string ⟨#[]⟩, .string ⟨s.toArray⟩, .int .i64 3]) (by simp [results, Tryz.results137, go_sem]) rfl ⟨by repeat (first | with_reducible exact Grew.refl _ | apply Grew.more | apply Grew.alloc | apply Grew.drew | apply Grew.drewN), .inl ⟨3, by decide, rfl⟩⟩
      · have hr3 : ¬ (r.length : Int) < n := by omega
        have hr4 : n ≤ r.length := by omega
        have hrz : (r.length : Int) ≤ 9223372036854775807 := by omega
        have f4 := takeB s 4
        have fn := takeB r n
        have gn := dropB r n r.length rfl
        have HLT : Hid (∀ l ∈ [s.take 4, r.take n], l.length ≤ 1000000) := Lib.hid fun l hl => by
          rcases List.mem_cons.1 hl with h | h
          · rw [h, List.length_take]; omega
          · rw [List.mem_singleton.1 h, List.length_take]; omega
        have HL8 : Hid (s.length = (r.take n).length + (r.drop n).length + 8) := Lib.hid (by rw [List.length_take, List.length_drop]; omega)
        go_upto_region 8 with fail
        clear hm hr2 hr3 hl8
        refine wp_region_seq 9 Tryz.mixed (by kernel_rfl) (by kernel_rfl) ?_
        iterate 5
          apply Seq.val
          focus
            rintro w1 u ⟨R1, n1, rfl⟩ hF
            simp [moreFacts, Fact.more, Oper.deps, Region.binds, List.filter_cons, World.more_drew] at hF
            simp [putFacts, Oper.deps, Region.binds, List.filter_cons, Region.dstOf, Fact.at, Act.put, World.more_drew]
            go_wp2
            exact ⟨by repeat (first | with_reducible exact Grew.refl _ | apply Grew.more | apply Grew.alloc | apply Grew.drew | apply Grew.drewN), rfl, _, _, rfl, rfl, rfl⟩
        apply Seq.of (Two (s.take 4) (r.take n)) (Two.st _ _)
        focus
          rintro w1 u ⟨R1, n1, rfl⟩ hF
          simp [moreFacts, Fact.more, Oper.deps, Region.binds, List.filter_cons, World.more_drew] at hF
          simp [putFacts, Oper.deps, Region.binds, List.filter_cons, Region.dstOf, Fact.at, Act.put, World.more_drew]
          go_wp2_with fail
          exact ⟨by repeat (first | with_reducible exact Grew.refl _ | apply Grew.more | apply Grew.alloc | apply Grew.drew | apply Grew.drewN), rfl, _, _, rfl, rfl, ⟨_, _, rfl, str_at2 _ _ _ _ rfl rfl (by simp [go_sem])⟩⟩
        apply Seq.of IsInt IsInt.st
        focus
          rintro w1 u ⟨R1, n1, rfl⟩ hF
          simp [moreFacts, Fact.more, Oper.deps, Region.binds, List.filter_cons, World.more_drew] at hF
          simp [putFacts, Oper.deps, Region.binds, List.filter_cons, Region.dstOf, Fact.at, Act.put, World.more_drew]
          obtain ⟨b7, c7, hu, h7⟩ := hF; rw [hu] at h7 ⊢; (have H7 := Lib.hid h7); clear hu h7
          go_wp2_with (first
            | (go_at_call 148; refine (sumOf_any _ [s.take 4, r.take n] _ (H7.out.grew (by repeat (first | with_reducible exact Grew.refl _ | apply Grew.more | apply Grew.alloc | apply Grew.drew | apply Grew.drewN))) HLT.out).mono ?_; rintro e w2 ⟨y, rfl, R3, n3, rfl⟩)
            )
          exact ⟨by repeat (first | with_reducible exact Grew.refl _ | apply Grew.more | apply Grew.alloc | apply Grew.drew | apply Grew.drewN), rfl, _, _, rfl, rfl, ⟨_, rfl⟩⟩
        iterate 1
          apply Seq.val
          focus
            rintro w1 u ⟨R1, n1, rfl⟩ hF
            simp [moreFacts, Fact.more, Oper.deps, Region.binds, List.filter_cons, World.more_drew] at hF
            simp [putFacts, Oper.deps, Region.binds, List.filter_cons, Region.dstOf, Fact.at, Act.put, World.more_drew]
            go_wp2
            exact ⟨by repeat (first | with_reducible exact Grew.refl _ | apply Grew.more | apply Grew.alloc | apply Grew.drew | apply Grew.drewN), rfl, _, _, rfl, rfl, rfl⟩
        apply Seq.of IsBo IsBo.st
        focus
          rintro w1 u ⟨R1, n1, rfl⟩ hF
          simp [moreFacts, Fact.more, Oper.deps, Region.binds, List.filter_cons, World.more_drew] at hF
          simp [putFacts, Oper.deps, Region.binds, List.filter_cons, Region.dstOf, Fact.at, Act.put, World.more_drew]
          obtain ⟨y7, hu⟩ := hF; rw [hu]; clear hu
          go_wp2_with fail
          exact ⟨by repeat (first | with_reducible exact Grew.refl _ | apply Grew.more | apply Grew.alloc | apply Grew.drew | apply Grew.drewN), rfl, _, _, rfl, rfl, ⟨_, rfl⟩⟩
        rintro u w1 ⟨R1, n1, rfl⟩ hF
        simp [moreFacts, apartFacts, Fact.more, Fact.isNew, List.range_succ, World.more_drew] at hF
        obtain ⟨-, -, bo, hu8⟩ := hF
        simp [putFacts, Region.dstOf, Fact.at, Act.put, List.range_succ, World.more_drew]
        rw [hu8]
        clear hu8
        cases bo
        · go_wp2_with fail
          refine wp_region_seq 9 Tryz.mixed (by kernel_rfl) (by kernel_rfl) ?_
          iterate 9
            apply Seq.val
            focus
              rintro w1 u ⟨R1, n1, rfl⟩ hF
              simp [moreFacts, Fact.more, Oper.deps, Region.binds, List.filter_cons, World.more_drew] at hF
              simp [putFacts, Oper.deps, Region.binds, List.filter_cons, Region.dstOf, Fact.at, Act.put, World.more_drew]
              go_wp2
              exact ⟨by repeat (first | with_reducible exact Grew.refl _ | apply Grew.more | apply Grew.alloc | apply Grew.drew | apply Grew.drewN), rfl, _, _, rfl, rfl, rfl⟩
          rintro u w1 ⟨R1, n1, rfl⟩ hF
          clear hF
          simp [putFacts, Region.dstOf, Fact.at, Act.put, List.range_succ, World.more_drew]
          go_wp2_with fail
          exact bodyPost_ret (v := .tuple #[.string ⟨(r.take n).toArray⟩, .string ⟨(r.drop n).toArray⟩, .int .i64 0]) (by simp [results, Tryz.results137, go_sem]) rfl ⟨by repeat (first | with_reducible exact Grew.refl _ | apply Grew.more | apply Grew.alloc | apply Grew.drew | apply Grew.drewN), .inr ⟨_, _, HL8.out, rfl⟩⟩
        · go_wp2_with fail
          exact bodyPost_ret (v := .tuple #[.string ⟨#[]⟩, .string ⟨s.toArray⟩, .int .i64 5]) (by simp [results, Tryz.results137, go_sem]) rfl ⟨by repeat (first | with_reducible exact Grew.refl _ | apply Grew.more | apply Grew.alloc | apply Grew.drew | apply Grew.drewN), .inl ⟨5, by decide, rfl⟩⟩
end Go.Proofs.YtipgfjihdglocaaGreat
/-! log.Scan at any bytes. -/
namespace Go.Proofs.YtipgfjihdglocaaGreat
set_option linter.unusedSimpArgs false
set_option linter.unusedVariables false
open Go.RowKit Ga
set_option maxRecDepth 100000

def frame87 (s : List UInt8) (v : Value) (r : List UInt8) (u : Nat → Value) : Act := { tmps := #[.string ⟨s.toArray⟩, u 1, u 2, u 3, v, .string ⟨r.toArray⟩, u 6, u 7, u 8, u 9, u 10, u 11, u 12, u 13, u 14, u 15, u 16, u 17, u 18, u 19, u 20, u 21, u 22, u 23, u 24, u 25, u 26, u 27, u 28], defers := [] }
theorem arr29 (t : Array Value) (h : t.size = 29) : t = #[t.getD 0 undef, t.getD 1 undef, t.getD 2 undef, t.getD 3 undef, t.getD 4 undef, t.getD 5 undef, t.getD 6 undef, t.getD 7 undef, t.getD 8 undef, t.getD 9 undef, t.getD 10 undef, t.getD 11 undef, t.getD 12 undef, t.getD 13 undef, t.getD 14 undef, t.getD 15 undef, t.getD 16 undef, t.getD 17 undef, t.getD 18 undef, t.getD 19 undef, t.getD 20 undef, t.getD 21 undef, t.getD 22 undef, t.getD 23 undef, t.getD 24 undef, t.getD 25 undef, t.getD 26 undef, t.getD 27 undef, t.getD 28 undef] := by
  have e : t = (Array.range 29).map fun i => t.getD i undef := by
    refine Array.ext (by simp [h]) fun i h1 h2 => ?_
    simp only [Array.getElem_map, Array.getElem_range]
    rw [Array.getD_eq_getD_getElem?, Array.getElem?_eq_getElem h1]
    rfl
  have e2 : Array.range 29 = #[0, 1, 2, 3, 4, 5, 6, 7, 8, 9, 10, 11, 12, 13, 14, 15, 16, 17, 18, 19, 20, 21, 22, 23, 24, 25, 26, 27, 28] := by decide +kernel
  rw [e2] at e
  exact e.trans (by simp)
structure Frame87 (s : List UInt8) (v : Value) (r : List UInt8) (a : Act) : Prop where
  n : a.tmps.size = 29
  d : a.defers = []
  s : a.tmps[0]? = some (.string ⟨s.toArray⟩)
  v : a.tmps[4]? = some v
  r : a.tmps[5]? = some (.string ⟨r.toArray⟩)
theorem Frame87.get {s r : List UInt8} {v : Value} {a : Act} (h : Frame87 s v r a) : ∃ u, a = frame87 s v r u := by
  obtain ⟨t, d⟩ := a
  obtain ⟨h1, h2, h3, h4, h5⟩ := h
  simp only at h1 h2 h3 h4 h5
  refine ⟨fun i => t.getD i undef, ?_⟩
  have e := arr29 t h1
  have g : ∀ i v, t[i]? = some v → t.getD i undef = v := fun i v h => by rw [Array.getD_eq_getD_getElem?, h]; rfl
  rw [g 0 _ h3, g 4 _ h4, g 5 _ h5] at e
  unfold frame87
  rw [← e, h2]
/-- what holds at each jump -/
def Scan87 (s : List UInt8) (w : World) (a : Act) (W : World) : Prop := ∃ (v : Value) (ls : List (List UInt8)) (r : List UInt8), Frame87 s v r a ∧ OwnAt w.heap.size 9 1 encS W v ls ∧ r.length + ls.length ≤ s.length ∧ (∀ t ∈ ls, t.length ≤ s.length) ∧ Grew w W
def mu87 (a : Act) (_ : World) : Nat := match a.tmps.getD 5 undef with
  | .string b => b.size
  | _ => 0
def ScanRes (s : List UInt8) (w : World) (e : Ending) (w' : World) : Prop := ∃ (v : Value) (ls : List (List UInt8)) (k : Nat), e = .returned (.tuple #[v, .int .i64 k]) ∧ OwnAt w.heap.size 9 1 encS w' v ls ∧ k ≤ s.length ∧ ls.length ≤ s.length ∧ (∀ t ∈ ls, t.length ≤ s.length) ∧ Grew w w'
theorem OpenRes.one {s : List UInt8} {w w' : World} {e : Ending} (h : OpenRes s w e w') : Grew w w' ∧ ∃ (t b : List UInt8) (k : Int), e = .returned (.tuple #[.string ⟨t.toArray⟩, .string ⟨b.toArray⟩, .int .i64 k]) ∧ (k = 0 → s.length = t.length + b.length + 8) := by
  obtain ⟨g, ⟨k, hk, rfl⟩ | ⟨t, b, hl, rfl⟩⟩ := h
  · exact ⟨g, [], s, k, rfl, fun e => absurd e hk⟩
  · exact ⟨g, t, b, 0, rfl, fun _ => hl⟩
set_option maxHeartbeats 8000000 in
theorem logScan_any (s : List UInt8) (w : World) (hs : s.length ≤ 100000) : Calls Tryz.prog 87 #[.string ⟨s.toArray⟩] w (ScanRes s w) := by
  have hsz : (s.length : Int) ≤ 9223372036854775807 := by omega
  have HS := Lib.hid hs
  clear hs
  go_enter Tryz.func87, Tryz.ntmps87
  go_wp2_with fail
  refine wp_scope_jumps1' 0 (Scan87 s w) mu87 rfl ?_ ?_
  · rintro a1 W ⟨v, ls, r, hf, ho, hr, ht, hg⟩
    obtain ⟨u, rfl⟩ := hf.get
    obtain ⟨av, cv, rfl⟩ := (OwnAt.rows ho encS_len).len
    have HO := Lib.hid ho
    have HR := Lib.hid hr
    have HT := Lib.hid ht
    have HG := Lib.hid hg
    have hrz : (r.length : Int) ≤ 9223372036854775807 := by omega
    have hn1 : (s.length : Int) - r.length ≤ 9223372036854775807 := by omega
    have hn2 : -9223372036854775808 ≤ (s.length : Int) - r.length := by omega
    have HOP := Lib.hid fun W' => sumOpen_any r W' (by have := HS.out; omega)
    have hmu : mu87 (frame87 s (.slice av ls.length cv) r u) W = r.length := rfl
    rw [hmu]
    clear hf ho hr ht hg hmu
    unfold frame87
    go_upto_region 4 with (go_at_call 137; refine (HOP.out _).mono ?_; rintro e w1 h1; obtain ⟨⟨R3, n3, rfl⟩, t, b, k, rfl, h0⟩ := h1.one; (have H0 := Lib.hid h0); clear h0)
    by_cases hk : k = 0
    · subst hk
      have hl := H0.out rfl
      have HL := Lib.hid hl
      clear hl H0 hn1 hn2
      go_wp2_with (at_builtin; go_loud (refine wpList_ownK (w0 := w) rfl (.tmp 18) (.tmp 20) 84 _ _ _ _ [t] rfl Tryz.underlying84 infoStr rfl (by decide) encS_len encS_one rfl (OwnAt.grew HO.out (by repeat (first | with_reducible exact Grew.refl _ | apply Grew.more | apply Grew.alloc | apply Grew.drew | apply Grew.drewN))) (HG.out.trans (by repeat (first | with_reducible exact Grew.refl _ | apply Grew.more | apply Grew.alloc | apply Grew.drew | apply Grew.drewN))) rfl (str_at1 _ _ _ _ rfl (by simp [go_sem])) (by have := HR.out; have := HS.out; simp; omega) (by decide) (by simp) ?_); intro v7 W7 hA; (have HA7 := Lib.hid hA); clear hA)
      have hr := HR.out
      have hl := HL.out
      refine wp_goto ?_
      refine ⟨rfl, ⟨_, ls ++ [t], b, ⟨rfl, rfl, rfl, rfl, rfl⟩, OwnAt.grew HA7.out.2.1 (by repeat (first | with_reducible exact Grew.refl _ | apply Grew.more | apply Grew.alloc | apply Grew.drew | apply Grew.drewN)), by rw [List.length_append]; simp; omega, ?_, HA7.out.1.trans (by repeat (first | with_reducible exact Grew.refl _ | apply Grew.more | apply Grew.alloc | apply Grew.drew | apply Grew.drewN))⟩, show b.length < r.length by omega⟩
      intro x hx
      rcases List.mem_append.1 hx with h | h
      · exact HT.out x h
      · rw [List.mem_singleton.1 h]; omega
    · have hk0 : (k == 0) = false := by rw [beq_eq_false_iff_ne]; exact hk
      have HK : Hid (((s.length - r.length : Nat) : Int) = (s.length : Int) - r.length) := Lib.hid (by have := HR.out; omega)
      clear hk H0
      go_wp2_with fail
      exact bodyPost_ret (v := .tuple #[.slice av ls.length cv, .int .i64 ((s.length : Int) - r.length)]) (by simp [results, Tryz.results87, go_sem]) rfl ⟨_, ls, s.length - r.length, by rw [HK.out], OwnAt.grew HO.out (by repeat (first | with_reducible exact Grew.refl _ | apply Grew.more | apply Grew.alloc | apply Grew.drew | apply Grew.drewN)), Nat.sub_le _ _, by have := HR.out; omega, HT.out, HG.out.trans (by repeat (first | with_reducible exact Grew.refl _ | apply Grew.more | apply Grew.alloc | apply Grew.drew | apply Grew.drewN))⟩
  · intro hfirst
    go_wp2_with fail
    refine wp_label ?_
    rename_i hK
    refine hK _ _ (hfirst _ _ ⟨.slice none 0 0, [], s, ⟨rfl, rfl, rfl, rfl, rfl⟩, OwnAt.nil _, by simp, (fun t h => by cases h), by repeat (first | with_reducible exact Grew.refl _ | apply Grew.more | apply Grew.alloc | apply Grew.drew | apply Grew.drewN)⟩)
end Go.Proofs.YtipgfjihdglocaaGreat
/-! disk.Truncate; log.Open at any bytes. -/
namespace Go.Proofs.YtipgfjihdglocaaGreat
set_option linter.unusedSimpArgs false
set_option linter.unusedVariables false
open Go.RowKit Ga
set_option maxRecDepth 100000

set_option maxHeartbeats 4000000 in
/-- the first bytes are left -/
theorem diskTruncate_any {W : World} {x : Nat} {last : List UInt8} {pv : Value} {ps : List (List UInt8)} {cap : Int} (w0 : World) (k : Nat) (h : DiskAt W x last pv ps cap) (hg : Grew w0 W) (hx : w0.heap.size ≤ x) (hk : k ≤ (last ++ ps.flatten).length) :
    Calls Tryz.prog 88 #[.pointer (some ⟨x, 0, none⟩), .int .i64 k] W fun e W' => e = .returned (.int .i64 0) ∧ DiskAt W' x ((last ++ ps.flatten).take k) (.slice none 0 0) [] cap ∧ Leaves [91] W W' ∧ Grew w0 W' := by
  have HW := Lib.hid (diskWrong_any h)
  have HA := Lib.hid fun W' (g : Grew W W') => diskAll_any (h.grew g)
  have HB := Lib.hid fun W' (g : Grew W W') => diskBurn_any (h.grew g)
  have HN := Lib.hid fun W' (g : Grew W W') => diskLen_any (h.grew g)
  have h2 := cell_of (o := 2) h.blk
  have h3 := cell_of (o := 3) h.blk
  simp at h2 h3
  have hf2 := frozen_of (o := 2) h.blk
  have hf3 := frozen_of (o := 3) h.blk
  have hb : Pre x W := heap_lt h.blk
  have hB := Lib.hid h.blk
  have hL := Lib.hid h.len
  clear h
  have HG := Lib.hid hg
  have HX := Lib.hid hx
  clear hg hx
  generalize last ++ ps.flatten = t at *
  have hex := takeB t k
  have hkz : (k : Int) ≤ 9223372036854775807 := by have := hL.out; omega
  have hk2 : ¬ (t.length : Int) < k := by omega
  have hk3 : ¬ (k : Int) < 0 := by omega
  go_enter Tryz.func88, Tryz.ntmps88
  go_wp2_with (first
    | (go_at_call 57; refine HW.out.mono ?_; rintro e w1 ⟨rfl, R1, n1, rfl⟩)
    | (go_at_call 119; refine (HN.out _ (by repeat (first | with_reducible exact Grew.refl _ | apply Grew.more | apply Grew.alloc | apply Grew.drew | apply Grew.drewN))).mono ?_; rintro e w1 ⟨rfl, R4, n4, rfl⟩)
    | (go_at_call 59; refine (HB.out _ (by repeat (first | with_reducible exact Grew.refl _ | apply Grew.more | apply Grew.alloc | apply Grew.drew | apply Grew.drewN))).mono ?_; rintro e w1 ⟨rfl, R2, n2, rfl⟩)
    | (go_at_call 136; refine (HA.out _ (by repeat (first | with_reducible exact Grew.refl _ | apply Grew.more | apply Grew.alloc | apply Grew.drew | apply Grew.drewN))).mono ?_; rintro e w1 ⟨rfl, R3, n3, rfl⟩))
  go_ret
  have b1 := set_blk (o := 2) (v := .string ⟨(t.take k).toArray⟩) hB.out rfl
  have b2 := set_blk (o := 3) (v := .slice none 0 0) b1 rfl
  have hl := ((Leaves.refl [91] W).set (o := 2) (v := .string ⟨(t.take k).toArray⟩) hB.out (by simp)).set (o := 3) (v := .slice none 0 0) b1 (by simp)
  have hg := (HG.out.set (o := 2) HX.out (.string ⟨(t.take k).toArray⟩)).set (o := 3) HX.out (.slice none 0 0)
  exact ⟨rfl, ⟨grew_heap (by repeat (first | with_reducible exact Grew.refl _ | apply Grew.more | apply Grew.alloc | apply Grew.drew | apply Grew.drewN)) b2, OwnAt.nil _, by simp, by have := hL.out; simp; omega⟩, hl.trans (Leaves.grew (by repeat (first | with_reducible exact Grew.refl _ | apply Grew.more | apply Grew.alloc | apply Grew.drew | apply Grew.drewN))), hg.trans (by repeat (first | with_reducible exact Grew.refl _ | apply Grew.more | apply Grew.alloc | apply Grew.drew | apply Grew.drewN))⟩
set_option maxHeartbeats 4000000 in
/-- the log of a disk: what stands behind the records is cut off -/
theorem logOpen_any {W : World} {x : Nat} {last : List UInt8} {pv : Value} {ps : List (List UInt8)} {cap : Int} (w0 : World) (h : DiskAt W x last pv ps cap) (hg : Grew w0 W) (hx : w0.heap.size ≤ x) (hs : (last ++ ps.flatten).length ≤ 100000) : Calls Tryz.prog 33 #[.pointer (some ⟨x, 0, none⟩)] W fun e W' => ∃ (y : Nat) (av : Value) (ls : List (List UInt8)) (ld : List UInt8), e = .returned (.tuple #[.pointer (some ⟨y, 0, none⟩), .int .i64 0]) ∧ w0.heap.size ≤ y ∧ LogAt w0.heap.size W' y x av ls ∧ (ls.length ≤ (last ++ ps.flatten).length ∧ ∀ t ∈ ls, t.length ≤ (last ++ ps.flatten).length) ∧ DiskAt W' x ld (.slice none 0 0) [] cap ∧ ld.length ≤ (last ++ ps.flatten).length ∧ Leaves [91] W W' ∧ Grew w0 W' := by
  have HR := Lib.hid (diskRead_any h)
  have HS := Lib.hid fun W' (g : Grew W W') => diskSync_any w0 (h.grew g) (hg.trans g) hx
  have HT := Lib.hid fun k (hk : k ≤ (last ++ ps.flatten).length) W' (g : Grew W W') => diskTruncate_any w0 k (h.grew g) (hg.trans g) hx hk
  have HSC := Lib.hid fun W' => logScan_any (last ++ ps.flatten) W' hs
  have hsz : (((last ++ ps.flatten).length : Nat) : Int) ≤ 9223372036854775807 := by omega
  have HSZ := Lib.hid hs
  have HGW := Lib.hid hg
  clear h hg hx hs
  generalize last ++ ps.flatten = s at *
  go_enter Tryz.func33, Tryz.ntmps33
  go_upto_region 5 with (first
    | (go_at_call 86; refine HR.out.mono ?_; rintro e w1 ⟨rfl, R1, n1, rfl⟩)
    | (go_at_call 87; refine (HSC.out _).mono ?_; rintro e w1 ⟨v, ls, k, rfl, ho, hk, hl1, hl2, R2, n2, rfl⟩; obtain ⟨av, cv, rfl⟩ := (OwnAt.rows ho encS_len).len; (have HO := Lib.hid (OwnAt.low ho (Grew.below (HGW.out.trans (by repeat (first | with_reducible exact Grew.refl _ | apply Grew.more | apply Grew.alloc | apply Grew.drew | apply Grew.drewN)))).size)); (have HK := Lib.hid hk); (have HL1 := Lib.hid hl1); (have HL2 := Lib.hid hl2); clear ho hk hl1 hl2))
  by_cases hlt : k < s.length
  case' pos => have hlt2 : (k : Int) < s.length := by omega
  case' neg => have hlt2 : ¬ (k : Int) < s.length := by omega
  all_goals
    clear hlt
    go_wp2_with (first
      | (go_at_call 88; refine (HT.out k HK.out _ (by repeat (first | with_reducible exact Grew.refl _ | apply Grew.more | apply Grew.alloc | apply Grew.drew | apply Grew.drewN))).mono ?_; rintro e wS ⟨rfl, hd, hl, hg⟩; (have HLD : Hid ((s.take k).length ≤ s.length) := Lib.hid (by rw [List.length_take]; omega)); (have HD := Lib.hid hd); (have HL := Lib.hid hl); (have HG := Lib.hid hg); clear hd hl hg)
      | (go_at_call 89; refine (HS.out _ (by repeat (first | with_reducible exact Grew.refl _ | apply Grew.more | apply Grew.alloc | apply Grew.drew | apply Grew.drewN))).mono ?_; rintro e wS ⟨rfl, hd, hl, hg⟩; (have HLD : Hid (s.length ≤ s.length) := Lib.hid (Nat.le_refl _)); (have HD := Lib.hid hd); (have HL := Lib.hid hl); (have HG := Lib.hid hg); clear hd hl hg))
    exact bodyPost_ret (v := .tuple #[.pointer (some ⟨wS.heap.size, 0, none⟩), .int .i64 0]) (by simp [results, Tryz.results33, go_sem]) rfl ⟨_, _, ls, _, rfl, HG.out.below.size, ⟨heap_new_at _ _ _ rfl, OwnAt.grew (HL.out.own (OwnAt.grew HO.out (by repeat (first | with_reducible exact Grew.refl _ | apply Grew.more | apply Grew.alloc | apply Grew.drew | apply Grew.drewN))) (by decide)) (by repeat (first | with_reducible exact Grew.refl _ | apply Grew.more | apply Grew.alloc | apply Grew.drew | apply Grew.drewN))⟩, ⟨HL1.out, HL2.out⟩, HD.out.grew (by repeat (first | with_reducible exact Grew.refl _ | apply Grew.more | apply Grew.alloc | apply Grew.drew | apply Grew.drewN)), HLD.out, (Leaves.grew (by repeat (first | with_reducible exact Grew.refl _ | apply Grew.more | apply Grew.alloc | apply Grew.drew | apply Grew.drewN))).trans (HL.out.trans (Leaves.grew (by repeat (first | with_reducible exact Grew.refl _ | apply Grew.more | apply Grew.alloc | apply Grew.drew | apply Grew.drewN)))), HG.out.trans (by repeat (first | with_reducible exact Grew.refl _ | apply Grew.more | apply Grew.alloc | apply Grew.drew | apply Grew.drewN))⟩
end Go.Proofs.YtipgfjihdglocaaGreat
/-! append of another slice of the call's own. -/
namespace Go
set_option linter.unusedSimpArgs false
set_option linter.unusedVariables false
open Go.RowKit

/-- .. as a step of a region that draws its order. -/
theorem step_ownS {α : Type} {e : TypeId} {k : Nat} {enc : α → List Value} {w0 : World} {v : Value} {l : List α} {P : Program} {ops : Array Oper} {o : Oper} {a : Act} {K : Act → World → Prop} {Q : Exit → Act → World → Prop} {E : Prop} {W : World}
    (hgd : o.guard = none) (s x : Operand) (t : TypeId) (z : Value) (bytes c0 b : Nat) (l2 : List α)
    (ho : o.op = .call { callee := .builtin .append, args := #[s, x], argTypes := #[t, t] })
    (ht : P.underlying t = some (.slice e)) (hinfo : (P.info? e).map (fun i => (i.zero, i.size, i.bytes)) = some (some z, k, bytes)) (hz : z.cells.size = k) (hk : 0 < k)
    (henc : ∀ x, (enc x).length = k) (hone : ∀ x, ∀ u ∈ enc x, u.oneCell' = true)
    (hs : a.eval s = v) (hown : OwnAt w0.heap.size e k enc W v l) (hg : Grew w0 W)
    (hx : a.eval x = .slice (some ⟨b, 0, none⟩) l2.length c0) (hb : ∀ j u, (l2.flatMap enc)[j]? = some u → W.cell? ⟨b, j, none⟩ = some u)
    (hlen : l.length + l2.length ≤ 1000000) (hby : bytes ≤ 1000) (hne2 : 0 < l2.length)
    (h : ∀ v' W', Appended w0 e k enc W v (l ++ l2) v' W' → K (a.put o.dst v') W') : if Region.wanted o (yielded ops a.tmps) = true then Oper.wp P o a W K Q else E := by
  have hw : Region.wanted o (yielded ops a.tmps) = true := by simp [Region.wanted, hgd]
  rw [if_pos hw]
  obtain ⟨v', W', hrun, hA⟩ := run_ownK (P := P) (c0 := c0) t o.type z bytes b l2 ht hinfo hz hk henc hone hown hg hb hlen hby
  unfold Oper.wp
  simp [execOp, ho, resolve, invoke, builtin, hs, hx, hrun, Result.andThen]
  exact h v' W' hA
theorem appended_self {α : Type} {w0 : World} {e : TypeId} {k : Nat} {enc : α → List Value} {W : World} {v : Value} {l : List α} (hg : Grew w0 W) (h : OwnAt w0.heap.size e k enc W v l) : Appended w0 e k enc W v l v W :=
  ⟨hg, h, Nat.le_refl _, fun _ _ _ => rfl, fun q hq => .inl hq⟩
/-- append of another slice of the call's own. -/
theorem wpList_ownS {α : Type} {e : TypeId} {k : Nat} {enc : α → List Value} {w0 : World} {base2 : Nat} {v v2 : Value} {l l2 : List α} {P : Program} {ops : Array Oper} {rest : List Oper} {o : Oper} {a : Act} {Q : Exit → Act → World → Prop} {W : World}
    (hgd : o.guard = none) (s x : Operand) (t : TypeId) (z : Value) (bytes : Nat)
    (ho : o.op = .call { callee := .builtin .append, args := #[s, x], argTypes := #[t, t] })
    (ht : P.underlying t = some (.slice e)) (hinfo : (P.info? e).map (fun i => (i.zero, i.size, i.bytes)) = some (some z, k, bytes)) (hz : z.cells.size = k) (hk : 0 < k)
    (henc : ∀ x, (enc x).length = k) (hone : ∀ x, ∀ u ∈ enc x, u.oneCell' = true)
    (hs : a.eval s = v) (hown : OwnAt w0.heap.size e k enc W v l) (hg : Grew w0 W)
    (hx : a.eval x = v2) (hown2 : OwnAt base2 e k enc W v2 l2)
    (hlen : l.length + l2.length ≤ 1000000) (hby : bytes ≤ 1000)
    (h : ∀ v' W', Appended w0 e k enc W v (l ++ l2) v' W' → wpList P ops Q rest (a.put o.dst v') W') : wpList P ops Q (o :: rest) a W := by
  rcases hown2.form with ⟨hv2, hl2⟩ | ⟨b, c0, hv2, _, _, _⟩
  · subst hv2 hl2
    obtain ⟨i, hi, _, _, _⟩ := info_parts hinfo
    refine wpList_append_own_none hgd s x t ho w0.heap.size e i k ht hi v l.length (l.flatMap enc) hs hown hx (h v W ?_)
    rw [List.append_nil]
    exact appended_self hg hown
  · have hr := hown2.rows henc
    have hb : ∀ j u, (l2.flatMap enc)[j]? = some u → W.cell? ⟨b, j, none⟩ = some u := by
      intro j u hj
      obtain ⟨q, y, r, h1, h2, rfl⟩ := flat_inv henc l2 j u hj
      obtain ⟨a2, cap2, hv3, _, hc2⟩ := hr
      obtain ⟨b3, off, hb3, hcell⟩ := hc2 (by intro e; subst e; simp at h1)
      subst hv2
      cases hv3
      cases hb3
      have := hcell q y h1 r u h2
      simpa using this
    refine wpList_plain hgd fun K hK' => ?_
    obtain ⟨v', W', hrun, hA⟩ := run_ownK (P := P) (c0 := c0) t o.type z bytes b l2 ht hinfo hz hk henc hone hown hg hb hlen hby
    unfold Oper.wp
    simp [execOp, ho, resolve, invoke, builtin, hs, hx, hv2, hrun, Result.andThen]
    exact hK' _ _ (h v' W' hA)
end Go
