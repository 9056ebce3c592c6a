import Derived.Test.YtiocdmfmghanmaaDoorParse
import Derived.Test.YtiocdmfmghanmaaDoorRefText
import Derived.Test.YtiocdmfmghanmaaDoorAwake03
/-! The law GaussTexts, walked. -/
namespace Go.Proofs.YtiocdmfmghanmaaDoor
set_option linter.unusedSimpArgs false
set_option linter.unusedVariables false
open Go.RowKit Ga
set_option maxRecDepth 100000

theorem textL_len (p q : Int) : (Tx.textL (into p) (into q)).length ≤ 1000000 := by
  have rX := into_range p
  have rY := into_range q
  have lX := Tx.itoa_len6 (into p) (by omega)
  have lY := Tx.itoa_len6 (into q) (by omega)
  unfold Tx.textL
  simp only [List.length_append, List.length_cons, List.length_nil]
  split <;> simp only [List.length_cons, List.length_nil] <;> omega
theorem okVal_into (p q : Int) : okVal (into p, into q) := by
  have rX := into_range p
  have rY := into_range q
  refine ⟨⟨?_, ?_⟩, ⟨?_, ?_⟩⟩ <;> simp only <;> omega

set_option maxHeartbeats 4000000 in
theorem gaussTexts_any (x y : Int) (l : List UInt8) (w : World) (hT : Lib.Utf8Tabs 6 7 w) (hE : Errs w) (hp : Pow w) :
    Calls Tryd.prog 4 #[vv (x, y), .string ⟨l.toArray⟩] w (Gives (.bool true) w) := by
  have HT := Lib.hid hT
  have HE := Lib.hid hE
  have HP := Lib.hid hp
  clear hT hE hp
  have hsz : (⟨l.toArray⟩ : ByteArray).size = l.length := rfl
  by_cases hlen : l.length ≤ 100
  · have hl : l.length ≤ 1000000 := by omega
    have ht := textL_len x y
    have hok := okVal_into x y
    by_cases hz : ∃ z : Val, l = Tx.textL (into z.1) (into z.2)
    · obtain ⟨⟨p, q⟩, rfl⟩ := hz
      have hok2 := okVal_into p q
      have i1 := into_into p
      have i2 := into_into q
      simp only at hl hlen hsz
      go_enter Tryd.func4, Tryd.ntmps4
      go_wp2_with (first
        | (go_at_call 9; refine (awake03_any _).mono ?_; rintro e w1 ⟨rfl, R2, n2, rfl⟩)
        | (go_at_call 14; refine (refOf_any _ _ _).mono ?_; rintro e w1 ⟨rfl, R3, n3, rfl⟩)
        | (go_at_call 12; refine (text_xyL _ _ _ (HP.out.grew (by repeat (first | with_reducible exact Grew.refl _ | apply Grew.more | apply Grew.alloc | apply Grew.drew | apply Grew.drewN)))).mono ?_; rintro e w1 ⟨rfl, R4, n4, rfl⟩)
        | (go_at_call 16; refine (refText_any _ _ (by assumption) _).mono ?_; rintro e w1 ⟨rfl, R4, n4, rfl⟩)
        | (go_at_call 15; refine (parse_any _ (by assumption) _ (utf8_grew HT.out (by repeat (first | with_reducible exact Grew.refl _ | apply Grew.more | apply Grew.alloc | apply Grew.drew | apply Grew.drewN))) (HE.out.grew (by repeat (first | with_reducible exact Grew.refl _ | apply Grew.more | apply Grew.alloc | apply Grew.drew | apply Grew.drewN))) (HP.out.grew (by repeat (first | with_reducible exact Grew.refl _ | apply Grew.more | apply Grew.alloc | apply Grew.drew | apply Grew.drewN)))).mono ?_; rintro e w1 ⟨rfl, R5, n5, rfl⟩; rw [parseOut_text])
        )
      refine wp_region_seq 14 Tryd.mixed (by kernel_rfl) (by kernel_rfl) ?_
      iterate 14
        apply Seq.val
        focus
          rintro w1 u ⟨R1, n1, rfl⟩ hF
          simp [moreFacts, Fact.more, Oper.deps, Region.binds, List.filter_cons, World.more_drew] at hF
          simp [putFacts, Oper.deps, Region.binds, List.filter_cons, Region.dstOf, Fact.at, Act.put, World.more_drew]
          go_wp2_with (first
            | (go_at_call 14; refine (refOf_any _ _ _).mono ?_; rintro e w1 ⟨rfl, R3, n3, rfl⟩)
            | (go_at_call 16; refine (refText_any _ _ (by assumption) _).mono ?_; rintro e w1 ⟨rfl, R3, n3, rfl⟩)
            )
          exact ⟨by repeat (first | with_reducible exact Grew.refl _ | apply Grew.more | apply Grew.alloc | apply Grew.drew | apply Grew.drewN), rfl, _, _, rfl, rfl, rfl⟩
      rintro u w1 ⟨R1, n1, rfl⟩ hF
      clear hF
      simp [putFacts, Region.dstOf, Fact.at, Act.put, List.range_succ, World.more_drew]
      go_wp2
      go_ret
      refine ⟨rfl, ?_⟩
      repeat (first | with_reducible exact Grew.refl _ | apply Grew.more | apply Grew.alloc | apply Grew.drew | apply Grew.drewN)
    · have hno : parseOut l = ((0, 0), 4) := parseOut_none (fun z h => hz ⟨z, h⟩)
      have HNO := Lib.hid hno
      clear hno hz
      go_enter Tryd.func4, Tryd.ntmps4
      go_wp2_with (first
        | (go_at_call 9; refine (awake03_any _).mono ?_; rintro e w1 ⟨rfl, R2, n2, rfl⟩)
        | (go_at_call 14; refine (refOf_any _ _ _).mono ?_; rintro e w1 ⟨rfl, R3, n3, rfl⟩)
        | (go_at_call 12; refine (text_xyL _ _ _ (HP.out.grew (by repeat (first | with_reducible exact Grew.refl _ | apply Grew.more | apply Grew.alloc | apply Grew.drew | apply Grew.drewN)))).mono ?_; rintro e w1 ⟨rfl, R4, n4, rfl⟩)
        | (go_at_call 16; refine (refText_any _ _ (by assumption) _).mono ?_; rintro e w1 ⟨rfl, R4, n4, rfl⟩)
        | (go_at_call 15; refine (parse_any _ (by assumption) _ (utf8_grew HT.out (by repeat (first | with_reducible exact Grew.refl _ | apply Grew.more | apply Grew.alloc | apply Grew.drew | apply Grew.drewN))) (HE.out.grew (by repeat (first | with_reducible exact Grew.refl _ | apply Grew.more | apply Grew.alloc | apply Grew.drew | apply Grew.drewN))) (HP.out.grew (by repeat (first | with_reducible exact Grew.refl _ | apply Grew.more | apply Grew.alloc | apply Grew.drew | apply Grew.drewN)))).mono ?_; rintro e w1 ⟨rfl, R5, n5, rfl⟩; first | rw [parseOut_text] | rw [HNO.out])
        )
      go_ret
      refine ⟨rfl, ?_⟩
      repeat (first | with_reducible exact Grew.refl _ | apply Grew.more | apply Grew.alloc | apply Grew.drew | apply Grew.drewN)
  · go_enter Tryd.func4, Tryd.ntmps4
    go_wp2_with (go_at_call 9; refine (awake03_any _).mono ?_; rintro e w1 ⟨rfl, R2, n2, rfl⟩)
    go_ret
    refine ⟨rfl, ?_⟩
    repeat (first | with_reducible exact Grew.refl _ | apply Grew.more | apply Grew.alloc | apply Grew.drew | apply Grew.drewN)
end Go.Proofs.YtiocdmfmghanmaaDoor
