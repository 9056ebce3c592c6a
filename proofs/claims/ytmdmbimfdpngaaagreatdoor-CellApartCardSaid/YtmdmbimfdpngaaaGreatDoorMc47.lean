import Derived.Test.YtmdmbimfdpngaaaGreatDoorMc46
/-! The law CellGroups, walked. -/
namespace Go.Proofs.YtmdmbimfdpngaaaGreatDoor
set_option linter.unusedSimpArgs false
set_option linter.unusedVariables false
open Go.RowKit Ga
set_option maxRecDepth 100000

theorem ints1 (W : World) (x : Int) (t : TypeId) (b : Nat) (hb : b = W.heap.size) : IntsAt (W.alloc (.cells #[.int .i64 x] t)) (.slice (some ⟨b, 0, none⟩) 1 1) [x] := by
  refine RowsAt.fresh (l := [x]) (c := [.int .i64 x]) rfl (by simp [maxLen]) (fun _ => rfl) hb ?_
  simp
set_option maxHeartbeats 8000000 in
theorem cellGroups_any (v u : Value) (l : List Tab.En) (gs : List Int) (w : World) (hv : EntsAt w v l) (hu : IntsAt w u gs) (h : Env4 w) :
    Calls Tryz.prog 6 #[v, u] w (Gives (.bool true) w) := by
  obtain ⟨a, cap, rfl, hm, -⟩ := EntsAt.open6 hv
  obtain ⟨a2, cap2, rfl, hm2, -⟩ := ints_open hu
  have HV := Lib.hid hv
  have HU := Lib.hid hu
  have HE := Lib.hid h
  clear hv hu h
  by_cases h100 : l.length ≤ 100
  case neg =>
    go_enter Tryz.func6, Tryz.ntmps6
    go_wp2_with (go_at_call 17; refine (awake07_any _ (HE.out.grew (by repeat (first | with_reducible exact Grew.refl _ | apply Grew.more | apply Grew.alloc | apply Grew.drew | apply Grew.drewN)))).mono ?_; rintro e w1 ⟨rfl, Ra, na, rfl⟩)
    go_ret
    refine ⟨rfl, ?_⟩
    repeat (first | with_reducible exact Grew.refl _ | apply Grew.more | apply Grew.alloc | apply Grew.drew | apply Grew.drewN)
  by_cases h20 : gs.length ≤ 20
  case neg =>
    go_enter Tryz.func6, Tryz.ntmps6
    go_wp2_with (go_at_call 17; refine (awake07_any _ (HE.out.grew (by repeat (first | with_reducible exact Grew.refl _ | apply Grew.more | apply Grew.alloc | apply Grew.drew | apply Grew.drewN)))).mono ?_; rintro e w1 ⟨rfl, Ra, na, rfl⟩)
    go_ret
    refine ⟨rfl, ?_⟩
    repeat (first | with_reducible exact Grew.refl _ | apply Grew.more | apply Grew.alloc | apply Grew.drew | apply Grew.drewN)
  cases ho : newOk l
  · have HO := Lib.hid ho
    clear ho
    go_enter Tryz.func6, Tryz.ntmps6
    go_wp2_with (first
      | (go_at_call 17; refine (awake07_any _ (HE.out.grew (by repeat (first | with_reducible exact Grew.refl _ | apply Grew.more | apply Grew.alloc | apply Grew.drew | apply Grew.drewN)))).mono ?_; rintro e w1 ⟨rfl, Ra, na, rfl⟩)
      | (go_at_call 18; refine (tabNew_any _ l _ (HV.out.grew (by repeat (first | with_reducible exact Grew.refl _ | apply Grew.more | apply Grew.alloc | apply Grew.drew | apply Grew.drewN))) (by omega)).mono ?_; rintro e w1 hN; obtain ⟨rfl, R1, n1, rfl⟩ := hN.bad HO.out; clear hN))
    go_ret
    refine ⟨rfl, ?_⟩
    repeat (first | with_reducible exact Grew.refl _ | apply Grew.more | apply Grew.alloc | apply Grew.drew | apply Grew.drewN)
  have hok := OkT.new ho
  have hl512 := len512 hok.there hok.un
  obtain ⟨T, hT0⟩ : ∃ T, Tab.newT l = T := ⟨_, rfl⟩
  rw [hT0] at hok hl512
  have HT0 := Lib.hid hT0
  have HOK := Lib.hid hok
  have HO := Lib.hid ho
  clear ho hT0 hok
  go_enter Tryz.func6, Tryz.ntmps6
  go_wp2_with (first
    | (go_at_call 17; refine (awake07_any _ (HE.out.grew (by repeat (first | with_reducible exact Grew.refl _ | apply Grew.more | apply Grew.alloc | apply Grew.drew | apply Grew.drewN)))).mono ?_; rintro e w1 ⟨rfl, Ra, na, rfl⟩)
    | (go_at_call 18; refine (tabNew_any _ l _ (HV.out.grew (by repeat (first | with_reducible exact Grew.refl _ | apply Grew.more | apply Grew.alloc | apply Grew.drew | apply Grew.drewN))) (by omega)).mono ?_; rintro e w1 hN; obtain ⟨t, b, rfl, hT, ht, hb, R1, n1, rfl⟩ := hN.ok HO.out; rw [HT0.out] at hT; (have HT := Lib.hid hT); (have HTB := Lib.hid (show w.heap.size ≤ t ∧ w.heap.size ≤ b from ⟨by simp [World.more_size] at ht; omega, by simp [World.more_size] at hb; omega⟩)); clear hT hN ht hb))
  have hu0 := upto_zero HOK.out.there
  go_loopg [7, 8] 8 (fun gg s7 s8 wr => ∃ n : Nat, n ≤ 8 ∧ 8 - n ≤ gg ∧ s8 = .int .i64 n ∧ s7 = .int .i64 (upto T ((n : Int) * 8)) ∧ Hid (Grew ((w.more Ra na).more R1 n1) wr))
  case atStart => exact ⟨0, by omega, by omega, rfl, by rw [show (((0 : Nat) : Int) * 8) = 0 from rfl, hu0]; rfl, Lib.hid (Grew.refl _)⟩
  case round =>
    obtain ⟨n, hn, hgg, rfl, rfl, HG⟩ := hrel
    by_cases hlt : n < 8
    · have hbn : (n : Int) < 8 := by omega
      go_wp2
      go_loopg [7, 9] 8 (fun gg2 s7' s9 wr2 => ∃ g : Nat, g ≤ 8 ∧ 8 - g ≤ gg2 ∧ s9 = .int .i64 g ∧ s7' = .int .i64 (upto T ((n : Int) * 8 + (g : Int))) ∧ Hid (Grew ((w.more Ra na).more R1 n1) wr2))
      case atStart => exact ⟨0, by omega, by omega, rfl, by rw [show ((n : Int) * 8 + ((0 : Nat) : Int)) = (n : Int) * 8 by omega], HG⟩
      case round =>
        obtain ⟨g, hg, hgg2, rfl, rfl, HG2⟩ := hrel
        by_cases hlt2 : g < 8
        · have hbg : (g : Int) < 8 := by omega
          have hstep := upto_step HOK.out.there n g hlt2
          have hle1 : upto T ((n : Int) * 8 + (g : Int)) ≤ T.length := List.length_filter_le _ _
          have hle2 := List.length_filter_le (ofP n [(g : Int)]) T
          have HSTEP : Hid (upto T ((n : Int) * 8 + ((g + 1 : Nat) : Int)) = upto T ((n : Int) * 8 + (g : Int)) + (T.filter (ofP n [(g : Int)])).length) := Lib.hid (by rw [← hstep]; congr 1)
          clear hstep
          go_wp2_with (go_at_call 24; go_loud (refine (tabOf_any _ t b l.length T (HT.out.grew (HG2.out.trans (by repeat (first | with_reducible exact Grew.refl _ | apply Grew.more | apply Grew.alloc | apply Grew.drew | apply Grew.drewN)))) n [(g : Int)] _ (ints1 _ _ _ _ (by simp [go_sem]))).mono ?_); rintro e w5 ⟨v5, s5, rfl, hr5, hp5, hs5, ⟨R5, N5, hw5⟩⟩; subst hw5; obtain ⟨a5, c5, rfl⟩ := (OwnAt.rows hr5 encEn_len).len; (have hl5 := hp5.length_eq); rw [hl5]; clear hr5 hp5 hs5 hl5)
          go_roundg (8 - (g + 1))
          case measure => omega
          case rel => exact ⟨g + 1, by omega, by omega, by go_num, by rw [HSTEP.out]; go_num, Lib.hid (HG2.out.trans (by repeat (first | with_reducible exact Grew.refl _ | apply Grew.more | apply Grew.alloc | apply Grew.drew | apply Grew.drewN)))⟩
        · obtain rfl : g = 8 := by omega
          go_wp2
          go_roundg (8 - (n + 1))
          case measure => omega
          case rel => exact ⟨n + 1, by omega, by omega, by go_num, by rw [show (((n + 1 : Nat) : Int) * 8) = (n : Int) * 8 + ((8 : Nat) : Int) by omega], HG2⟩
    · obtain rfl : n = 8 := by omega
      have hua := upto_all HOK.out.there
      rw [show (((8 : Nat) : Int) * 8) = 64 from rfl, hua]
      clear hua
      have HTR := Lib.hid (HT.out.grew HG.out)
      have HUR := Lib.hid ((HU.out.grew (by repeat (first | with_reducible exact Grew.refl _ | apply Grew.more | apply Grew.alloc | apply Grew.drew | apply Grew.drewN) : Grew w ((w.more Ra na).more R1 n1))).grew HG.out)
      have HGR : Hid (Grew w wr) := Lib.hid ((by repeat (first | with_reducible exact Grew.refl _ | apply Grew.more | apply Grew.alloc | apply Grew.drew | apply Grew.drewN) : Grew w ((w.more Ra na).more R1 n1)).trans HG.out)
      clear HG
      go_wp2_with fail
      refine (tabAll_any _ t b l.length T (HTR.out.grew (by repeat (first | with_reducible exact Grew.refl _ | apply Grew.more | apply Grew.alloc | apply Grew.drew | apply Grew.drewN)))).mono ?_
      rintro e w1 ⟨v1, s1, rfl, hr1, hp1, hs1, ⟨R1, N1, hw1⟩⟩
      subst hw1
      obtain ⟨a1, c1, rfl⟩ := (OwnAt.rows hr1 encEn_len).len
      have HR1 := Lib.hid (OwnAt.rows hr1 encEn_len)
      have HP1 := Lib.hid hp1
      have HS1 := Lib.hid hs1
      clear hr1 hp1 hs1
      have hs1 : newOk s1 = true := by
        unfold newOk
        rw [List.all_eq_true]
        exact fun x hx => HOK.out.ok x (HP1.out.mem_iff.1 hx)
      have hn1 : Tab.newT s1 = s1.reverse := newT_all HOK.out.un HOK.out.nz HP1.out HS1.out
      have hl1 : s1.length = T.length := HP1.out.length_eq
      have HS1O := Lib.hid hs1
      have HN1 := Lib.hid hn1
      have HL1 := Lib.hid hl1
      clear hs1 hn1 hl1
      go_wp2_with fail
      refine (tabNew_any _ s1 _ (HR1.out.grew (by repeat (first | with_reducible exact Grew.refl _ | apply Grew.more | apply Grew.alloc | apply Grew.drew | apply Grew.drewN))) (by have := HL1.out; omega)).mono ?_
      rintro e w2 hN
      obtain ⟨t2, b2, rfl, hT2, ht2, hb2, R2, N2, rfl⟩ := hN.ok HS1O.out
      rw [HN1.out] at hT2
      have HT2 := Lib.hid hT2
      have HB2 := Lib.hid hb2
      have HTT2 := Lib.hid ht2
      clear hT2 hN ht2 hb2
      go_wp2_with fail
      refine (tabAll_any _ t b l.length T (HTR.out.grew (by repeat (first | with_reducible exact Grew.refl _ | apply Grew.more | apply Grew.alloc | apply Grew.drew | apply Grew.drewN)))).mono ?_
      rintro e w3 ⟨v3, s3, rfl, hr3, hp3, hs3, ⟨R3, N3, hw3⟩⟩
      subst hw3
      obtain ⟨a3, c3, rfl⟩ := (OwnAt.rows hr3 encEn_len).len
      have HR3 := Lib.hid (OwnAt.rows hr3 encEn_len)
      have HP3 := Lib.hid hp3
      have HS3 := Lib.hid hs3
      clear hr3 hp3 hs3
      have hl3 : s3.length = T.length := HP3.out.length_eq
      have HL3 := Lib.hid hl3
      rw [hl3]
      clear hl3
      go_wp2_with fail
      refine (tabAll_any _ t2 b2 s1.length s1.reverse (HT2.out.grew (by repeat (first | with_reducible exact Grew.refl _ | apply Grew.more | apply Grew.alloc | apply Grew.drew | apply Grew.drewN)))).mono ?_
      rintro e w4 ⟨v4, s4, rfl, hr4, hp4, hs4, ⟨R4, N4, hw4⟩⟩
      subst hw4
      obtain ⟨a4, c4, rfl⟩ := (OwnAt.rows hr4 encEn_len).len
      have HR4 := Lib.hid (OwnAt.rows hr4 encEn_len)
      have HP4 := Lib.hid hp4
      have HS4 := Lib.hid hs4
      clear hr4 hp4 hs4
      go_wp2_with fail
      refine (tabAll_any _ t b l.length T (HTR.out.grew (by repeat (first | with_reducible exact Grew.refl _ | apply Grew.more | apply Grew.alloc | apply Grew.drew | apply Grew.drewN)))).mono ?_
      rintro e w5 ⟨v5, s5, rfl, hr5, hp5, hs5, ⟨R5, N5, hw5⟩⟩
      subst hw5
      obtain ⟨a5, c5, rfl⟩ := (OwnAt.rows hr5 encEn_len).len
      have HR5 := Lib.hid (OwnAt.rows hr5 encEn_len)
      have HP5 := Lib.hid hp5
      have HS5 := Lib.hid hs5
      clear hr5 hp5 hs5
      have h45 : s4 = s5 := so_unique HOK.out.un (HP4.out.trans (List.reverse_perm s1) |>.trans HP1.out) HP5.out HS4.out HS5.out
      have H45 := Lib.hid h45
      clear h45
      go_wp2_with fail
      refine (refSame07_yes _ _ s4 s5 _ (HR4.out.grew (by repeat (first | with_reducible exact Grew.refl _ | apply Grew.more | apply Grew.alloc | apply Grew.drew | apply Grew.drewN))) (HR5.out.grew (by repeat (first | with_reducible exact Grew.refl _ | apply Grew.more | apply Grew.alloc | apply Grew.drew | apply Grew.drewN))) H45.out).mono ?_
      rintro e w6 ⟨rfl, R6, N6, rfl⟩
      go_wp2_with fail
      refine (tabAll_any _ t b l.length T (HTR.out.grew (by repeat (first | with_reducible exact Grew.refl _ | apply Grew.more | apply Grew.alloc | apply Grew.drew | apply Grew.drewN)))).mono ?_
      rintro e w7 ⟨v7, s7, rfl, hr7, hp7, hs7, ⟨R7, N7, hw7⟩⟩
      subst hw7
      obtain ⟨a7, c7, rfl⟩ := (OwnAt.rows hr7 encEn_len).len
      have HR7 := Lib.hid (OwnAt.rows hr7 encEn_len)
      have HP7 := Lib.hid hp7
      have HS7 := Lib.hid hs7
      clear hr7 hp7 hs7
      have hl7 : s7.length = T.length := HP7.out.length_eq
      rw [hl7]
      clear hl7
      go_wp2_with fail
      refine (tabOf_any _ t b l.length T (HTR.out.grew (by repeat (first | with_reducible exact Grew.refl _ | apply Grew.more | apply Grew.alloc | apply Grew.drew | apply Grew.drewN))) 1 gs _ (HUR.out.grew (by repeat (first | with_reducible exact Grew.refl _ | apply Grew.more | apply Grew.alloc | apply Grew.drew | apply Grew.drewN)))).mono ?_
      rintro e w8 ⟨v8, s8, rfl, hr8, hp8, hs8, ⟨R8, N8, hw8⟩⟩
      subst hw8
      obtain ⟨a8, c8, rfl⟩ := (OwnAt.rows hr8 encEn_len).len
      have HR8 := Lib.hid (OwnAt.rows hr8 encEn_len)
      have HP8 := Lib.hid hp8
      have HS8 := Lib.hid hs8
      clear hr8 hp8 hs8
      have hl8 : s8.length = (T.filter (ofP 1 gs)).length := HP8.out.length_eq
      rw [hl8]
      clear hl8
      go_wp2_with fail
      refine (tabDrop_any w _ t b l.length T (HTR.out.grew (by repeat (first | with_reducible exact Grew.refl _ | apply Grew.more | apply Grew.alloc | apply Grew.drew | apply Grew.drewN))) HOK.out (HGR.out.trans (by repeat (first | with_reducible exact Grew.refl _ | apply Grew.more | apply Grew.alloc | apply Grew.drew | apply Grew.drewN))) HTB.out.2 1 gs _ (HUR.out.grew (by repeat (first | with_reducible exact Grew.refl _ | apply Grew.more | apply Grew.alloc | apply Grew.drew | apply Grew.drewN)))).mono ?_
      rintro e W9 ⟨rfl, hT9, hg9, hk9⟩
      have HT9 := Lib.hid hT9
      have HG9 := Lib.hid hg9
      have hbt := HTR.out.2.lt
      have htt := HTT2.out
      have hbb := HB2.out
      simp only [World.more_size] at htt hbb
      have HU9 : Hid (IntsAt W9 (.slice a2 gs.length cap2) gs) := Lib.hid (rows_keepB (HUR.out.grew (by repeat (first | with_reducible exact Grew.refl _ | apply Grew.more | apply Grew.alloc | apply Grew.drew | apply Grew.drewN))) hk9 fun c t f => TabAt.nocells (HTR.out.2.grew (by repeat (first | with_reducible exact Grew.refl _ | apply Grew.more | apply Grew.alloc | apply Grew.drew | apply Grew.drewN))) c t f)
      have HT29 : Hid (TableAt W9 t2 b2 s1.length s1.reverse) := Lib.hid (TableAt.keep (HT2.out.grew (by repeat (first | with_reducible exact Grew.refl _ | apply Grew.more | apply Grew.alloc | apply Grew.drew | apply Grew.drewN))) hk9 (by omega) (by omega))
      have hsplit := len_split (ofP 1 gs) T
      have HOK9 := Lib.hid (HOK.out.filter fun x => !ofP 1 gs x)
      clear hT9 hg9 hk9 hbt htt hbb
      go_wp2_with fail
      refine (tabAll_any _ t b l.length (T.filter fun x => !ofP 1 gs x) (HT9.out.grew (by repeat (first | with_reducible exact Grew.refl _ | apply Grew.more | apply Grew.alloc | apply Grew.drew | apply Grew.drewN)))).mono ?_
      rintro e w10 ⟨v10, s10, rfl, hr10, hp10, hs10, ⟨R10, N10, hw10⟩⟩
      subst hw10
      obtain ⟨a10, c10, rfl⟩ := (OwnAt.rows hr10 encEn_len).len
      have HR10 := Lib.hid (OwnAt.rows hr10 encEn_len)
      have HP10 := Lib.hid hp10
      have HS10 := Lib.hid hs10
      clear hr10 hp10 hs10
      have hl10 : s10.length = (T.filter fun x => !ofP 1 gs x).length := HP10.out.length_eq
      rw [hl10]
      have hwr : wrap64 ((T.length : Int) - ((T.filter (ofP 1 gs)).length : Int)) = (T.length : Int) - ((T.filter (ofP 1 gs)).length : Int) := IntWalk.wrap64_in _ (by omega)
      have hd : ((((T.filter fun x => !ofP 1 gs x).length : Nat) : Int) == (T.length : Int) - ((T.filter (ofP 1 gs)).length : Int)) = true := by rw [beq_iff_eq]; omega
      clear hl10 hsplit
      go_wp2_with fail
      refine (tabOf_any _ t b l.length (T.filter fun x => !ofP 1 gs x) (HT9.out.grew (by repeat (first | with_reducible exact Grew.refl _ | apply Grew.more | apply Grew.alloc | apply Grew.drew | apply Grew.drewN))) 1 gs _ (HU9.out.grew (by repeat (first | with_reducible exact Grew.refl _ | apply Grew.more | apply Grew.alloc | apply Grew.drew | apply Grew.drewN)))).mono ?_
      rintro e w11 ⟨v11, s11, rfl, hr11, hp11, hs11, ⟨R11, N11, hw11⟩⟩
      subst hw11
      obtain ⟨a11, c11, rfl⟩ := (OwnAt.rows hr11 encEn_len).len
      have HR11 := Lib.hid (OwnAt.rows hr11 encEn_len)
      have HP11 := Lib.hid hp11
      have HS11 := Lib.hid hs11
      clear hr11 hp11 hs11
      have hl11 : s11.length = 0 := by rw [HP11.out.length_eq, ofP_drop_self]; rfl
      rw [hl11]
      clear hl11
      go_wp2_with fail
      refine (tabOf_any _ t2 b2 s1.length s1.reverse (HT29.out.grew (by repeat (first | with_reducible exact Grew.refl _ | apply Grew.more | apply Grew.alloc | apply Grew.drew | apply Grew.drewN))) 2 gs _ (HU9.out.grew (by repeat (first | with_reducible exact Grew.refl _ | apply Grew.more | apply Grew.alloc | apply Grew.drew | apply Grew.drewN)))).mono ?_
      rintro e w12 ⟨v12, s12, rfl, hr12, hp12, hs12, ⟨R12, N12, hw12⟩⟩
      subst hw12
      obtain ⟨a12, c12, rfl⟩ := (OwnAt.rows hr12 encEn_len).len
      have HR12 := Lib.hid (OwnAt.rows hr12 encEn_len)
      have HP12 := Lib.hid hp12
      have HS12 := Lib.hid hs12
      clear hr12 hp12 hs12
      go_wp2_with fail
      refine (tabOf_any _ t b l.length (T.filter fun x => !ofP 1 gs x) (HT9.out.grew (by repeat (first | with_reducible exact Grew.refl _ | apply Grew.more | apply Grew.alloc | apply Grew.drew | apply Grew.drewN))) 2 gs _ (HU9.out.grew (by repeat (first | with_reducible exact Grew.refl _ | apply Grew.more | apply Grew.alloc | apply Grew.drew | apply Grew.drewN)))).mono ?_
      rintro e w13 ⟨v13, s13, rfl, hr13, hp13, hs13, ⟨R13, N13, hw13⟩⟩
      subst hw13
      obtain ⟨a13, c13, rfl⟩ := (OwnAt.rows hr13 encEn_len).len
      have HR13 := Lib.hid (OwnAt.rows hr13 encEn_len)
      have HP13 := Lib.hid hp13
      have HS13 := Lib.hid hs13
      clear hr13 hp13 hs13
      have h1213 : s12 = s13 := by
        have hp13 := HP13.out
        rw [ofP_drop_other (by decide)] at hp13
        exact so_unique (HOK.out.filter (ofP 2 gs)).un (HP12.out.trans (((List.reverse_perm s1).trans HP1.out).filter _)) hp13 HS12.out HS13.out
      have H1213 := Lib.hid h1213
      clear h1213
      go_wp2_with fail
      refine (refSame07_yes _ _ s12 s13 _ (HR12.out.grew (by repeat (first | with_reducible exact Grew.refl _ | apply Grew.more | apply Grew.alloc | apply Grew.drew | apply Grew.drewN))) (HR13.out.grew (by repeat (first | with_reducible exact Grew.refl _ | apply Grew.more | apply Grew.alloc | apply Grew.drew | apply Grew.drewN))) H1213.out).mono ?_
      rintro e w14 ⟨rfl, R14, N14, rfl⟩
      go_wp2
      go_ret
      exact ⟨rfl, HG9.out.trans (by repeat (first | with_reducible exact Grew.refl _ | apply Grew.more | apply Grew.alloc | apply Grew.drew | apply Grew.drewN))⟩
end Go.Proofs.YtmdmbimfdpngaaaGreatDoor
