import Derived.Test.YthlmmfljeblflaaGreatDoorMc33
import Derived.Test.YthlmmfljeblflaaGreatDoorMc28
import Derived.Test.YthlmmfljeblflaaGreatDoorMc10
/-! audit.cells. -/
namespace Go.Proofs.YthlmmfljeblflaaGreatDoor
set_option linter.unusedSimpArgs false
set_option linter.unusedVariables false
open Go.RowKit Ga
set_option maxRecDepth 100000

/-- two values' difference, as the program looks -/
def neqC (a b : Val × Val) : Bool := !(decide (a.1.1 = b.1.1 ∧ a.1.2 = b.1.2 ∧ a.2.1 = b.2.1 ∧ a.2.2 = b.2.2))
theorem arr2_eqA (d : Nat) (a b c e a' b' c' e' : Int) (w : World) : (Op.equalIn (d + 4) 48 (.agg #[.int .i64 a, .int .i64 b, .int .i64 c, .int .i64 e]) (.agg #[.int .i64 a', .int .i64 b', .int .i64 c', .int .i64 e'])).run Tryz.prog w = .ok (decide (a = a' ∧ b = b' ∧ c = c' ∧ e = e')) w := by
  obtain ⟨i, hi, _⟩ := info_parts infoCV
  have h0 := run_equalIn_array (P := Tryz.prog) (w := w) (d + 3) #[.int .i64 a, .int .i64 b, .int .i64 c, .int .i64 e] #[.int .i64 a', .int .i64 b', .int .i64 c', .int .i64 e'] Tryz.underlying48 hi
  rw [h0, show List.range 2 = [0, 1] from rfl, cellsCV]
  simp [Op.eqItems, go_sem, Tryz.underlying47, Tryz.underlying3]
  by_cases h1 : a = a' <;> by_cases h2 : b = b' <;> by_cases h3 : c = c' <;> by_cases h4 : e = e' <;> simp [h1, h2, h3, h4]
theorem run_neq_cc (a b c d a' b' c' d' : Int) (r : Bool) (h : neqC ((a, b), (c, d)) ((a', b'), (c', d')) = r) (w : World) : (binOp .neq 48 (.agg #[.int .i64 a, .int .i64 b, .int .i64 c, .int .i64 d]) (.agg #[.int .i64 a', .int .i64 b', .int .i64 c', .int .i64 d'])).run Tryz.prog w = .ok (.bool r) w := by
  subst h
  unfold neqC
  simp [go_sem, arr2_eqA]
/-- "cells n:k" -/
def celT (n k : Nat) : List UInt8 := [99, 101, 108, 108, 115, 32] ++ (Lib.itoa n ++ ([58] ++ Lib.itoa k))
def difC (m1 m2 : List Tab.En) (i : Nat) : List (List UInt8) := if neqC (getT m1 ((i / 64 : Nat) : Int) ((i % 64 : Nat) : Int)) (getT m2 ((i / 64 : Nat) : Int) ((i % 64 : Nat) : Int)) = true then [celT (i / 64) (i % 64)] else []
def difT (m1 m2 : List Tab.En) (N : Nat) : List (List UInt8) := (List.range N).flatMap (difC m1 m2)
theorem difT_succ (m1 m2 : List Tab.En) (N : Nat) : difT m1 m2 (N + 1) = difT m1 m2 N ++ difC m1 m2 N := by
  unfold difT
  rw [List.range_succ, List.flatMap_append, List.flatMap_cons, List.flatMap_nil, List.append_nil]
theorem difT_len (m1 m2 : List Tab.En) : ∀ N, (difT m1 m2 N).length ≤ N
  | 0 => Nat.le_refl _
  | N + 1 => by
    rw [difT_succ, List.length_append]
    have := difT_len m1 m2 N
    have h : (difC m1 m2 N).length ≤ 1 := by unfold difC; split <;> simp
    omega
/-- how cells are unlike -/
def cellsA (l1 l2 : List Tab.En) : List (List UInt8) := if newOk l1 = true ∧ newOk l2 = true then difT (Tab.newT l1) (Tab.newT l2) 512 else []
def StrsPost (w : World) (l : List (List UInt8)) (e : Ending) (w' : World) : Prop := ∃ v, e = .returned v ∧ OwnAt w.heap.size 9 1 encS w' v l ∧ Grew w w'
theorem celT_cat (n k : Nat) : ((⟨#[99, 101, 108, 108, 115, 32]⟩ ++ ⟨(Lib.itoa n).toArray⟩ : ByteArray) ++ ⟨#[58]⟩) ++ ⟨(Lib.itoa k).toArray⟩ = ⟨(celT n k).toArray⟩ := by
  unfold celT
  have h : ∀ a b : List UInt8, (⟨a.toArray⟩ ++ ⟨b.toArray⟩ : ByteArray) = ⟨(a ++ b).toArray⟩ := str_cat
  rw [show (⟨#[99, 101, 108, 108, 115, 32]⟩ : ByteArray) = ⟨([99, 101, 108, 108, 115, 32] : List UInt8).toArray⟩ from rfl, show (⟨#[58]⟩ : ByteArray) = ⟨([58] : List UInt8).toArray⟩ from rfl, h, h, h]
  simp
set_option maxHeartbeats 16000000 in
theorem aCells_any (v1 v2 : Value) (l1 l2 : List Tab.En) (w : World) (h1 : EntsAt w v1 l1) (h2 : EntsAt w v2 l2) (n1 : l1.length ≤ 100) (n2 : l2.length ≤ 100) (hP : Pow w) : Calls Tryz.prog 24 #[v1, v2] w (StrsPost w (cellsA l1 l2)) := by
  have HN1 := Lib.hid fun W (q : Grew w W) => tabNew_any v1 l1 W (h1.grew q) (by omega)
  have HN2 := Lib.hid fun W (q : Grew w W) => tabNew_any v2 l2 W (h2.grew q) (by omega)
  obtain ⟨a1, c1, rfl⟩ := h1.len
  obtain ⟨a2, c2, rfl⟩ := h2.len
  have HI := Lib.hid fun (n : Nat) (hn : n ≤ 100) W (q : Grew w W) => itoa_any n (by omega) W (hP.grew q)
  clear h1 h2 n1 n2 hP
  go_enter Tryz.func24, Tryz.ntmps24
  go_wp2_with fail
  refine (HN1.out _ (by repeat (first | with_reducible exact Grew.refl _ | apply Grew.more | apply Grew.alloc | apply Grew.drew | apply Grew.drewN))).mono ?_
  rintro e w1 (⟨ok1, t1, b1, rfl, hT1, -, -, R1, m1, rfl⟩ | ⟨ok1, rfl, R1, m1, rfl⟩)
  · have HT1 := Lib.hid hT1
    clear hT1
    go_wp2_with fail
    refine (HN2.out _ (by repeat (first | with_reducible exact Grew.refl _ | apply Grew.more | apply Grew.alloc | apply Grew.drew | apply Grew.drewN))).mono ?_
    rintro e w1 (⟨ok2, t2, b2, rfl, hT2, -, -, R2, m2, rfl⟩ | ⟨ok2, rfl, R2, m2, rfl⟩)
    · have HT2 := Lib.hid hT2
      have HCA : Hid (cellsA l1 l2 = difT (Tab.newT l1) (Tab.newT l2) 512) := Lib.hid (if_pos ⟨ok1, ok2⟩)
      have HT1b := Lib.hid (HT1.out.grew (by repeat (first | with_reducible exact Grew.refl _ | apply Grew.more | apply Grew.alloc | apply Grew.drew | apply Grew.drewN) : Grew _ ((w.more R1 m1).more R2 m2)))
      have hgw : Hid (Grew w ((w.more R1 m1).more R2 m2)) := Lib.hid (by repeat (first | with_reducible exact Grew.refl _ | apply Grew.more | apply Grew.alloc | apply Grew.drew | apply Grew.drewN))
      clear hT2 HT1
      generalize (w.more R1 m1).more R2 m2 = wx at *
      generalize Tab.newT l1 = M1 at *
      generalize Tab.newT l2 = M2 at *
      go_wp2
      go_loopg [9, 28] 8 (fun gg s9 s28 wr => ∃ n : Nat, n ≤ 8 ∧ 8 - n ≤ gg ∧ s28 = .int .i64 n ∧ Hid (Grew wx wr) ∧ Hid (OwnAt wx.heap.size 9 1 encS wr s9 (difT M1 M2 (n * 64))))
      case atStart => exact ⟨0, by omega, by omega, rfl, Lib.hid (by repeat (first | with_reducible exact Grew.refl _ | apply Grew.more | apply Grew.alloc | apply Grew.drew | apply Grew.drewN)), Lib.hid (OwnAt.nil _)⟩
      case round =>
        obtain ⟨n, hn, hgg, rfl, HG, HO⟩ := hrel
        rename World => wa
        by_cases hlt : n < 8
        · go_wp2
          rw [show decide ((n : Int) < 8) = true from decide_eq_true (by omega)]
          have HLT := Lib.hid hlt
          clear hlt
          go_loopg [9, 31] 64 (fun gg2 s9 s31 wr2 => ∃ k : Nat, k ≤ 64 ∧ 64 - k ≤ gg2 ∧ s31 = .int .i64 k ∧ Hid (Grew wx wr2) ∧ Hid (OwnAt wx.heap.size 9 1 encS wr2 s9 (difT M1 M2 (n * 64 + k))))
          case atStart => exact ⟨0, by omega, by omega, rfl, Lib.hid (HG.out.trans (by repeat (first | with_reducible exact Grew.refl _ | apply Grew.more | apply Grew.alloc | apply Grew.drew | apply Grew.drewN))), Lib.hid (OwnAt.grew HO.out (by repeat (first | with_reducible exact Grew.refl _ | apply Grew.more | apply Grew.alloc | apply Grew.drew | apply Grew.drewN)))⟩
          case round =>
            obtain ⟨k, hk, hgg2, rfl, HG2, HO2⟩ := hrel
            rename World => wb
            by_cases hlt2 : k < 64
            · have ht : thereB (n : Int) (k : Int) = true := by have := HLT.out; unfold thereB; simp; omega
              have hd : difT M1 M2 (n * 64 + (k + 1)) = _ := difT_succ M1 M2 (n * 64 + k)
              have hdl := difT_len M1 M2 (n * 64 + k)
              have hdc : difC M1 M2 (n * 64 + k) = if neqC (getT M1 n k) (getT M2 n k) = true then [celT n k] else [] := by
                unfold difC
                rw [show (n * 64 + k) / 64 = n by omega, show (n * 64 + k) % 64 = k by omega]
              rw [hdc] at hd
              have HGA := Lib.hid fun W (q : Grew wx W) x y hxy => tabGet_any W t1 b1 _ M1 (HT1b.out.grew q) n k ht x y hxy
              have HGB := Lib.hid fun W (q : Grew wx W) x y hxy => tabGet_any W t2 b2 _ M2 (HT2.out.grew q) n k ht x y hxy
              have hI1 := HI.out n (by have := HLT.out; omega)
              have hI2 := HI.out k (by omega)
              have HI1 := Lib.hid hI1
              have HI2 := Lib.hid hI2
              have li1 := itoa_len (n : Int) (by have := HLT.out; omega)
              have li2 := itoa_len (k : Int) (by omega)
              obtain ⟨⟨⟨x0, x1⟩, ⟨x2, x3⟩⟩, hx⟩ : ∃ p, getT M1 n k = p := ⟨_, rfl⟩
              obtain ⟨⟨⟨y0, y1⟩, ⟨y2, y3⟩⟩, hy⟩ : ∃ p, getT M2 n k = p := ⟨_, rfl⟩
              have HXA := Lib.hid fun W (q : Grew wx W) => HGA.out W q (x0, x1) (x2, x3) hx
              have HXB := Lib.hid fun W (q : Grew wx W) => HGB.out W q (y0, y1) (y2, y3) hy
              rw [hx, hy] at hd
              cases hr : neqC ((x0, x1), (x2, x3)) ((y0, y1), (y2, y3))
              · have hne := run_neq_cc x0 x1 x2 x3 y0 y1 y2 y3 false hr
                rw [hr, if_neg (by decide), List.append_nil] at hd
                have HD := Lib.hid hd
                clear hd hdc hr hx hy hI1 hI2 ht HGA HGB
                go_wp2_with (first
                  | (go_at_call 40; ((with_reducible refine Calls.mono (HXA.out _ ?_) ?_)); (focus (exact HG2.out.trans (by repeat (first | with_reducible exact Grew.refl _ | apply Grew.more | apply Grew.alloc | apply Grew.drew | apply Grew.drewN)))); rintro e9 w1 ⟨rfl, R3, m3, rfl⟩)
                  | (go_at_call 40; ((with_reducible refine Calls.mono (HXB.out _ ?_) ?_)); (focus (exact HG2.out.trans (by repeat (first | with_reducible exact Grew.refl _ | apply Grew.more | apply Grew.alloc | apply Grew.drew | apply Grew.drewN)))); rintro e9 w1 ⟨rfl, R4, m4, rfl⟩))
                go_roundg (64 - (k + 1))
                case measure => omega
                case rel => exact ⟨k + 1, by omega, by omega, by go_num, Lib.hid (HG2.out.trans (by repeat (first | with_reducible exact Grew.refl _ | apply Grew.more | apply Grew.alloc | apply Grew.drew | apply Grew.drewN))), Lib.hid (by rw [HD.out]; exact OwnAt.grew HO2.out (by repeat (first | with_reducible exact Grew.refl _ | apply Grew.more | apply Grew.alloc | apply Grew.drew | apply Grew.drewN)))⟩
              · have hne := run_neq_cc x0 x1 x2 x3 y0 y1 y2 y3 true hr
                rw [hr, if_pos rfl] at hd
                have HD := Lib.hid hd
                have HCT := Lib.hid (celT_cat n k)
                clear hd hdc hr hx hy hI1 hI2 ht HGA HGB
                generalize celT n k = ct at *
                generalize Lib.itoa (n : Int) = i1 at *
                generalize Lib.itoa (k : Int) = i2 at *
                go_wp2_with (first
                  | (go_at_call 40; ((with_reducible refine Calls.mono (HXA.out _ ?_) ?_)); (focus (exact HG2.out.trans (by repeat (first | with_reducible exact Grew.refl _ | apply Grew.more | apply Grew.alloc | apply Grew.drew | apply Grew.drewN)))); rintro e9 w1 ⟨rfl, R3, m3, rfl⟩)
                  | (go_at_call 40; ((with_reducible refine Calls.mono (HXB.out _ ?_) ?_)); (focus (exact HG2.out.trans (by repeat (first | with_reducible exact Grew.refl _ | apply Grew.more | apply Grew.alloc | apply Grew.drew | apply Grew.drewN)))); rintro e9 w1 ⟨rfl, R4, m4, rfl⟩)
                  | (go_at_call 16; ((with_reducible refine Calls.mono (HI1.out _ ?_) ?_)); (focus (exact (hgw.out.trans HG2.out).trans (by repeat (first | with_reducible exact Grew.refl _ | apply Grew.more | apply Grew.alloc | apply Grew.drew | apply Grew.drewN)))); rintro e9 w1 ⟨rfl, R5, m5, rfl⟩)
                  | (go_at_call 16; ((with_reducible refine Calls.mono (HI2.out _ ?_) ?_)); (focus (exact (hgw.out.trans HG2.out).trans (by repeat (first | with_reducible exact Grew.refl _ | apply Grew.more | apply Grew.alloc | apply Grew.drew | apply Grew.drewN)))); rintro e9 w1 ⟨rfl, R6, m6, rfl⟩)
                  | (at_builtin; go_loud (refine wpList_ownK (w0 := wx) rfl (.tmp 43) (.tmp 51) 42 _ _ _ _ [ct] rfl Tryz.underlying42 infoStr rfl (by decide) encS_len encS_one rfl (OwnAt.grew HO2.out (by repeat (first | with_reducible exact Grew.refl _ | apply Grew.more | apply Grew.alloc | apply Grew.drew | apply Grew.drewN))) (HG2.out.trans (by repeat (first | with_reducible exact Grew.refl _ | apply Grew.more | apply Grew.alloc | apply Grew.drew | apply Grew.drewN))) rfl (str_at _ _ _ _ _ HCT.out rfl (by simp [go_sem])) (by simp; omega) (by decide) (by simp) ?_); intro v7 W7 hA; (have HA7 := Lib.hid hA); clear hA))
                go_roundg (64 - (k + 1))
                case measure => omega
                case rel => exact ⟨k + 1, by omega, by omega, by go_num, Lib.hid HA7.out.1, Lib.hid (by rw [HD.out]; exact HA7.out.2.1)⟩
            · obtain rfl : k = 64 := by omega
              go_wp2
              go_roundg (8 - (n + 1))
              case measure => have := HLT.out; omega
              case rel => exact ⟨n + 1, by have := HLT.out; omega, by omega, by go_num, HG2, Lib.hid (by rw [show (n + 1) * 64 = n * 64 + 64 by omega]; exact HO2.out)⟩
        · obtain rfl : n = 8 := by omega
          go_wp2
          go_ret
          exact ⟨_, rfl, by rw [HCA.out]; exact OwnAt.low HO.out hgw.out.below.size, hgw.out.trans HG.out⟩
    · have HCA : Hid (cellsA l1 l2 = []) := Lib.hid (if_neg fun q => by rw [ok2] at q; cases q.2)
      go_wp2_with fail
      go_ret
      exact ⟨_, rfl, by rw [HCA.out]; exact OwnAt.nil _, by repeat (first | with_reducible exact Grew.refl _ | apply Grew.more | apply Grew.alloc | apply Grew.drew | apply Grew.drewN)⟩
  · have HCA : Hid (cellsA l1 l2 = []) := Lib.hid (if_neg fun q => by rw [ok1] at q; cases q.1)
    go_wp2_with fail
    refine (HN2.out _ (by repeat (first | with_reducible exact Grew.refl _ | apply Grew.more | apply Grew.alloc | apply Grew.drew | apply Grew.drewN))).mono ?_
    rintro e w1 (⟨ok2, t2, b2, rfl, -, -, -, R2, m2, rfl⟩ | ⟨ok2, rfl, R2, m2, rfl⟩)
    · go_wp2_with fail
      go_ret
      exact ⟨_, rfl, by rw [HCA.out]; exact OwnAt.nil _, by repeat (first | with_reducible exact Grew.refl _ | apply Grew.more | apply Grew.alloc | apply Grew.drew | apply Grew.drewN)⟩
    · go_wp2_with fail
      go_ret
      exact ⟨_, rfl, by rw [HCA.out]; exact OwnAt.nil _, by repeat (first | with_reducible exact Grew.refl _ | apply Grew.more | apply Grew.alloc | apply Grew.drew | apply Grew.drewN)⟩
end Go.Proofs.YthlmmfljeblflaaGreatDoor
