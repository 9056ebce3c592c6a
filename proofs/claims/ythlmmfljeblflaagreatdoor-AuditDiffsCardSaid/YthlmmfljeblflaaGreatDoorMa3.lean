import Derived.Test.YthlmmfljeblflaaGreatDoorMa0
import Derived.Test.YthlmmfljeblflaaGreatDoorMc33
/-! AuditDiffs, cut: how the nodes are unlike. -/
namespace Go.Proofs.YthlmmfljeblflaaGreatDoor
set_option linter.unusedSimpArgs false
set_option linter.unusedVariables false
open Go.RowKit Ga
set_option maxRecDepth 100000

set_option maxHeartbeats 32000000 in
theorem ad_p4 (w0 W : World) (x y : Nat) (c d : MfC) (ma mb : Gr.Mf) (Q : Exit → Act → World → Prop) (a0 : Act) (ids : List Int) (a8 : Option Addr) (c8 : Nat)
    (h0 : Pre28 w0 x y c d a0 W) (hm : MfIs w0 c ma) (hm2 : MfIs w0 d mb) (h7 : a0.tmps.getD 7 undef = .slice none 0 0) (h8 : a0.tmps.getD 8 undef = .slice a8 ids.length c8) (hr : IntsAt W (.slice a8 ids.length c8) ids) (hl : ids.length ≤ 200) (hid : ∀ x ∈ ids, -1099511627776 ≤ x ∧ x ≤ 1099511627776)
    (hret : ∀ a' w', Ret28 w0 a' w' → Q .ret a' w')
    (hnext : ∀ a' w' v7, Grew W w' → Pre28 w0 x y c d a' w' → a'.tmps.getD 7 undef = v7 → OwnAt W.heap.size 9 1 encS w' v7 (unlA ma.graph mb.graph ids) → Code.wp Tryz.prog (tail28 33) Q a' w') :
    Code.wp Tryz.prog (tail28 22) Q a0 W := by
  obtain ⟨hfr, h2, h3, hg, hbx, hby⟩ := h0
  obtain ⟨u, hu⟩ : ∃ u : Nat → Value, u = fun i => a0.tmps.getD i undef := ⟨_, rfl⟩
  rw [← hu] at hfr
  have u2 : u 2 = _ := (congrFun hu 2).trans h2
  have u3 : u 3 = _ := (congrFun hu 3).trans h3
  have u7 : u 7 = _ := (congrFun hu 7).trans h7
  have u8 : u 8 = _ := (congrFun hu 8).trans h8
  clear hu h2 h3 h7 h8
  subst hfr
  conv => arg 2; whnf
  unfold frame28
  rw [u2, u3, u7, u8]
  clear u2 u3 u7 u8
  have HG := Lib.hid hg
  have HBX := Lib.hid hbx
  have HBY := Lib.hid hby
  have HM := Lib.hid hm
  have HM2 := Lib.hid hm2
  have HRET := Lib.hid hret
  have HNX := Lib.hid hnext
  clear hg hbx hby hm hm2 hret hnext
  obtain ⟨ep, pl, ao, no, co, ag, ng, cg, ae, ne, ce, ax, nx, cx, ap, np, cp⟩ := c
  obtain ⟨ep2, pl2, ao2, no2, co2, ag2, ng2, cg2, ae2, ne2, ce2, ax2, nx2, cx2, ap2, np2, cp2⟩ := d
  have HR := Lib.hid hr
  have HIM := Lib.hid hid
  have HGA : Hid (NodesAt w0 (.slice ag ng cg) ma.graph) := Lib.hid HM.out.g
  have HGB : Hid (NodesAt w0 (.slice ag2 ng2 cg2) mb.graph) := Lib.hid HM2.out.g
  generalize ma.graph = ga at *
  generalize mb.graph = gb at *
  clear hr hid HM HM2
  go_wp2
  go_loopg [7, 108] ids.length (fun gg s7 s108 wr => ∃ k : Nat, k ≤ ids.length ∧ ids.length - k ≤ gg ∧ s108 = .int .i64 k ∧ Hid (Grew W wr) ∧ Hid (OwnAt W.heap.size 9 1 encS wr s7 (unlA ga gb (ids.take k))))
  case atStart => exact ⟨0, by omega, by omega, rfl, Lib.hid (by repeat (first | with_reducible exact Grew.refl _ | apply Grew.more | apply Grew.alloc | apply Grew.drew | apply Grew.drewN)), Lib.hid (OwnAt.nil _)⟩
  case round =>
    obtain ⟨k, hk, hgg, rfl, HW, HO⟩ := hrel
    rename World => wa
    by_cases hlt : k < ids.length
    · have HGW : Hid (Grew w0 wa) := Lib.hid (HG.out.trans HW.out)
      obtain ⟨a', cap', e, -, hx⟩ := ints_open (HR.out.grew HW.out)
      cases e
      obtain ⟨bq, off, rfl, hbq, d0⟩ := hx k hlt
      have htk := unlA_snoc ga gb (ids.take k) ids[k]
      rw [← List.take_succ_eq_append_getElem hlt] at htk
      have HTK := Lib.hid htk
      have HXB := Lib.hid (HIM.out _ (List.getElem_mem hlt))
      have hlen := unlA_len ga gb (ids.take k)
      rw [List.length_take] at hlen
      clear hx htk
      generalize ids[k] = x at *
      obtain ⟨fa, hfa⟩ : ∃ fa, findI ga x = fa := ⟨_, rfl⟩
      obtain ⟨fb, hfb⟩ : ∃ fb, findI gb x = fb := ⟨_, rfl⟩
      have HFA := Lib.hid fun W2 (g : Grew w0 W2) => refFind08_any _ ga x W2 (HGA.out.grew g)
      have HFB := Lib.hid fun W2 (g : Grew w0 W2) => refFind08_any _ gb x W2 (HGB.out.grew g)
      rw [hfa] at HFA
      rw [hfb] at HFB
      have HTA := Lib.hid (find_two ga x)
      have HTB := Lib.hid (find_two gb x)
      rw [hfa] at HTA
      rw [hfb] at HTB
      clear hfa hfb
      have x3 := cell_of (o := 3) (W := wa) (grew_heap (HGW.out) HBX.out)
      have y3 := cell_of (o := 3) (W := wa) (grew_heap (HGW.out) HBY.out)
      simp [encMf] at x3 y3
      have px := Pre.mk (W := wa) (heap_lt (grew_heap (HGW.out) HBX.out))
      have py := Pre.mk (W := wa) (heap_lt (grew_heap (HGW.out) HBY.out))
      have HDG := Lib.hid fun W2 => digits_any x (by have := HXB.out; omega) W2
      have lix := itoa_len x (by have := HXB.out; omega)
      go_upto_region 25 with fail
      go_quiet (first
        | (go_at_call 10; ((with_reducible refine Calls.quiet_of_same (HFA.out _ ?_))); exact HGW.out.trans (by repeat (first | with_reducible exact Grew.refl _ | apply Grew.more | apply Grew.alloc | apply Grew.drew | apply Grew.drewN)))
        | (go_at_call 10; ((with_reducible refine Calls.quiet_of_same (HFB.out _ ?_))); exact HGW.out.trans (by repeat (first | with_reducible exact Grew.refl _ | apply Grew.more | apply Grew.alloc | apply Grew.drew | apply Grew.drewN))))
      have htb := HTB.out
      have hta := HTA.out
      rcases htb with ⟨rfl, hnb⟩ | ⟨ib, hib, rfl, hnb⟩
      · have hu : unlT ga gb x = [[103, 111, 110, 101, 32] ++ Lib.itoa x] := by unfold unlT; rw [hnb]
        rw [hu] at HTK
        clear hu hnb hta HTA HTB HFA HFB
        have HCT : Hid ((⟨#[103, 111, 110, 101, 32]⟩ ++ ⟨(Lib.itoa x).toArray⟩ : ByteArray) = ⟨([103, 111, 110, 101, 32] ++ Lib.itoa x).toArray⟩) := Lib.hid (str_cat [103, 111, 110, 101, 32] _)
        generalize [103, 111, 110, 101, 32] ++ Lib.itoa x = ct at *
        generalize Lib.itoa x = ix at *
        go_wp2_with (first
          | (go_at_call 6; refine (HDG.out _).mono ?_; rintro e9 w1 ⟨rfl, rfl⟩)
          | (at_builtin; go_loud (refine wpList_ownK (w0 := W) rfl (.tmp 123) (.tmp 127) 42 _ _ _ _ [ct] rfl Tryz.underlying42 infoStr rfl (by decide) encS_len encS_one rfl (OwnAt.grew HO.out (by repeat (first | with_reducible exact Grew.refl _ | apply Grew.more | apply Grew.alloc | apply Grew.drew | apply Grew.drewN))) (HW.out.trans (by repeat (first | with_reducible exact Grew.refl _ | apply Grew.more | apply Grew.alloc | apply Grew.drew | apply Grew.drewN))) rfl (str_at _ _ _ _ _ HCT.out rfl (by simp [go_sem])) (by simp; omega) (by decide) (by simp) ?_); intro v7 W7 hA; (have HA7 := Lib.hid hA); clear hA))
        go_roundg (ids.length - (k + 1))
        case measure => omega
        case rel => exact ⟨k + 1, by omega, by omega, by go_num, Lib.hid HA7.out.1, Lib.hid (by rw [HTK.out]; exact HA7.out.2.1)⟩
      · rcases hta with ⟨rfl, hna⟩ | ⟨ia, hia, rfl, hna⟩
        · have hu : unlT ga gb x = [[110, 101, 119, 32] ++ Lib.itoa x] := by unfold unlT; rw [hnb, hna]
          rw [hu] at HTK
          have hnn : ¬ ((ib : Int) < 0) := by omega
          clear hu hnb hna HTA HTB HFA HFB
          have HCT : Hid ((⟨#[110, 101, 119, 32]⟩ ++ ⟨(Lib.itoa x).toArray⟩ : ByteArray) = ⟨([110, 101, 119, 32] ++ Lib.itoa x).toArray⟩) := Lib.hid (str_cat [110, 101, 119, 32] _)
          generalize [110, 101, 119, 32] ++ Lib.itoa x = ct at *
          generalize Lib.itoa x = ix at *
          go_wp2_with (first
            | (go_at_call 6; refine (HDG.out _).mono ?_; rintro e9 w1 ⟨rfl, rfl⟩)
            | (at_builtin; go_loud (refine wpList_ownK (w0 := W) rfl (.tmp 132) (.tmp 136) 42 _ _ _ _ [ct] rfl Tryz.underlying42 infoStr rfl (by decide) encS_len encS_one rfl (OwnAt.grew HO.out (by repeat (first | with_reducible exact Grew.refl _ | apply Grew.more | apply Grew.alloc | apply Grew.drew | apply Grew.drewN))) (HW.out.trans (by repeat (first | with_reducible exact Grew.refl _ | apply Grew.more | apply Grew.alloc | apply Grew.drew | apply Grew.drewN))) rfl (str_at _ _ _ _ _ HCT.out rfl (by simp [go_sem])) (by simp; omega) (by decide) (by simp) ?_); intro v7 W7 hA; (have HA7 := Lib.hid hA); clear hA))
          go_roundg (ids.length - (k + 1))
          case measure => omega
          case rel => exact ⟨k + 1, by omega, by omega, by go_num, Lib.hid HA7.out.1, Lib.hid (by rw [HTK.out]; exact HA7.out.2.1)⟩
        · have hu : unlT ga gb x = if eqNd ga[ia] gb[ib] = true then [] else [[99, 104, 97, 110, 103, 101, 100, 32] ++ Lib.itoa x] := by unfold unlT; rw [hnb, hna]
          rw [hu] at HTK
          have hnn : ¬ ((ib : Int) < 0) := by omega
          have hnn2 : ¬ ((ia : Int) < 0) := by omega
          clear hu hnb hna HTA HTB HFA HFB
          obtain ⟨ava, cva, ea, hma, hxa⟩ := (HGA.out.grew HGW.out).openC
          cases ea
          obtain ⟨bqa, offa, ca, rfl, hbqa, hisa, p0, p1, p2, p3, p4, p5, p6, p7, p8, p9, p10, p11, p12⟩ := hxa ia hia
          obtain ⟨avb, cvb, eb, hmb, hxb⟩ := (HGB.out.grew HGW.out).openC
          cases eb
          obtain ⟨bqb, offb, cb, rfl, hbqb, hisb, q0, q1, q2, q3, q4, q5, q6, q7, q8, q9, q10, q11, q12⟩ := hxb ib hib
          have HIA := Lib.hid hisa
          have HIB := Lib.hid hisb
          clear hxa hxb hisa hisb
          have HND := Lib.hid fun W2 (g : Grew wa W2) => refNode08_any ca cb ga[ia] gb[ib] W2 (HIA.out.grew g) (HIB.out.grew g)
          obtain ⟨ca0, ca1, ca2, ca3, ca4, ca5, ca6, ca7, ca8, ca9, ca10, ca11, ca12, ca13, ca14, ca15, ca16⟩ := ca
          obtain ⟨cb0, cb1, cb2, cb3, cb4, cb5, cb6, cb7, cb8, cb9, cb10, cb11, cb12, cb13, cb14, cb15, cb16⟩ := cb
          simp only at p0 p1 p2 p3 p4 p5 p6 p7 p8 p9 p10 p11 p12 q0 q1 q2 q3 q4 q5 q6 q7 q8 q9 q10 q11 q12 HND
          clear HIA HIB
          cases heq : eqNd ga[ia] gb[ib]
          · rw [heq, if_neg (by decide)] at HTK
            rw [heq] at HND
            clear heq

            have HCT : Hid ((⟨#[99, 104, 97, 110, 103, 101, 100, 32]⟩ ++ ⟨(Lib.itoa x).toArray⟩ : ByteArray) = ⟨([99, 104, 97, 110, 103, 101, 100, 32] ++ Lib.itoa x).toArray⟩) := Lib.hid (str_cat [99, 104, 97, 110, 103, 101, 100, 32] _)
            generalize [99, 104, 97, 110, 103, 101, 100, 32] ++ Lib.itoa x = ct at *
            generalize Lib.itoa x = ix at *
            go_upto_region 30 with fail
            refine wp_region_noPanic ?_
            go_region_law (go_simp; go_at_call 11; refine (HND.out _ (by repeat (first | with_reducible exact Grew.refl _ | apply Grew.more | apply Grew.alloc | apply Grew.drew | apply Grew.drewN))).mono ?_; rintro e w1 ⟨rfl, R3, n3, rfl⟩)
            all_goals
              refine NoPanic.normal ?_
              go_wp2_with (first
                | (go_at_call 6; refine (HDG.out _).mono ?_; rintro e9 w1 ⟨rfl, rfl⟩)
                | (at_builtin; go_loud (refine wpList_ownK (w0 := W) rfl (.tmp 151) (.tmp 155) 42 _ _ _ _ [ct] rfl Tryz.underlying42 infoStr rfl (by decide) encS_len encS_one rfl (OwnAt.grew HO.out (by repeat (first | with_reducible exact Grew.refl _ | apply Grew.more | apply Grew.alloc | apply Grew.drew | apply Grew.drewN))) (HW.out.trans (by repeat (first | with_reducible exact Grew.refl _ | apply Grew.more | apply Grew.alloc | apply Grew.drew | apply Grew.drewN))) rfl (str_at _ _ _ _ _ HCT.out rfl (by simp [go_sem])) (by simp; omega) (by decide) (by simp) ?_); intro v7 W7 hA; (have HA7 := Lib.hid hA); clear hA))
              go_roundg (ids.length - (k + 1))
              case measure => omega
              case rel => exact ⟨k + 1, by omega, by omega, by go_num, Lib.hid HA7.out.1, Lib.hid (by rw [HTK.out]; exact HA7.out.2.1)⟩
          · rw [heq, if_pos rfl, List.append_nil] at HTK
            rw [heq] at HND
            clear heq

            go_upto_region 30 with fail
            refine wp_region_noPanic ?_
            go_region_law (go_simp; go_at_call 11; refine (HND.out _ (by repeat (first | with_reducible exact Grew.refl _ | apply Grew.more | apply Grew.alloc | apply Grew.drew | apply Grew.drewN))).mono ?_; rintro e w1 ⟨rfl, R3, n3, rfl⟩)
            all_goals
              refine NoPanic.normal ?_
              go_wp2
              go_roundg (ids.length - (k + 1))
              case measure => omega
              case rel => exact ⟨k + 1, by omega, by omega, by go_num, Lib.hid (HW.out.trans (by repeat (first | with_reducible exact Grew.refl _ | apply Grew.more | apply Grew.alloc | apply Grew.drew | apply Grew.drewN))), Lib.hid (by rw [HTK.out]; exact OwnAt.grew HO.out (by repeat (first | with_reducible exact Grew.refl _ | apply Grew.more | apply Grew.alloc | apply Grew.drew | apply Grew.drewN)))⟩
    · obtain rfl : k = ids.length := by omega
      have ho := HO.out
      rw [List.take_length] at ho
      have HO9 := Lib.hid ho
      clear ho
      go_upto_if 109 with fail
      iterate 4 go_step
      refine HNX.out _ _ _ (HW.out.trans (by repeat (first | with_reducible exact Grew.refl _ | apply Grew.more | apply Grew.alloc | apply Grew.drew | apply Grew.drewN))) ?_ rfl (OwnAt.grew HO9.out (by repeat (first | with_reducible exact Grew.refl _ | apply Grew.more | apply Grew.alloc | apply Grew.drew | apply Grew.drewN)))
      exact ⟨rfl, rfl, rfl, HG.out.trans (HW.out.trans (by repeat (first | with_reducible exact Grew.refl _ | apply Grew.more | apply Grew.alloc | apply Grew.drew | apply Grew.drewN))), HBX.out, HBY.out⟩
end Go.Proofs.YthlmmfljeblflaaGreatDoor
