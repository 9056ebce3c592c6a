import Derived.Test.YthlmmfljeblflaaGreatDoorMc34
import Derived.Test.YthlmmfljeblflaaGreatDoorMc18
import Derived.Test.YthlmmfljeblflaaGreatDoorMc12
import Derived.Test.YthlmmfljeblflaaGreatDoorMc36
/-! audit.unlike. -/
namespace Go.Proofs.YthlmmfljeblflaaGreatDoor
set_option linter.unusedSimpArgs false
set_option linter.unusedVariables false
open Go.RowKit Ga
set_option maxRecDepth 100000

theorem find_ex {r : Option Gr.Nd} {b : Bool} {w w' : World} {e : Ending} (h : GivesFind r w e w') (hb : r.isSome = b) : ∃ c : NdC, e = .returned (.tuple #[.agg #[.int .i64 c.id, .int .i64 c.kind, .slice c.af c.nf c.cf, .slice c.ap c.np c.cp, .int .i64 c.par, .int .i64 c.r0, .int .i64 c.r1, .int .i64 c.r2, .int .i64 c.r3, .int .i64 c.r4, .int .i64 c.r5, .int .i64 c.r6, .int .i64 c.r7], .bool b]) ∧ (∀ n, r = some n → NodeIs w' c n) ∧ Grew w w' := by
  subst hb
  cases r with
  | none =>
    obtain ⟨h1, h2⟩ := h
    exact ⟨⟨0, 0, none, 0, 0, none, 0, 0, 0, 0, 0, 0, 0, 0, 0, 0, 0⟩, h1, fun n q => absurd q (by simp), h2⟩
  | some n =>
    obtain ⟨c, h1, h2, -, h4⟩ := h
    exact ⟨c, h1, fun m q => (Option.some.inj q) ▸ h2, h4⟩
theorem idsN_sub {l : List Int} {x : Int} (h : x ∈ idsN l) : x ∈ l := by
  have h1 : ∀ zs : List Int, x ∈ Lib.compact zs → x ∈ zs := by
    intro zs hx
    unfold Lib.compact Lib.compactUpTo at hx
    obtain ⟨j, hj, rfl⟩ := List.mem_map.1 hx
    have hl : j < zs.length := List.mem_range.1 (List.mem_filter.1 hj).1
    have e : zs.toArray[j]! = zs[j] := by simp [getElem!_pos, hl]
    rw [e]
    exact List.getElem_mem hl
  exact (sortI_perm l).mem_iff.1 (h1 _ h)
/-- how a node is unlike -/
noncomputable def unlT (a b : List Gr.Nd) (id : Int) : List (List UInt8) := match Gr.nodeOf b id with
  | none => [[103, 111, 110, 101, 32] ++ Lib.itoa id]
  | some m => match Gr.nodeOf a id with
    | none => [[110, 101, 119, 32] ++ Lib.itoa id]
    | some n => if eqNd n m = true then [] else [[99, 104, 97, 110, 103, 101, 100, 32] ++ Lib.itoa id]
noncomputable def unlA (a b : List Gr.Nd) (ids : List Int) : List (List UInt8) := ids.flatMap (unlT a b)
theorem unlA_snoc (a b : List Gr.Nd) (l : List Int) (x : Int) : unlA a b (l ++ [x]) = unlA a b l ++ unlT a b x := by
  unfold unlA
  rw [List.flatMap_append, List.flatMap_cons, List.flatMap_nil, List.append_nil]
theorem unlT_len (a b : List Gr.Nd) (x : Int) : (unlT a b x).length ≤ 1 := by
  unfold unlT
  split
  · simp
  · split
    · simp
    · split <;> simp
theorem unlA_len (a b : List Gr.Nd) : ∀ l : List Int, (unlA a b l).length ≤ l.length
  | [] => Nat.le_refl _
  | x :: l => by
    have h1 := unlA_len a b l
    have h2 := unlT_len a b x
    unfold unlA at h1 ⊢
    rw [List.flatMap_cons, List.length_append, List.length_cons]
    omega
set_option maxHeartbeats 32000000 in
theorem unlike28_any (ca cb : Nat) (aa ab : Option Addr) (la lb : List NdC) (ga gb : List Gr.Nd) (w : World) (ra : RowsAt 13 encNd w (.slice aa la.length ca) la) (rb : RowsAt 13 encNd w (.slice ab lb.length cb) lb) (na : NilOr (.slice aa la.length ca) la.length) (nb : NilOr (.slice ab lb.length cb) lb.length) (hla : la.length ≤ 100) (hlb : lb.length ≤ 100)
    (hga : NodesAt w (.slice aa la.length ca) ga) (hgb : NodesAt w (.slice ab lb.length cb) gb) (sa : Small ga) (sb : Small gb) (hid : ∀ x ∈ (la ++ lb).map (·.id), -1099511627776 ≤ x ∧ x ≤ 1099511627776) (hP : Pow w) :
    Calls Tryz.prog 23 #[.slice aa la.length ca, .slice ab lb.length cb] w (StrsPost w (unlA ga gb (idsN ((la ++ lb).map (·.id))))) := by
  have HN := Lib.hid fun W (q : Grew w W) => numbers_any aa ab ca cb la lb W (ra.grew q) (rb.grew q) na nb hla hlb
  have HFA := Lib.hid fun id W (q : Grew w W) => find_any (.slice aa la.length ca) ga id W (hga.grew q) sa
  have HFB := Lib.hid fun id W (q : Grew w W) => find_any (.slice ab lb.length cb) gb id W (hgb.grew q) sb
  have HI := Lib.hid fun (n : Int) (hn : -1099511627776 ≤ n ∧ n ≤ 1099511627776) W (q : Grew w W) => itoa_any n (by omega) W (hP.grew q)
  have hll := idsN_len ((la ++ lb).map (·.id))
  have hlen : ((la ++ lb).map (·.id)).length ≤ 200 := by simp; omega
  have HIM : Hid (∀ x ∈ idsN ((la ++ lb).map (·.id)), -1099511627776 ≤ x ∧ x ≤ 1099511627776) := Lib.hid fun x hx => hid x (idsN_sub hx)
  obtain ⟨ids, hids⟩ : ∃ ids, idsN ((la ++ lb).map (·.id)) = ids := ⟨_, rfl⟩
  rw [hids] at HN hll HIM ⊢
  have hil : ids.length ≤ 200 := by omega
  clear ra rb na nb hga hgb hid hP hids hll hlen
  go_enter Tryz.func23, Tryz.ntmps23
  go_wp2_with fail
  refine (HN.out _ (by repeat (first | with_reducible exact Grew.refl _ | apply Grew.more | apply Grew.alloc | apply Grew.drew | apply Grew.drewN))).mono ?_
  rintro e w1 ⟨v1, rfl, hv, R1, n1, rfl⟩
  obtain ⟨a1, c1, rfl, -, -⟩ := ints_open hv
  have HV := Lib.hid hv
  clear hv
  have hgw : Hid (Grew w (w.more R1 n1)) := Lib.hid (by repeat (first | with_reducible exact Grew.refl _ | apply Grew.more | apply Grew.alloc | apply Grew.drew | apply Grew.drewN))
  generalize w.more R1 n1 = wx at *
  go_wp2
  go_loopg [5, 17] ids.length (fun gg s5 s17 wr => ∃ k : Nat, k ≤ ids.length ∧ ids.length - k ≤ gg ∧ s17 = .int .i64 k ∧ Hid (Grew wx wr) ∧ Hid (OwnAt wx.heap.size 9 1 encS wr s5 (unlA ga gb (ids.take k))))
  case atStart => exact ⟨0, by omega, by omega, rfl, Lib.hid (Grew.refl _), Lib.hid (OwnAt.nil _)⟩
  case round =>
    obtain ⟨k, hk, hgg, rfl, HG, HO⟩ := hrel
    rename World => wa
    have HGW : Hid (Grew w wa) := Lib.hid (hgw.out.trans HG.out)
    by_cases hlt : k < ids.length
    · obtain ⟨a', cap', e, -, hx⟩ := ints_open (HV.out.grew HG.out)
      injection e with e1 e2 e3
      obtain ⟨b, off, ha, pb, d0⟩ := hx k hlt
      obtain rfl : a1 = some ⟨b, off, none⟩ := e1.trans ha
      have hxr := HIM.out _ (List.getElem_mem hlt)
      have HTK : Hid (unlA ga gb (ids.take (k + 1)) = unlA ga gb (ids.take k) ++ unlT ga gb ids[k]) := Lib.hid (by rw [List.take_succ_eq_append_getElem hlt, unlA_snoc])
      have hln : (unlA ga gb (ids.take k)).length ≤ 200 := Nat.le_trans (unlA_len _ _ _) (by rw [List.length_take]; omega)
      clear hx e1 e2 e3 ha
      generalize ids[k] = x at *
      generalize unlA ga gb (ids.take k) = us at *
      have lx := itoa_len x (by omega)
      have HXI := Lib.hid (HI.out x hxr)
      rcases hb : Gr.nodeOf gb x with _ | nB
      · have hu : unlT ga gb x = [[103, 111, 110, 101, 32] ++ Lib.itoa x] := by unfold unlT; rw [hb]
        rw [hu] at HTK
        have HEA : Hid ((Gr.nodeOf ga x).isSome = (Gr.nodeOf ga x).isSome) := Lib.hid rfl
        have HEB : Hid ((Gr.nodeOf gb x).isSome = false) := Lib.hid (by rw [hb]; rfl)
        clear hu hb
        have HCT : Hid ((⟨#[103, 111, 110, 101, 32]⟩ ++ ⟨(Lib.itoa x).toArray⟩ : ByteArray) = ⟨([103, 111, 110, 101, 32] ++ Lib.itoa x).toArray⟩) := Lib.hid (str_cat [103, 111, 110, 101, 32] _)
        generalize [103, 111, 110, 101, 32] ++ Lib.itoa x = ct at *
        generalize Lib.itoa x = ix at *
        go_wp2_with (first
          | (go_at_call 32; ((with_reducible refine Calls.mono (HFA.out _ _ ?_) ?_)); (focus (exact HGW.out.trans (by repeat (first | with_reducible exact Grew.refl _ | apply Grew.more | apply Grew.alloc | apply Grew.drew | apply Grew.drewN)))); intro e9 w1 h9; obtain ⟨cA, rfl, hcA, R3, m3, rfl⟩ := find_ex h9 HEA.out; (have HCA := Lib.hid hcA); clear h9 hcA)
          | (go_at_call 32; ((with_reducible refine Calls.mono (HFB.out _ _ ?_) ?_)); (focus (exact HGW.out.trans (by repeat (first | with_reducible exact Grew.refl _ | apply Grew.more | apply Grew.alloc | apply Grew.drew | apply Grew.drewN)))); intro e9 w1 h9; obtain ⟨cB, rfl, hcB, R4, m4, rfl⟩ := find_ex h9 HEB.out; (have HCB := Lib.hid hcB); clear h9 hcB)
          | (go_at_call 16; ((with_reducible refine Calls.mono (HXI.out _ ?_) ?_)); (focus (exact HGW.out.trans (by repeat (first | with_reducible exact Grew.refl _ | apply Grew.more | apply Grew.alloc | apply Grew.drew | apply Grew.drewN)))); rintro e9 w1 ⟨rfl, R5, m5, rfl⟩)
          | (at_builtin; go_loud (refine wpList_ownK (w0 := wx) rfl (.tmp 48) (.tmp 53) 42 _ _ _ _ [ct] rfl Tryz.underlying42 infoStr rfl (by decide) encS_len encS_one rfl (OwnAt.grew HO.out (by repeat (first | with_reducible exact Grew.refl _ | apply Grew.more | apply Grew.alloc | apply Grew.drew | apply Grew.drewN))) (HG.out.trans (by repeat (first | with_reducible exact Grew.refl _ | apply Grew.more | apply Grew.alloc | apply Grew.drew | apply Grew.drewN))) rfl (str_at _ _ _ _ _ HCT.out rfl (by simp [go_sem])) (by simp; omega) (by decide) (by simp) ?_); intro v7 W7 hA; (have HA7 := Lib.hid hA); clear hA))
        go_roundg (ids.length - (k + 1))
        case measure => omega
        case rel => exact ⟨k + 1, by omega, by omega, by go_num, Lib.hid HA7.out.1, Lib.hid (by rw [HTK.out]; exact HA7.out.2.1)⟩
      · rcases ha : Gr.nodeOf ga x with _ | nA
        · have hu : unlT ga gb x = [[110, 101, 119, 32] ++ Lib.itoa x] := by unfold unlT; rw [hb, ha]
          rw [hu] at HTK
          have HEA : Hid ((Gr.nodeOf ga x).isSome = false) := Lib.hid (by rw [ha]; rfl)
          have HEB : Hid ((Gr.nodeOf gb x).isSome = true) := Lib.hid (by rw [hb]; rfl)
          clear hu hb ha
          have HCT : Hid ((⟨#[110, 101, 119, 32]⟩ ++ ⟨(Lib.itoa x).toArray⟩ : ByteArray) = ⟨([110, 101, 119, 32] ++ Lib.itoa x).toArray⟩) := Lib.hid (str_cat [110, 101, 119, 32] _)
          generalize [110, 101, 119, 32] ++ Lib.itoa x = ct at *
          generalize Lib.itoa x = ix at *
          go_wp2_with (first
            | (go_at_call 32; ((with_reducible refine Calls.mono (HFA.out _ _ ?_) ?_)); (focus (exact HGW.out.trans (by repeat (first | with_reducible exact Grew.refl _ | apply Grew.more | apply Grew.alloc | apply Grew.drew | apply Grew.drewN)))); intro e9 w1 h9; obtain ⟨cA, rfl, hcA, R3, m3, rfl⟩ := find_ex h9 HEA.out; (have HCA := Lib.hid hcA); clear h9 hcA)
            | (go_at_call 32; ((with_reducible refine Calls.mono (HFB.out _ _ ?_) ?_)); (focus (exact HGW.out.trans (by repeat (first | with_reducible exact Grew.refl _ | apply Grew.more | apply Grew.alloc | apply Grew.drew | apply Grew.drewN)))); intro e9 w1 h9; obtain ⟨cB, rfl, hcB, R4, m4, rfl⟩ := find_ex h9 HEB.out; (have HCB := Lib.hid hcB); clear h9 hcB)
            | (go_at_call 16; ((with_reducible refine Calls.mono (HXI.out _ ?_) ?_)); (focus (exact HGW.out.trans (by repeat (first | with_reducible exact Grew.refl _ | apply Grew.more | apply Grew.alloc | apply Grew.drew | apply Grew.drewN)))); rintro e9 w1 ⟨rfl, R5, m5, rfl⟩)
            | (at_builtin; go_loud (refine wpList_ownK (w0 := wx) rfl (.tmp 48) (.tmp 53) 42 _ _ _ _ [ct] rfl Tryz.underlying42 infoStr rfl (by decide) encS_len encS_one rfl (OwnAt.grew HO.out (by repeat (first | with_reducible exact Grew.refl _ | apply Grew.more | apply Grew.alloc | apply Grew.drew | apply Grew.drewN))) (HG.out.trans (by repeat (first | with_reducible exact Grew.refl _ | apply Grew.more | apply Grew.alloc | apply Grew.drew | apply Grew.drewN))) rfl (str_at _ _ _ _ _ HCT.out rfl (by simp [go_sem])) (by simp; omega) (by decide) (by simp) ?_); intro v7 W7 hA; (have HA7 := Lib.hid hA); clear hA))
          go_roundg (ids.length - (k + 1))
          case measure => omega
          case rel => exact ⟨k + 1, by omega, by omega, by go_num, Lib.hid HA7.out.1, Lib.hid (by rw [HTK.out]; exact HA7.out.2.1)⟩
        · have hu : unlT ga gb x = if eqNd nA nB = true then [] else [[99, 104, 97, 110, 103, 101, 100, 32] ++ Lib.itoa x] := by unfold unlT; rw [hb, ha]
          rw [hu] at HTK
          have HEA : Hid ((Gr.nodeOf ga x).isSome = true) := Lib.hid (by rw [ha]; rfl)
          have HEB : Hid ((Gr.nodeOf gb x).isSome = true) := Lib.hid (by rw [hb]; rfl)
          have HNA := Lib.hid ha
          have HNB := Lib.hid hb
          have HSA := Lib.hid (sa nA (Gr.nodeOf_some ha).1)
          have HSB := Lib.hid (sb nB (Gr.nodeOf_some hb).1)
          clear hu hb ha
          cases heq : eqNd nA nB
          · rw [heq, if_neg (by decide)] at HTK
            have HEQ := Lib.hid heq
            clear heq
            have HCT : Hid ((⟨#[99, 104, 97, 110, 103, 101, 100, 32]⟩ ++ ⟨(Lib.itoa x).toArray⟩ : ByteArray) = ⟨([99, 104, 97, 110, 103, 101, 100, 32] ++ Lib.itoa x).toArray⟩) := Lib.hid (str_cat [99, 104, 97, 110, 103, 101, 100, 32] _)
            generalize [99, 104, 97, 110, 103, 101, 100, 32] ++ Lib.itoa x = ct at *
            generalize Lib.itoa x = ix at *
            go_wp2_with (first
              | (go_at_call 32; ((with_reducible refine Calls.mono (HFA.out _ _ ?_) ?_)); (focus (exact HGW.out.trans (by repeat (first | with_reducible exact Grew.refl _ | apply Grew.more | apply Grew.alloc | apply Grew.drew | apply Grew.drewN)))); intro e9 w1 h9; obtain ⟨cA, rfl, hcA, R3, m3, rfl⟩ := find_ex h9 HEA.out; (have HCA := Lib.hid hcA); clear h9 hcA)
              | (go_at_call 32; ((with_reducible refine Calls.mono (HFB.out _ _ ?_) ?_)); (focus (exact HGW.out.trans (by repeat (first | with_reducible exact Grew.refl _ | apply Grew.more | apply Grew.alloc | apply Grew.drew | apply Grew.drewN)))); intro e9 w1 h9; obtain ⟨cB, rfl, hcB, R4, m4, rfl⟩ := find_ex h9 HEB.out; (have HCB := Lib.hid hcB); clear h9 hcB)
              | (go_at_call 38; refine Calls.mono (same_one _ _ nA nB _ ?_ ?_ (HSA.out) (HSB.out)) ?_; (focus refine NodesAt.grew ?_ ((Grew.refl _).alloc _); exact NodesAt.one ((HCA.out _ HNA.out).grew (by repeat (first | with_reducible exact Grew.refl _ | apply Grew.more | apply Grew.alloc | apply Grew.drew | apply Grew.drewN))) _ (by simp [go_sem]) _ rfl); (focus exact NodesAt.one ((HCB.out _ HNB.out).grew (by repeat (first | with_reducible exact Grew.refl _ | apply Grew.more | apply Grew.alloc | apply Grew.drew | apply Grew.drewN))) _ (by simp [go_sem]) _ rfl); rintro e9 w1 ⟨rfl, R6, m6, rfl⟩; rw [HEQ.out])
              | (go_at_call 16; ((with_reducible refine Calls.mono (HXI.out _ ?_) ?_)); (focus (exact HGW.out.trans (by repeat (first | with_reducible exact Grew.refl _ | apply Grew.more | apply Grew.alloc | apply Grew.drew | apply Grew.drewN)))); rintro e9 w1 ⟨rfl, R5, m5, rfl⟩)
              | (at_builtin; go_loud (refine wpList_ownK (w0 := wx) rfl (.tmp 48) (.tmp 53) 42 _ _ _ _ [ct] rfl Tryz.underlying42 infoStr rfl (by decide) encS_len encS_one rfl (OwnAt.grew HO.out (by repeat (first | with_reducible exact Grew.refl _ | apply Grew.more | apply Grew.alloc | apply Grew.drew | apply Grew.drewN))) (HG.out.trans (by repeat (first | with_reducible exact Grew.refl _ | apply Grew.more | apply Grew.alloc | apply Grew.drew | apply Grew.drewN))) rfl (str_at _ _ _ _ _ HCT.out rfl (by simp [go_sem])) (by simp; omega) (by decide) (by simp) ?_); intro v7 W7 hA; (have HA7 := Lib.hid hA); clear hA))
            go_roundg (ids.length - (k + 1))
            case measure => omega
            case rel => exact ⟨k + 1, by omega, by omega, by go_num, Lib.hid HA7.out.1, Lib.hid (by rw [HTK.out]; exact HA7.out.2.1)⟩
          · rw [heq, if_pos rfl] at HTK
            have HEQ := Lib.hid heq
            clear heq
            go_wp2_with (first
              | (go_at_call 32; ((with_reducible refine Calls.mono (HFA.out _ _ ?_) ?_)); (focus (exact HGW.out.trans (by repeat (first | with_reducible exact Grew.refl _ | apply Grew.more | apply Grew.alloc | apply Grew.drew | apply Grew.drewN)))); intro e9 w1 h9; obtain ⟨cA, rfl, hcA, R3, m3, rfl⟩ := find_ex h9 HEA.out; (have HCA := Lib.hid hcA); clear h9 hcA)
              | (go_at_call 32; ((with_reducible refine Calls.mono (HFB.out _ _ ?_) ?_)); (focus (exact HGW.out.trans (by repeat (first | with_reducible exact Grew.refl _ | apply Grew.more | apply Grew.alloc | apply Grew.drew | apply Grew.drewN)))); intro e9 w1 h9; obtain ⟨cB, rfl, hcB, R4, m4, rfl⟩ := find_ex h9 HEB.out; (have HCB := Lib.hid hcB); clear h9 hcB)
              | (go_at_call 38; refine Calls.mono (same_one _ _ nA nB _ ?_ ?_ (HSA.out) (HSB.out)) ?_; (focus refine NodesAt.grew ?_ ((Grew.refl _).alloc _); exact NodesAt.one ((HCA.out _ HNA.out).grew (by repeat (first | with_reducible exact Grew.refl _ | apply Grew.more | apply Grew.alloc | apply Grew.drew | apply Grew.drewN))) _ (by simp [go_sem]) _ rfl); (focus exact NodesAt.one ((HCB.out _ HNB.out).grew (by repeat (first | with_reducible exact Grew.refl _ | apply Grew.more | apply Grew.alloc | apply Grew.drew | apply Grew.drewN))) _ (by simp [go_sem]) _ rfl); rintro e9 w1 ⟨rfl, R6, m6, rfl⟩; rw [HEQ.out]))
            go_roundg (ids.length - (k + 1))
            case measure => omega
            case rel => exact ⟨k + 1, by omega, by omega, by go_num, Lib.hid (HG.out.trans (by repeat (first | with_reducible exact Grew.refl _ | apply Grew.more | apply Grew.alloc | apply Grew.drew | apply Grew.drewN))), Lib.hid (by rw [HTK.out, List.append_nil]; exact OwnAt.grew HO.out (by repeat (first | with_reducible exact Grew.refl _ | apply Grew.more | apply Grew.alloc | apply Grew.drew | apply Grew.drewN)))⟩
    · obtain rfl : k = ids.length := by omega
      rw [List.take_length] at HO
      obtain ⟨a9, c9, hv9⟩ := (OwnAt.rows HO.out encS_len).len
      subst hv9
      go_wp2
      go_ret
      exact ⟨_, rfl, OwnAt.low HO.out hgw.out.below.size, HGW.out⟩
end Go.Proofs.YthlmmfljeblflaaGreatDoor
