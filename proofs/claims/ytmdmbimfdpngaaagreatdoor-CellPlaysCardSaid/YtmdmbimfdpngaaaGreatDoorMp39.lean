import Derived.Ground.SlmcProg
import Derived.Shelf.SlMaps.Clone
import Derived.Test.YtmdmbimfdpngaaaGreatDoorProg
import Derived.Test.YtmdmbimfdpngaaaGreatDoorMp30
import Derived.Test.YtmdmbimfdpngaaaGreatDoorMp38
import Derived.Test.YtmdmbimfdpngaaaGreatDoorMp17
import Derived.Test.YtmdmbimfdpngaaaGreatDoorMp31
import Derived.DeepKeys4
import Derived.DeepKeys5
import Derived.Maps.Views
/-
  DERIVED: THE SHELF's CONTRACTS AT THIS DUMP, IN PLAIN WORDS (tools/lay-plain.mjs out of 'TryzShelf3.lean', which tools/lay-shelf.mjs wrote): THE SAME DECLARATIONS UNDER THE SAME NAMES: 'import', 'namespace', 'open', 'def', 'theorem' AND NOTHING ELSE: no command of the shelf's: FOR A HAND-IN. Each laying: the table of numbers ('.._ren') and one theorem, a field a fact of the dump's own or the kernel's comparison; each contract: ONE APPLICATION.
-/
namespace Go.Proofs
open Go.Shelf
def Tryz.cloneMap_ren : Go.Shelf.Ren := ⟨fun | 5 => 58 | 7 => 87 | n => n, fun | 23 => 104 | 25 => 115 | 3 => 48 | 4 => 4 | 20 => 20 | n => n, fun | n => n⟩
theorem Tryz.cloneMap : Go.Proofs.SlLaysW.n5 Tryz.prog Tryz.cloneMap_ren := {
  mixed := by kernel_rfl
  f5 := ⟨Tryz.f58.name, by decide, Tryz.func58.trans (congrArg some (by kernel_rfl))⟩
  f7 := Tryz.func87.trans (congrArg some (by kernel_rfl))
  t4 := Tryz.underlying4
  a4 := Tryz.isAgg4
  z4 := Tryz.sizeOf4
  v4 := Tryz.zeroValue4
  t20 := Tryz.underlying20
  a20 := Tryz.isAgg20
  z20 := Tryz.sizeOf20
  v20 := Tryz.zeroValue20
  t23 := Tryz.underlying104
  a23 := Tryz.isAgg104
  z23 := Tryz.sizeOf104
  v23 := Tryz.zeroValue104 }
end Go.Proofs

/-! cell: Copy; forebaylaw07.in; forebayref07.Run. -/
namespace Go.Proofs.YtmdmbimfdpngaaaGreatDoor
set_option linter.unusedSimpArgs false
set_option linter.unusedVariables false
open Go.RowKit Ga
set_option maxRecDepth 100000

theorem zeroTab : Tryz.zeroCells51 = Array.replicate 2048 (.int .i64 0) := by kernel_rfl
theorem RTabAt.made' (W : World) (t : Nat) (ht : t = W.heap.size) : RTabAt (W.alloc (.cells Tryz.zeroCells51 51)) t (fun _ _ => zer) := by
  rw [zeroTab]
  exact RTabAt.made W t ht
/-- a copy: a table of its own -/
def CopyPost (w : World) (n : Nat) (m : List Tab.En) (e : Ending) (w' : World) : Prop := ∃ t2 b2, e = .returned (.pointer (some ⟨t2, 0, none⟩)) ∧ TableAt w' t2 b2 n m ∧ w.heap.size ≤ t2 ∧ w.heap.size ≤ b2 ∧ Grew w w'
set_option maxHeartbeats 2000000 in
theorem tabCopy_any (W : World) (t b n : Nat) (m : List Tab.En) (hT : TableAt W t b n m) : Calls Tryz.prog 32 #[.pointer (some ⟨t, 0, none⟩)] W (CopyPost W n m) := by
  have tc := cell_of (o := 0) hT.1
  simp at tc
  have pt := Pre.mk (heap_lt hT.1)
  obtain ⟨D, ho, hD⟩ := hT.2
  have HO := Lib.hid ho
  have HD := Lib.hid hD
  have hcl : ∀ W2 : World, Grew W W2 → Calls Tryz.prog 58 #[.map (some b)] W2 fun e w' => e = .returned (.map (some W2.heap.size)) ∧ TabAt w' W2.heap.size n m ∧ Grew W2 w' := fun W2 g => by
    have ho2 : W2.ownsMap Tryz.prog 115 ceR b n D := by
      obtain ⟨es, c, h1, h2⟩ := HO.out
      exact ⟨es, c, grew_heap g h1, h2⟩
    refine (AnyW.maps_Clone_owns Tryz.cloneMap 115 ceR b n D W2 ho2).mono ?_
    rintro e w' ⟨h1, h2, _, h4⟩
    exact ⟨h1, ⟨D, h2, HD.out⟩, Grew.ofBelow h4⟩
  have HCL := Lib.hid hcl
  clear hT ho hD hcl
  go_enter Tryz.func32, Tryz.ntmps32
  go_wp2_with (go_at_call 58; refine (HCL.out _ (by repeat (first | with_reducible exact Grew.refl _ | apply Grew.more | apply Grew.alloc | apply Grew.drew | apply Grew.drewN))).mono ?_; rintro e w1 ⟨rfl, hT1, R1, n1, rfl⟩; (have HT1 := Lib.hid hT1); clear hT1)
  go_ret
  exact ⟨_, _, rfl, ⟨heap_new_at _ _ _ (by simp [World.more_size]), HT1.out.grew (by repeat (first | with_reducible exact Grew.refl _ | apply Grew.more | apply Grew.alloc | apply Grew.drew | apply Grew.drewN))⟩, by simp [World.more_size], Nat.le_refl _, by repeat (first | with_reducible exact Grew.refl _ | apply Grew.more | apply Grew.alloc | apply Grew.drew | apply Grew.drewN)⟩
set_option maxHeartbeats 2000000 in
theorem in07_any (v : Value) (l : List Int) (x : Int) (w : World) (hv : IntsAt w v l) : Calls Tryz.prog 30 #[v, .int .i64 x] w fun e w' => e = .returned (.bool (decide (x ∈ l))) ∧ w = w' := by
  obtain ⟨a, cap, rfl, hm, hx⟩ := ints_open hv
  have HX := Lib.hid hx
  clear hx hv
  go_enter Tryz.func30, Tryz.ntmps30
  go_wp2
  go_loopg [9] l.length (fun gg s9 wr => ∃ k : Nat, k ≤ l.length ∧ l.length - k ≤ gg ∧ s9 = .int .i64 k ∧ wr = w ∧ Hid (∀ j (hj : j < l.length), j < k → l[j] ≠ x))
  case atStart => exact ⟨0, by omega, by omega, rfl, rfl, Lib.hid fun j _ h => by omega⟩
  case round =>
    obtain ⟨k, hk, hgg, rfl, rfl, HNO⟩ := hrel
    by_cases hlt : k < l.length
    · obtain ⟨b, off, rfl, hb, c0⟩ := HX.out k hlt
      by_cases he : l[k] = x
      · have HF := Lib.hid (decide_eq_true (he ▸ List.getElem_mem hlt : x ∈ l))
        rw [he] at c0
        clear he
        go_wp2
        go_ret
        exact ⟨by rw [HF.out]; rfl, rfl⟩
      · have HKX : Hid (∀ j (hj : j < l.length), j < k + 1 → l[j] ≠ x) := Lib.hid fun j hj h => by
          rcases Nat.lt_or_ge j k with h1 | h1
          · exact HNO.out j hj h1
          · obtain rfl : j = k := by omega
            exact he
        have hbe : (l[k] == x) = false := by simpa using he
        clear he
        generalize l[k] = y at *
        go_wp2
        go_roundg (l.length - (k + 1))
        case measure => omega
        case rel => exact ⟨k + 1, by omega, by omega, by go_num, rfl, HKX⟩
    · obtain rfl : k = l.length := by omega
      have hf : x ∉ l := fun q => by
        obtain ⟨j, hj, e⟩ := List.mem_iff_getElem.1 q
        exact HNO.out j hj hj e
      have HF := Lib.hid (decide_eq_false hf)
      clear hf
      go_wp2
      go_ret
      exact ⟨by rw [HF.out]; rfl, rfl⟩
end Go.Proofs.YtmdmbimfdpngaaaGreatDoor

/-! forebayref07.Run. -/
namespace Go.Proofs.YtmdmbimfdpngaaaGreatDoor
set_option linter.unusedSimpArgs false
set_option linter.unusedVariables false
open Go.RowKit Ga
set_option maxRecDepth 100000

/-- the document's table behind a run -/
def RRunPost (w0 W : World) (t : Nat) (f : FTab) (outs : List Rc) (e : Ending) (W' : World) : Prop := ∃ v, e = .returned v ∧ RecsAt W' v outs ∧ RTabAt W' t f ∧ Grew w0 W' ∧ Keep t W W'
theorem Keep.set4 {w : World} {B o : Nat} (v : Value) : Keep B w (w.setCell ⟨B, o, none⟩ v) := ⟨by simp [World.size_setCell], fun q _ hn => set_other (fun e => hn e.symm)⟩
set_option maxHeartbeats 8000000 in
theorem refRun07_any (w0 W : World) (t : Nat) (f : FTab) (hT : RTabAt W t f) (hg : Grew w0 W) (hb : w0.heap.size ≤ t) (n k : Nat) (hn : n < 8) (hk : k < 64) (v : Value) (l : List Val) (hv : ValsAt W v l) (x y : Int) (hs : Vm.safe l = true) (hr : rightV (x, y) = true) (h0 : rightV (f n k).1 = true) (h1 : rightV (f n k).2 = true) :
    Calls Tryz.prog 29 #[.pointer (some ⟨t, 0, none⟩), .int .i64 n, v, .agg #[.int .i64 k, .int .i64 x, .int .i64 y]] W (RRunPost w0 W t (runF f n l k (x, y)) ((runC l (f n k) (x, y)).out.map fun u => ((k : Int), u))) := by
  have HT := Lib.hid hT
  have HG := Lib.hid hg
  have HV := Lib.hid hv
  obtain ⟨av, cv, rfl⟩ := hv.len
  have hbn : (n : Int) < 8 := by omega
  have hbk : (k : Int) < 64 := by omega
  obtain ⟨c, hc⟩ : ∃ c, f n k = c := ⟨_, rfl⟩
  have hfour := Vm.each1_four hs (f n k).1 (f n k).2 (x, y)
  have HRF : Hid (runF f n l k (x, y) = setF f n k ((runC l (f n k) (x, y)).c0, (runC l (f n k) (x, y)).c1)) := Lib.hid rfl
  rw [hc] at h0 h1 hfour HRF
  have HC := Lib.hid hc
  rw [hc]
  obtain ⟨⟨p0, q0⟩, ⟨p1, q1⟩⟩ := c
  simp only at h0 h1
  have hz : Vm.codeOf l (p0, q0) (p1, q1) [(x, y)] = 0 := Vm.codeOf_zero.2 ⟨hs, by simp [h0, h1], by simp [hr]⟩
  have HZ := Lib.hid hz
  obtain ⟨c0, c1, c2, c3⟩ := hT.cells hn hk
  rw [hc] at c0 c1 c2 c3
  simp only at c0 c1 c2 c3
  have pt := Pre.mk hT.lt
  unfold runC at HRF ⊢
  have HRUN := Lib.hid fun W2 (g : Grew W W2) => refRun_any _ l x y p0 q0 p1 q1 W2 (HV.out.grew g) HZ.out
  simp only at HRF hfour HRUN ⊢
  generalize Vm.each l ⟨[], (p0, q0), (p1, q1), 0⟩ [(x, y)] = E at *
  obtain ⟨out, ⟨a0, b0⟩, ⟨a1, b1⟩, es⟩ := E
  simp only at HRF hfour HRUN ⊢
  clear hT hg hv hs hr h0 h1 hc hz
  go_enter Tryz.func29, Tryz.ntmps29
  go_upto_region 1 with fail
  go_cut [7, 9, 10, 11] (fun s7 s9 s10 s11 wx => ∃ (b10 : Nat) (ao : Option Addr) (co : Nat), s7 = .pointer (some ⟨W.heap.size, 0, none⟩) ∧ s9 = .slice ao out.length co ∧ s10 = .pointer (some ⟨b10, 0, none⟩) ∧ s11 = .int .i64 es ∧ Grew (W.alloc (.cells #[.int .i64 k, .int .i64 x, .int .i64 y] 58)) wx ∧ W.heap.size + 1 ≤ b10 ∧ wx.heap[b10]? = some (.cells #[.int .i64 a0, .int .i64 b0, .int .i64 a1, .int .i64 b1] 48) ∧ OwnAt W.heap.size 47 2 encI wx (.slice ao out.length co) out)
  case first =>
    go_region_held3 (fun w' => w'.cell? ⟨W.heap.size, 0, none⟩ = some (.int .i64 k) ∧ w'.cell? ⟨W.heap.size, 1, none⟩ = some (.int .i64 x) ∧ w'.cell? ⟨W.heap.size, 2, none⟩ = some (.int .i64 y) ∧ w'.cell? ⟨t, n * 256 + k * 4, none⟩ = some (.int .i64 p0) ∧ w'.cell? ⟨t, n * 256 + k * 4 + 1, none⟩ = some (.int .i64 q0) ∧ w'.cell? ⟨t, n * 256 + k * 4 + 2, none⟩ = some (.int .i64 p1) ∧ w'.cell? ⟨t, n * 256 + k * 4 + 3, none⟩ = some (.int .i64 q1)) ((refine ⟨?_, ?_, ?_, ?_, ?_, ?_, ?_⟩ <;> simp [go_sem, *])) (first
      | (go_simp; go_at_call 57; refine (HRUN.out _ (by repeat (first | with_reducible exact Grew.refl _ | apply Grew.more | apply Grew.alloc | apply Grew.drew | apply Grew.drewN))).mono ?_; rintro e w1 ⟨⟨R6, N6, hw⟩, vo, rfl, ho⟩; subst hw; obtain ⟨ao2, co2, rfl⟩ := (ho.rows encI_len).len; (have HQ := Lib.hid ho); clear ho))
    · go_wp2_with fail
      go_meet
      refine ⟨_, ao2, co2, rfl, rfl, rfl, rfl, by repeat (first | with_reducible exact Grew.refl _ | apply Grew.more | apply Grew.alloc | apply Grew.drew | apply Grew.drewN), by omega, grew_heap (by repeat (first | with_reducible exact Grew.refl _ | apply Grew.more | apply Grew.alloc | apply Grew.drew | apply Grew.drewN)) (heap_new_at _ _ _ (by simp [go_sem])), ?_⟩
      have hq := OwnAt.low HQ.out (base' := W.heap.size) (by simp [go_sem])
      rw [World.more_drew] at hq
      exact OwnAt.grew hq (by repeat (first | with_reducible exact Grew.refl _ | apply Grew.more | apply Grew.alloc | apply Grew.drew | apply Grew.drewN))
    · go_wp2_with fail
      go_meet
      refine ⟨_, ao2, co2, rfl, rfl, rfl, rfl, by repeat (first | with_reducible exact Grew.refl _ | apply Grew.more | apply Grew.alloc | apply Grew.drew | apply Grew.drewN), by omega, grew_heap (by repeat (first | with_reducible exact Grew.refl _ | apply Grew.more | apply Grew.alloc | apply Grew.drew | apply Grew.drewN)) (heap_new_at _ _ _ (by simp [go_sem])), ?_⟩
      exact OwnAt.low (OwnAt.same HQ.out fun b hb => heap_more_same (by simp [World.size_alloc, World.more_size]) _ _ _ (by have := HQ.out.lt b hb; simp [World.size_alloc, World.more_size] at this ⊢; omega)) (by simp [go_sem]; omega)
  case rest =>
    obtain ⟨b10, ao, co, rfl, rfl, rfl, rfl, hgw, hb10, hc10, hvo⟩ := hcut
    generalize wc = W5 at *
    clear wc
    have HGC := Lib.hid (((Grew.refl W).alloc (.cells #[.int .i64 k, .int .i64 x, .int .i64 y] 58)).trans hgw)
    have k0 := cell_of (o := 0) hc10
    have k1 := cell_of (o := 1) hc10
    have k2 := cell_of (o := 2) hc10
    have k3 := cell_of (o := 3) hc10
    simp at k0 k1 k2 k3
    have pb := Pre.mk (heap_lt hc10)
    have hbx : W5.heap[W.heap.size]? = some (.cells #[.int .i64 k, .int .i64 x, .int .i64 y] 58) := grew_heap hgw (heap_new_at _ _ _ rfl)
    have j0 := cell_of (o := 0) hbx
    simp at j0
    have pw := Pre.mk (heap_lt hbx)
    have HBX := Lib.hid hbx
    have HVO := Lib.hid hvo
    have HTC := Lib.hid (HT.out.grew HGC.out)
    have ht2 := HT.out.lt
    have hws := HGC.out.below.size
    clear c0 c1 c2 c3 hgw hc10 hbx hvo
    obtain ⟨d0, d1, d2, d3⟩ := HTC.out.cells hn hk
    have f0 := HTC.out.frozen (o := n * 256 + k * 4)
    have f1 := HTC.out.frozen (o := n * 256 + k * 4 + 1)
    have f2 := HTC.out.frozen (o := n * 256 + k * 4 + 2)
    have f3 := HTC.out.frozen (o := n * 256 + k * 4 + 3)
    have ptc := Pre.mk HTC.out.lt
    go_upto_region 2 with fail
    go_cut [] (fun wx => RTabAt wx t (setF f n k ((a0, b0), (a1, b1))) ∧ Grew w0 wx ∧ Keep t W5 wx)
    case first =>
      refine wp_region_seq 8 Tryz.mixed (by kernel_rfl) (by kernel_rfl) ?_
      iterate 8
        apply Seq.val
        focus
          rintro w1 u ⟨R1, n1, rfl⟩ hF
          simp [moreFacts, Fact.more, Oper.deps, Region.binds, List.filter_cons, World.more_drew] at hF
          simp [putFacts, Oper.deps, Region.binds, List.filter_cons, Region.dstOf, Fact.at, Act.put, World.more_drew]
          go_wp2
          exact ⟨by repeat (first | with_reducible exact Grew.refl _ | apply Grew.more | apply Grew.alloc | apply Grew.drew | apply Grew.drewN), rfl, _, _, rfl, rfl, rfl⟩
      rintro u w1 ⟨R1, n1, rfl⟩ hF
      clear hF
      simp [putFacts, Region.dstOf, Fact.at, Act.put, List.range_succ, World.more_drew]
      go_wp2
      go_meet
      refine ⟨(HTC.out.set hn hk a0 b0 a1 b1).grew (by repeat (first | with_reducible exact Grew.refl _ | apply Grew.more | apply Grew.alloc | apply Grew.drew | apply Grew.drewN)), Grew.trans (((((HG.out.trans HGC.out).set hb _).set hb _).set hb _).set hb _) (by repeat (first | with_reducible exact Grew.refl _ | apply Grew.more | apply Grew.alloc | apply Grew.drew | apply Grew.drewN)), ?_⟩
      exact ((((Keep.set4 _).trans (Keep.set4 _)).trans (Keep.set4 _)).trans (Keep.set4 _)).trans (Keep.ofGrew (by repeat (first | with_reducible exact Grew.refl _ | apply Grew.more | apply Grew.alloc | apply Grew.drew | apply Grew.drewN)))
    case rest =>
      obtain ⟨hT6, hG6, hK6⟩ := hcut
      have HT6 := Lib.hid hT6
      have HG6 := Lib.hid hG6
      have HK6 := Lib.hid hK6
      have hb6 : wc.heap[W.heap.size]? = some (.cells #[.int .i64 k, .int .i64 x, .int .i64 y] 58) := by rw [hK6.2 _ (heap_lt HBX.out) (by omega)]; exact HBX.out
      have HB6 := Lib.hid hb6
      have hvo6 : ValsAt wc (.slice ao out.length co) out := OwnAt.rows (OwnAt.same HVO.out fun q hq => hK6.2 q (by obtain ⟨_, cs, hc⟩ := OwnAt.block HVO.out hq; exact heap_lt hc) (by have := OwnAt.lt HVO.out q hq; omega)) encI_len
      obtain ⟨ao', co', e, hmo, -⟩ := hvo6.open2
      cases e
      have HVO6 := Lib.hid hvo6
      clear k0 k1 k2 k3 pb j0 pw d0 d1 d2 d3 f0 f1 f2 f3 ptc hT6 hG6 hK6 hb6 hvo6
      have j0 := cell_of (o := 0) HB6.out
      simp at j0
      have pw := Pre.mk (heap_lt HB6.out)
      generalize wc = W6 at *
      clear wc
      go_wp2
      go_loopg [12, 13] out.length (fun gg s12 s13 wr => ∃ j : Nat, j ≤ out.length ∧ out.length - j ≤ gg ∧ s13 = .int .i64 j ∧ Hid (Grew W6 wr) ∧ Hid (OwnAt W6.heap.size 58 3 encRc wr s12 ((out.take j).map fun u => ((k : Int), u))))
      case atStart => exact ⟨0, by omega, by omega, rfl, Lib.hid (by repeat (first | with_reducible exact Grew.refl _ | apply Grew.more | apply Grew.alloc | apply Grew.drew | apply Grew.drewN)), Lib.hid (OwnAt.fresh (t := 58) (l := []) rfl rfl rfl (by simp [maxLen]) encRc_len rfl (Nat.le_refl _) rfl)⟩
      case round =>
        obtain ⟨j, hj, hgg, rfl, HGR, HOW⟩ := hrel
        by_cases hlt : j < out.length
        · obtain ⟨a', cap', e, -, hx⟩ := (HVO6.out.grew HGR.out).open2
          cases e
          obtain ⟨bq, off, rfl, hbq, c0, c1⟩ := hx j hlt
          have HNX : Hid (((out.take (j + 1)).map fun u => ((k : Int), u)) = ((out.take j).map fun u => ((k : Int), u)) ++ [((k : Int), out[j])]) := Lib.hid (by rw [List.take_succ_eq_append_getElem hlt, List.map_append]; rfl)
          have gr := cell_of (o := 0) (grew_heap HGR.out HB6.out)
          simp at gr
          have pgr := Pre.mk (heap_lt (grew_heap HGR.out HB6.out))
          clear hx
          generalize out[j] = u at *
          obtain ⟨u0, u1⟩ := u
          simp only at c0 c1
          go_wp2
          refine wp_region_noPanic ?_
          go_region_law (refine step_ownK (w0 := W6) rfl (.tmp 45) (.tmp 53) 63 _ _ _ _ [((k : Int), (u0, u1))] rfl Tryz.underlying63 infoRc rfl (by decide) encRc_len encRc_one rfl (OwnAt.grew HOW.out (by repeat (first | with_reducible exact Grew.refl _ | apply Grew.more | apply Grew.alloc | apply Grew.drew | apply Grew.drewN))) (HGR.out.trans (by repeat (first | with_reducible exact Grew.refl _ | apply Grew.more | apply Grew.alloc | apply Grew.drew | apply Grew.drewN))) rfl (rc_at _ _ _ _ rfl (by simp [go_sem])) (by simp; omega) (by decide) Nat.one_pos ?_; intro v7 W7 hA; (have HA := Lib.hid hA); clear hA)
          all_goals
            refine NoPanic.normal ?_
            go_wp2
            go_roundg (out.length - (j + 1))
            case measure => omega
            case rel => exact ⟨j + 1, by omega, by omega, by go_num, Lib.hid HA.out.1, Lib.hid (by rw [HNX.out]; exact HA.out.2.1)⟩
        · obtain rfl : j = out.length := by omega
          have how := HOW.out
          rw [List.take_length] at how
          have HOW9 := Lib.hid how
          obtain ⟨ak, ck, rfl⟩ := (OwnAt.rows how encRc_len).len
          clear how
          go_wp2
          go_ret
          exact ⟨_, rfl, OwnAt.rows HOW9.out encRc_len, by rw [HRF.out]; exact HT6.out.grew HGR.out, HG6.out.trans HGR.out, ((Keep.ofGrew HGC.out).trans HK6.out).trans (Keep.ofGrew HGR.out)⟩
end Go.Proofs.YtmdmbimfdpngaaaGreatDoor

/-! forebayref05.take and leave. -/
namespace Go.Proofs.YtmdmbimfdpngaaaGreatDoor
set_option linter.unusedSimpArgs false
set_option linter.unusedVariables false
open Go.RowKit Ga
set_option maxRecDepth 100000

set_option maxHeartbeats 8000000 in
theorem take05_any (op : Int) (h0 : 0 ≤ op) (h1 : op ≤ 17) (w : World) : Calls Tryz.prog 55 #[.int .i64 op] w fun e w' => e = .returned (.int .i64 (takesI op)) ∧ w = w' := by
  have hc : op = 0 ∨ op = 1 ∨ op = 2 ∨ op = 3 ∨ op = 4 ∨ op = 5 ∨ op = 6 ∨ op = 7 ∨ op = 8 ∨ op = 9 ∨ op = 10 ∨ op = 11 ∨ op = 12 ∨ op = 13 ∨ op = 14 ∨ op = 15 ∨ op = 16 ∨ op = 17 := by omega
  clear h0 h1
  rcases hc with rfl | rfl | rfl | rfl | rfl | rfl | rfl | rfl | rfl | rfl | rfl | rfl | rfl | rfl | rfl | rfl | rfl | rfl
  all_goals
    go_enter Tryz.func55, Tryz.ntmps55
    go_wp2
    go_ret
    exact ⟨rfl, rfl⟩

set_option maxHeartbeats 8000000 in
theorem leave05_any (op : Int) (h0 : 0 ≤ op) (h1 : op ≤ 17) (w : World) : Calls Tryz.prog 56 #[.int .i64 op] w fun e w' => e = .returned (.int .i64 (leavesI op)) ∧ w = w' := by
  have hc : op = 0 ∨ op = 1 ∨ op = 2 ∨ op = 3 ∨ op = 4 ∨ op = 5 ∨ op = 6 ∨ op = 7 ∨ op = 8 ∨ op = 9 ∨ op = 10 ∨ op = 11 ∨ op = 12 ∨ op = 13 ∨ op = 14 ∨ op = 15 ∨ op = 16 ∨ op = 17 := by omega
  clear h0 h1
  rcases hc with rfl | rfl | rfl | rfl | rfl | rfl | rfl | rfl | rfl | rfl | rfl | rfl | rfl | rfl | rfl | rfl | rfl | rfl
  all_goals
    go_enter Tryz.func56, Tryz.ntmps56
    go_wp2
    go_ret
    exact ⟨rfl, rfl⟩
end Go.Proofs.YtmdmbimfdpngaaaGreatDoor

/-! A set of places, as a map that the call makes. -/
namespace Go.Proofs.YtmdmbimfdpngaaaGreatDoor
set_option linter.unusedSimpArgs false
set_option linter.unusedVariables false
open Go.RowKit Ga
set_option maxRecDepth 100000

theorem laidOutP : laidOutB Tryz.prog = true := by kernel_rfl
theorem place_law : Maps.Keyed Tryz.prog 121 := Maps.Keyed.of_law (deep_law_laid laidOutP (m := 3) (by decide) (of_decide_eq_true (by kernel_rfl)) (by kernel_rfl) (by kernel_rfl))
abbrev Pl := Int × Int × Int
def plV (x : Pl) : Value := .agg #[.int .i64 x.1, .int .i64 x.2.1, .int .i64 x.2.2]
theorem plV_inj {x y : Pl} (h : plV x = plV y) : x = y := by
  obtain ⟨a, b, c⟩ := x
  obtain ⟨d, e, f⟩ := y
  unfold plV at h
  simp at h
  obtain ⟨rfl, rfl, rfl⟩ := h
  rfl
def small (n : Int) : Prop := -9223372036854775808 ≤ n ∧ n ≤ 9223372036854775807
theorem keyTypeP : Tryz.prog.keyType 121 = true := by kernel_rfl
theorem cellsP : Tryz.prog.cellsOf 121 = 3 := by kernel_rfl
theorem cellsI1 : Tryz.prog.cellsOf 3 = 1 := by kernel_rfl
theorem sizeP : Tryz.prog.types.size ≠ 0 := of_decide_eq_true (by kernel_rfl)
theorem keyP (x : Pl) (h1 : small x.1) (h2 : small x.2.1) (h3 : small x.2.2) : ∃ kl, keyOf Tryz.prog 121 (plV x) = some kl := by
  have w1 := WalkArith.wf_i64 h1
  have w2 := WalkArith.wf_i64 h2
  have w3 := WalkArith.wf_i64 h3
  unfold plV keyOf
  obtain ⟨m, hm⟩ := Nat.exists_eq_succ_of_ne_zero sizeP
  simp only [Tryz.underlying121, keyTypeP, hm]
  simp [Value.formed, Tryz.underlying121, cellsP, Program.keyLits, Value.cells, Tryz.underlying3, cellsI1, w1, w2, w3]

/-- Block b is the set of the places M. -/
def SetAt (W : World) (b n : Nat) (M : List Pl) : Prop := ∃ D : DataW Unit, W.ownsMap Tryz.prog 121 (plainElem Tryz.prog 4) b n D ∧ Maps.IsMap D ∧ ∀ x kl, keyOf Tryz.prog 121 (plV x) = some kl → D.atKey kl (.lit (.bool false)) = .lit (.bool (decide (x ∈ M)))
theorem SetAt.made (W : World) : SetAt (W.alloc (.map #[] 0)) W.heap.size 0 [] :=
  ⟨_, World.ownsMap_made _ _ _ _, ⟨_, rfl⟩, fun x kl _ => by simp [WideAt.atKey_none]⟩
theorem SetAt.same {W W' : World} {b n : Nat} {M : List Pl} (h : SetAt W b n M) (hb : W'.heap[b]? = W.heap[b]?) : SetAt W' b n M := by
  obtain ⟨D, ⟨es, c, h1, h2⟩, h3⟩ := h
  exact ⟨D, ⟨es, c, by rw [hb]; exact h1, h2⟩, h3⟩
theorem zeroBool (w : World) : (zeroValue 4).run Tryz.prog w = .ok (.bool false) w := by kernel_rfl
theorem plainBool_inv {v : Value} {b : Bool} {ps : List MemPlace} (h : plainElem (H := Unit) Tryz.prog 4 v = some (.lit (.bool b), ps)) : v = .bool b := by
  unfold plainElem at h
  rw [Tryz.underlying4] at h
  cases v <;> simp at h
  rw [h.1]
theorem SetAt.look {W : World} {b n : Nat} {M : List Pl} (h : SetAt W b n M) (x : Pl) (h1 : small x.1) (h2 : small x.2.1) (h3 : small x.2.2) : (Instr.lookup 119 (.map (some b)) (plV x) false).run Tryz.prog W = .ok (.bool (decide (x ∈ M))) W := by
  obtain ⟨D, ho, _, hD⟩ := h
  obtain ⟨kl, hk⟩ := keyP x h1 h2 h3
  obtain ⟨v, ps, hr, hv⟩ := World.ownsMap.lookup ho place_law Tryz.underlying119 (zeroBool W) (zd := .lit (.bool false)) (zp := []) (plainElem_bool Tryz.underlying4 false) hk
  rw [hD x kl hk] at hv
  rw [hr, plainBool_inv hv]
theorem SetAt.add {W : World} {b n : Nat} {M : List Pl} (h : SetAt W b n M) (hn : n < maxLen) (x : Pl) (h1 : small x.1) (h2 : small x.2.1) (h3 : small x.2.2) :
    ∃ W', (Instr.mapUpdate 119 (.map (some b)) (plV x) (.bool true)).run Tryz.prog W = .ok () W' ∧ SetAt W' b (n + 1) (x :: M) ∧ W.grownBy W' (some b) := by
  obtain ⟨D, ho, hm, hD⟩ := h
  obtain ⟨kl, hk⟩ := keyP x h1 h2 h3
  obtain ⟨W', hr, ho', hg⟩ := World.ownsMap.update ho place_law Tryz.underlying119 hn hk (plainElem_bool Tryz.underlying4 true)
  refine ⟨W', hr, ⟨_, ho', ?_, fun y ky hy => ?_⟩, hg⟩
  · obtain ⟨es, rfl⟩ := hm
    exact ⟨_, rfl⟩
  · by_cases hyx : y = x
    · subst hyx
      rw [hk] at hy
      cases hy
      rw [Maps.atKey_put_same hm (place_law.key hk)]
      simp
    · have hne : ky ≠ kl := fun e => hyx (plV_inj (place_law.inj (e ▸ hy) hk))
      rw [Maps.atKey_put_other hne, hD y ky hy]
      simp [hyx]
theorem wpList_setAdd {w0 W : World} {ops : Array Oper} {rest : List Oper} {o : Oper} {a : Act} {Q : Exit → Act → World → Prop} {b n : Nat} {M : List Pl}
    (hg : o.guard = none) (m k v : Operand) (hop : o.op = Op.mapUpdate 119 m k v) (hgr : Grew w0 W) (hb : w0.heap.size ≤ b)
    (hm : a.eval m = .map (some b)) (h : SetAt W b n M) (hn : n < maxLen) (x : Pl) (h1 : small x.1) (h2 : small x.2.1) (h3 : small x.2.2) (hk : a.eval k = plV x) (hv : a.eval v = .bool true)
    (hK : ∀ W', SetAt W' b (n + 1) (x :: M) → Grew w0 W' → (∀ q, q < W.heap.size → q ≠ b → W'.heap[q]? = W.heap[q]?) → W.heap.size ≤ W'.heap.size → wpList Tryz.prog ops Q rest (a.put o.dst undef) W') : wpList Tryz.prog ops Q (o :: rest) a W := by
  refine wpList_plain hg fun K' hK' => ?_
  obtain ⟨W', hrun, r1, r2⟩ := h.add hn x h1 h2 h3
  unfold Oper.wp
  simp [execOp, hop, hm, hk, hv, hrun, Result.andThen]
  exact hK' _ _ (hK W' r1 (hgr.grown r2 (fun q hq => by cases hq; exact hb)) (fun q hq hne => r2.block q hq (by simpa using hne)) r2.size)
end Go.Proofs.YtmdmbimfdpngaaaGreatDoor
