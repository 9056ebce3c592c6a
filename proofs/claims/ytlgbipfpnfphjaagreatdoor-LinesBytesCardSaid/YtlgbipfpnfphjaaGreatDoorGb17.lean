import Derived.Test.YtlgbipfpnfphjaaGreatDoorGb13
import Derived.Test.YtlgbipfpnfphjaaGreatDoorGb4
import Derived.Test.YtlgbipfpnfphjaaGreatDoorGb2
import Derived.Test.YtlgbipfpnfphjaaGreatDoorGb5
/-! code.Put, forebayref01.Put and Get, forebayref04.Put. -/
namespace Go.Proofs.YtlgbipfpnfphjaaGreatDoor
set_option linter.unusedSimpArgs false
set_option linter.unusedVariables false
open Go.RowKit Ga
set_option maxRecDepth 100000

/-- A program's numbers. -/
def nums (l : List Val) : List Int := l.flatMap fun i => [i.1, i.2]
def putI (l : List Val) : List UInt8 := Oc.be l.length ++ Oc.bes (nums l)
theorem nums_succ (l : List Val) (k : Nat) (h : k < l.length) : nums (l.take (k + 1)) = nums (l.take k) ++ [l[k].1, l[k].2] := by
  unfold nums
  rw [List.take_succ_eq_append_getElem h, List.flatMap_append]
  simp
theorem nums_len : ∀ (l : List Val), (nums l).length = l.length * 2
  | [] => rfl
  | i :: l => by have := nums_len l; unfold nums at *; simp at *; omega
theorem right_fitsN {x y : Int} (h : Co.rightI (x, y) = true) : Oc.fitsN x = true ∧ Oc.fitsN y = true := by
  obtain ⟨h0, h1, _, _⟩ := Co.right_parts h
  have := Co.right_arg h
  simp only at *
  unfold Oc.fitsN
  simp only [Bool.and_eq_true, decide_eq_true_eq]
  omega

/-! ### the document's -/
theorem refPut01_any (n : Int) (h : Oc.fitsN n = true) (w : World) : Calls Tryz.prog 80 #[.int .i64 n] w (Gives (str (Oc.be n)) w) := by
  unfold Oc.fitsN at h
  simp only [Bool.and_eq_true, decide_eq_true_eq] at h
  obtain ⟨h0, h1⟩ := h
  have key : ∀ u : Int, n % 4294967296 = u → n % 256 = u % 256 → (convert 86 9 (.slice (some ⟨w.heap.size, 0, none⟩) 4 4)).run Tryz.prog (w.alloc (.cells #[.int .u8 (u / 16777216), .int .u8 (u / 65536 % 256), .int .u8 (u / 256 % 256), .int .u8 (u % 256)] 5)) = .ok (.string ⟨(Oc.be n).toArray⟩) (w.alloc (.cells #[.int .u8 (u / 16777216), .int .u8 (u / 65536 % 256), .int .u8 (u / 256 % 256), .int .u8 (u % 256)] 5)) := by
    intro u hu hu2
    have hc := be_new w n 5 w.heap.size #[.int .u8 (u / 16777216), .int .u8 (u / 65536 % 256), .int .u8 (u / 256 % 256), .int .u8 (u % 256)] rfl (by rw [hu, hu2])
    refine run_convert_bytes_back _ _ _ 5 ⟨w.heap.size, 0, none⟩ 4 (Oc.be n) Tryz.underlying86 Tryz.underlying5 Tryz.underlying9 ?_
    intro j hj
    rw [addr_add_zero]
    refine hc j _ ?_
    have := flat_get encB_len (Oc.be n) j (Oc.be n)[j] (List.getElem?_eq_getElem hj) 0 (.int .u8 (Oc.be n)[j].toNat) rfl
    simpa using this
  by_cases hneg : n < 0
  · have hk := key (n + 4294967296) (by omega) (by omega)
    clear key
    go_enter Tryz.func80, Tryz.ntmps80
    go_wp2
    go_ret
    refine ⟨rfl, ?_⟩
    repeat (first | with_reducible exact Grew.refl _ | apply Grew.more | apply Grew.alloc | apply Grew.drew | apply Grew.drewN)
  · have hk := key n (by omega) rfl
    clear key
    go_enter Tryz.func80, Tryz.ntmps80
    go_wp2
    go_ret
    refine ⟨rfl, ?_⟩
    repeat (first | with_reducible exact Grew.refl _ | apply Grew.more | apply Grew.alloc | apply Grew.drew | apply Grew.drewN)

theorem putI_succ (l : List Val) (k : Nat) (h : k < l.length) : Oc.bes (nums (l.take (k + 1))) = Oc.bes (nums (l.take k)) ++ Oc.be l[k].1 ++ Oc.be l[k].2 := by
  rw [nums_succ l k h, Oc.bes_append, List.append_assoc]
  have : Oc.bes [l[k].1, l[k].2] = Oc.be l[k].1 ++ Oc.be l[k].2 := by unfold Oc.bes; simp
  rw [this]

set_option maxHeartbeats 4000000 in
theorem refPut04_any (v : Value) (l : List Val) (w : World) (hv : ValsAt w v l) (hf : Co.fitsI l = true) : Calls Tryz.prog 82 #[v] w (Gives (str (putI l)) w) := by
  obtain ⟨a, cap, rfl, hm, hl⟩ := hv.open2
  obtain ⟨l24, hrl⟩ := Co.fits_parts hf
  have HR := Lib.hid hrl
  clear hv hf hrl
  go_enter Tryz.func82, Tryz.ntmps82
  go_wp2_with (go_at_call 80; refine (refPut01_any _ (by simp [Oc.fitsN]; omega) _).mono ?_; rintro e w1 ⟨rfl, R3, n3, rfl⟩)
  go_loopw [3, 4] (fun t i wr => ∃ (k : Nat), k ≤ l.length ∧ i = .int .i64 k ∧ t = str (Oc.be l.length ++ Oc.bes (nums (l.take k))) ∧ Grew w wr) (fun _ i _ => l.length - (intOf i).toNat)
  case atStart => exact ⟨0, Nat.zero_le _, rfl, by simp [Oc.bes, nums], by repeat (first | with_reducible exact Grew.refl _ | apply Grew.more | apply Grew.alloc | apply Grew.drew | apply Grew.drewN)⟩
  case round =>
    obtain ⟨k, hk, rfl, rfl, R, n, rfl⟩ := hrel
    by_cases hlt : k < l.length
    · obtain ⟨b, off, rfl, hb, hx, hy⟩ := hl k hlt
      have hns := putI_succ l k hlt
      have hri := HR.out l[k] (List.getElem_mem hlt)
      have hnl := nums_len (l.take k)
      rw [List.length_take_of_le hk] at hnl
      have hTl : (Oc.be l.length ++ Oc.bes (nums (l.take k))).length ≤ 1000 := by rw [List.length_append, Oc.be_len, Oc.bes_len, hnl]; omega
      generalize l[k] = xy at *
      obtain ⟨x, y⟩ := xy
      obtain ⟨fx, fy⟩ := right_fitsN hri
      simp only at hx hy hns
      have hns2 : Oc.be l.length ++ Oc.bes (nums (l.take (k + 1))) = Oc.be l.length ++ Oc.bes (nums (l.take k)) ++ Oc.be x ++ Oc.be y := by rw [hns]; simp only [List.append_assoc]
      have lx := Oc.be_len x
      have ly := Oc.be_len y
      generalize Oc.be l.length ++ Oc.bes (nums (l.take k)) = T at *
      have hlx : (Oc.be x).length ≤ 4 := by omega
      have hly : (Oc.be y).length ≤ 4 := by omega
      have HNS := Lib.hid hns2
      clear hl hns hns2 hnl hri lx ly
      go_wp2_with fail
      refine wp_region_seq 15 Tryz.mixed (by kernel_rfl) (by kernel_rfl) ?_
      iterate 15
        apply Seq.val
        focus
          rintro w1 u ⟨R1, n1, rfl⟩ hF
          simp [moreFacts, Fact.more, Oper.deps, Region.binds, List.filter_cons, World.more_drew] at hF
          simp [putFacts, Oper.deps, Region.binds, List.filter_cons, Region.dstOf, Fact.at, Act.put, World.more_drew]
          go_wp2_with (first
            | (go_at_call 80; refine (refPut01_any _ (by assumption) _).mono ?_; rintro e w1 ⟨rfl, R3, n3, rfl⟩)
            )
          exact ⟨by repeat (first | with_reducible exact Grew.refl _ | apply Grew.more | apply Grew.alloc | apply Grew.drew | apply Grew.drewN), rfl, _, _, rfl, rfl, rfl⟩
      rintro u w1 ⟨R1, n1, rfl⟩ hF
      clear hF
      simp [putFacts, Region.dstOf, Fact.at, Act.put, List.range_succ, World.more_drew]
      go_wp2
      go_roundw
      case rel => exact ⟨k + 1, by omega, by go_num, by rw [HNS.out]; exact congrArg Value.string (by rw [str_cat, str_cat]), by repeat (first | with_reducible exact Grew.refl _ | apply Grew.more | apply Grew.alloc | apply Grew.drew | apply Grew.drewN)⟩
      case measure => first | (simp [intOf]; done) | (simp [intOf]; omega)
    · obtain rfl : k = l.length := by omega
      rw [List.take_length]
      clear hl
      go_wp2
      go_ret
      refine ⟨rfl, ?_⟩
      repeat (first | with_reducible exact Grew.refl _ | apply Grew.more | apply Grew.alloc | apply Grew.drew | apply Grew.drewN)
end Go.Proofs.YtlgbipfpnfphjaaGreatDoor

/-! octet.Writer: what a write leaves as it was. -/
namespace Go.Proofs.YtlgbipfpnfphjaaGreatDoor
set_option linter.unusedSimpArgs false
set_option linter.unusedVariables false
open Go.RowKit Ga
set_option maxRecDepth 100000

/-- all blocks stand as they stood but the writer's own -/
def KeptW (base B : Nat) (W W' : World) : Prop := W.heap.size ≤ W'.heap.size ∧ ∀ q, q < W.heap.size → q ≠ B → Safe base q W → W'.heap[q]? = W.heap[q]?
theorem KeptW.refl (base B : Nat) (W : World) : KeptW base B W W := ⟨Nat.le_refl _, fun _ _ _ _ => rfl⟩
theorem KeptW.ofGrew {base B : Nat} {W W' : World} (g : Grew W W') : KeptW base B W W' := ⟨g.below.size, fun q hq _ _ => g.below.block q hq⟩
theorem KeptW.trans {base B : Nat} {a b c : World} (h : KeptW base B a b) (k : KeptW base B b c) : KeptW base B a c :=
  ⟨Nat.le_trans h.1 k.1, fun q hq hn hs => by
    have h1 := h.2 q hq hn hs
    rw [k.2 q (Nat.lt_of_lt_of_le hq h.1) hn (hs.sameBlock h1), h1]⟩
theorem KeptW.step {base B : Nat} {wr W9 : World} {o : Obj} {vk v9 : Value} {ys : List UInt8} (hw : WriterAt base B wr vk ys) (hk : ∀ q, q < (wr.alloc o).heap.size → vk.ownBlock ≠ some q → W9.heap[q]? = (wr.alloc o).heap[q]?) : KeptW base B wr (W9.setCell ⟨B, 0, none⟩ v9) := by
  have hat : ∀ q, q < wr.heap.size → q ≠ B → Safe base q wr → (W9.setCell ⟨B, 0, none⟩ v9).heap[q]? = wr.heap[q]? := fun q hq hn hs => by
    rw [heap_set_other (fun e => hn e.symm), hk q (by rw [World.size_alloc]; omega) (hs.own hw.2.2)]
    have : wr.heap[q]? = some wr.heap[q] := Array.getElem?_eq_getElem hq
    rw [this]
    exact heap_alloc_old this _
  refine ⟨?_, hat⟩
  rw [World.size_setCell]
  have hne : vk.ownBlock ≠ some wr.heap.size := fun e => by
    have := (World.ownsRow.lt hw.2.2 _ e).2
    omega
  have h1 := hk wr.heap.size (by rw [World.size_alloc]; omega) hne
  rw [heap_new_at wr o _ rfl] at h1
  have := (Array.getElem?_eq_some_iff.1 h1).1
  omega
set_option maxHeartbeats 4000000 in
theorem writerNum_keep (w0 W : World) (B : Nat) (vb : Value) (bs : List UInt8) (v : Value) (l : List Int) (hw : WriterAt w0.heap.size B W vb bs) (hg : Grew w0 W) (hv : RowsAt 1 encN W v l)
    (hs : ∀ b off, (∃ n c, v = .slice (some ⟨b, off, none⟩) n c) → Safe w0.heap.size b W ∧ b ≠ B) (hok : l.all Oc.fitsN = true) (hlen : bs.length + l.length * 4 ≤ 100000) :
    Calls Tryz.prog 75 #[.pointer (some ⟨B, 0, none⟩), v] W fun e W' => e = .returned (.int .i64 0) ∧ Grew w0 W' ∧ KeptW w0.heap.size B W W' ∧ ∃ vb', WriterAt w0.heap.size B W' vb' (bs ++ Oc.bes l) := by
  obtain ⟨a, cap, rfl, hm, hl⟩ := hv.open1
  have HV := Lib.hid hv
  have HS := Lib.hid hs
  have HW := Lib.hid hw
  have HOK := Lib.hid hok
  clear hv hs hw hok
  go_enter Tryz.func75, Tryz.ntmps75
  go_wp2
  go_loop [14] (fun i => ∃ (k : Nat), k ≤ l.length ∧ i = .int .i64 k) (fun i => l.length - (intOf i).toNat)
  case atStart => exact ⟨0, Nat.zero_le _, rfl⟩
  case round =>
    obtain ⟨k, hk, rfl⟩ := hrel
    by_cases hlt : k < l.length
    · obtain ⟨b, off, rfl, hb, hx⟩ := hl k hlt
      have hf : Oc.fitsN l[k] = true := List.all_eq_true.1 HOK.out _ (List.getElem_mem hlt)
      generalize l[k] = x at *
      have HF := Lib.hid hf
      clear hl hf
      go_wp2_with (go_at_call 119; refine (octFits_any _ _).mono ?_; rintro e w1 ⟨rfl, rfl⟩; rw [HF.out])
      go_round
      case rel => exact ⟨k + 1, by omega, by go_num⟩
      case measure => first | (simp [intOf]; done) | (simp [intOf]; omega)
    · obtain rfl : k = l.length := by omega
      clear hl
      go_wp2
      go_loopw [24] (fun i wr => ∃ (k : Nat) (vk : Value), k ≤ l.length ∧ i = .int .i64 k ∧ WriterAt w0.heap.size B wr vk (bs ++ Oc.bes (l.take k)) ∧ Grew w0 wr ∧ RowsAt 1 encN wr (.slice a l.length cap) l ∧ (∀ b off, (∃ n c, (.slice a l.length cap : Value) = .slice (some ⟨b, off, none⟩) n c) → Safe w0.heap.size b wr ∧ b ≠ B) ∧ Hid (KeptW w0.heap.size B W wr))
        (fun i _ => l.length - (intOf i).toNat)
      case atStart => exact ⟨0, vb, Nat.zero_le _, rfl, by simpa [Oc.bes] using HW.out, hg, HV.out, HS.out, Lib.hid (KeptW.refl _ _ _)⟩
      case round =>
        obtain ⟨k, vk, hk, rfl, hwk, hgk, hrk, hsk, HKW⟩ := hrel
        by_cases hlt : k < l.length
        · obtain ⟨a', cap', hveq, -, hl⟩ := hrk.open1
          cases hveq
          obtain ⟨b, off, rfl, hb, hx⟩ := hl k hlt
          have hfx : Oc.fitsN l[k] = true := List.all_eq_true.1 HOK.out _ (List.getElem_mem hlt)
          have hbs := Oc.bes_succ l k hlt
          have hbl := Oc.bes_len (l.take k)
          rw [List.length_take_of_le hk] at hbl
          generalize l[k] = x at *
          unfold Oc.fitsN at hfx
          simp only [Bool.and_eq_true, decide_eq_true_eq] at hfx
          obtain ⟨x0, x1⟩ := hfx
          have HBS := Lib.hid hbs
          have HBL := Lib.hid hbl
          clear hbs hbl
          have hb' := hb
          have HWK := Lib.hid hwk
          have HRK := Lib.hid hrk
          have HSK := Lib.hid hsk
          have hcB := cell_of_heap (o := 0) hwk.2.1
          have hfB := frozen_of_heap (o := 0) hwk.2.1
          simp at hcB
          have HG := Lib.hid hgk
          clear hl hwk hrk hsk hgk hg
          go_wp2_with (at_builtin; refine wpList_ownG (w0 := w0) rfl (.tmp 35) (.tmp 47) 86 _ _ _ _ (Oc.be x) rfl Tryz.underlying86 infoU8 rfl (by decide) encB_len encB_one rfl (HWK.out.2.2.grew (by repeat (first | with_reducible exact Grew.refl _ | apply Grew.more | apply Grew.alloc | apply Grew.drew | apply Grew.drewN))) (HG.out.alloc _) rfl (be_new _ _ _ _ _ rfl rfl) (by rw [List.length_append, HBL.out, Oc.be_len]; omega) (by decide) ?_; intro v9 R9 n9 hown9 hkeep9; (have hB9 : (w0.more R9 n9).heap[B]? = some (.cells #[vk] 117) := by rw [hkeep9 B (by have := (Array.getElem?_eq_some_iff.1 HWK.out.2.1).1; simp [go_sem]; omega) (HWK.out.safe.own HWK.out.2.2)]; exact heap_alloc_old HWK.out.2.1 _); (have hcB9 := cell_of_heap (o := 0) hB9); (have hfB9 := frozen_of_heap (o := 0) hB9); simp at hcB9; obtain ⟨b9, N9, c9, rfl⟩ := own_some hown9 (fun h => by have h2 := congrArg List.length h; rw [List.length_append, Oc.be_len] at h2; simp at h2); (have HO9 := Lib.hid hown9); (have HK9 := Lib.hid hkeep9); (have HB9 := Lib.hid hB9); clear hown9 hkeep9 hB9)
          have hBb : B ≠ b := fun e => (HSK.out b off ⟨_, _, rfl⟩).2 e.symm
          have hsb := (HSK.out b off ⟨_, _, rfl⟩).1
          have hkb : (w0.more R9 n9).heap[b]? = wr.heap[b]? := by
            have hlt : b < wr.heap.size := hb'
            rw [HK9.out b (by simp [go_sem]; omega) (hsb.own HWK.out.2.2)]
            have : wr.heap[b]? = some wr.heap[b] := Array.getElem?_eq_getElem hlt
            rw [this]
            exact heap_alloc_old this _
          have hfin : ∀ v9, ((w0.more R9 n9).setCell ⟨B, 0, none⟩ v9).heap[b]? = wr.heap[b]? := fun v9 => by rw [heap_set_other hBb, hkb]
          have hsB : Safe w0.heap.size B (w0.more R9 n9) := .inr ⟨_, _, _, HB9.out, by decide⟩
          have HFIN := Lib.hid hfin
          clear hfin hkb
          go_roundw
          case rel =>
            refine ⟨k + 1, _, by omega, by go_num, ⟨HWK.out.1, heap_set_self HB9.out, ?_⟩, Grew.setBehind ⟨R9, n9, rfl⟩ HWK.out.1 _, RowsAt.sameBlock HRK.out ?_, ?_, Lib.hid (HKW.out.trans (KeptW.step HWK.out HK9.out))⟩
            · rw [HBS.out, ← List.append_assoc]
              exact OwnAt.sameBlock HO9.out fun q hq => heap_set_other (fun e => by subst e; exact hsB.own HO9.out hq)
            · rintro b2 off2 ⟨n2, c2, e⟩
              cases e; exact HFIN.out _
            · rintro b2 off2 ⟨n2, c2, e⟩
              cases e
              exact ⟨hsb.sameBlock (HFIN.out _), fun e => hBb e.symm⟩
          case measure => first | (simp [intOf]; done) | (simp [intOf]; omega)
        · obtain rfl : k = l.length := by omega
          rw [List.take_length] at hwk
          have HWK := Lib.hid hwk
          clear hwk hrk hsk
          go_wp2
          go_ret
          exact ⟨rfl, hgk, HKW.out, vk, HWK.out⟩
/-- Num of numbers that stand in a slice just made. -/
theorem writerNum_freshK (w0 W : World) (B : Nat) (vb : Value) (bs : List UInt8) (l : List Int) (c : List Value) (b n cap : Nat) (hw : WriterAt w0.heap.size B W vb bs) (hg : Grew w0 W) (hc : c = l.map (Value.int .i64)) (hb : b = W.heap.size) (hn : n = l.length)
    (hok : l.all Oc.fitsN = true) (hlen : bs.length + l.length * 4 ≤ 100000) :
    Calls Tryz.prog 75 #[.pointer (some ⟨B, 0, none⟩), .slice (some ⟨b, 0, none⟩) n cap] (W.alloc (.cells c.toArray 3)) fun e W' => e = .returned (.int .i64 0) ∧ Grew w0 W' ∧ KeptW w0.heap.size B W W' ∧ ∃ vb', WriterAt w0.heap.size B W' vb' (bs ++ Oc.bes l) := by
  have hB := (Array.getElem?_eq_some_iff.1 hw.2.1).1
  refine (writerNum_keep w0 _ B vb bs _ l (hw.grew ((Grew.refl W).alloc _)) (hg.alloc _) ?_ ?_ hok hlen).mono fun e W' ⟨h1, h2, h3, h4⟩ => ⟨h1, h2, (KeptW.ofGrew ((Grew.refl W).alloc _)).trans h3, h4⟩
  · refine RowsAt.fresh hn (by unfold maxLen; omega) encN_len hb ?_
    rw [hc]
    clear hc hok hlen hn
    induction l with
    | nil => rfl
    | cons x l ih => rw [List.map_cons, List.flatMap_cons, ih]; rfl
  · rintro b2 off ⟨n2, c2, e⟩
    cases e
    subst hb
    exact ⟨.inr ⟨_, _, _, heap_new_at W _ _ rfl, by decide⟩, by omega⟩
theorem rows_lt {α : Type} {k : Nat} {enc : α → List Value} {w : World} {b off n c : Nat} {l : List α} (h : RowsAt (k + 1) enc w (.slice (some ⟨b, off, none⟩) n c) l) (hn : 0 < l.length) (he : ∀ x, (enc x).length = k + 1 := by intro _; rfl) : b < w.heap.size := by
  obtain ⟨a, cap, e, hm, hx⟩ := h
  obtain ⟨b', off', e2, hc⟩ := hx (by intro e; subst e; simp at hn)
  cases e
  cases e2
  have h0 : 0 < (enc l[0]).length := by rw [he]; omega
  exact World.block_lt_of_cell? w _ (hc 0 l[0] (List.getElem?_eq_getElem hn) 0 _ (List.getElem?_eq_getElem h0))
set_option maxHeartbeats 4000000 in
theorem codePut_keep (w0 W : World) (B : Nat) (vb : Value) (bs : List UInt8) (v : Value) (l : List Val) (hw : WriterAt w0.heap.size B W vb bs) (hg : Grew w0 W) (hv : ValsAt W v l) (hs : ∀ b off, (∃ n c, v = .slice (some ⟨b, off, none⟩) n c) → Safe w0.heap.size b W ∧ b ≠ B) (hf : Co.fitsI l = true) (hlen : bs.length ≤ 10000) :
    Calls Tryz.prog 120 #[.pointer (some ⟨B, 0, none⟩), v] W fun e W' => e = .returned (.int .i64 0) ∧ Grew w0 W' ∧ KeptW w0.heap.size B W W' ∧ ∃ vb', WriterAt w0.heap.size B W' vb' (bs ++ putI l) := by
  obtain ⟨a, cap, rfl, hm, -⟩ := hv.open2
  obtain ⟨l24, hrl⟩ := Co.fits_parts hf
  have HV := Lib.hid hv
  have HSF := Lib.hid hs
  have HF := Lib.hid hf
  have HR := Lib.hid hrl
  have HW := Lib.hid hw
  have HG := Lib.hid hg
  clear hv hs hf hrl hw hg
  go_enter Tryz.func120, Tryz.ntmps120
  go_wp2_with (first
    | (go_at_call 116; refine (codeFits_any _ l _ (HV.out.grew (by repeat (first | with_reducible exact Grew.refl _ | apply Grew.more | apply Grew.alloc | apply Grew.drew | apply Grew.drewN)))).mono ?_; rintro e w1 ⟨rfl, R3, n3, rfl⟩; rw [HF.out])
    | (go_at_call 75; refine (writerNum_freshK w0 _ B vb bs [(l.length : Int)] [.int .i64 l.length] _ _ _ (HW.out.grew (by repeat (first | with_reducible exact Grew.refl _ | apply Grew.more | apply Grew.alloc | apply Grew.drew | apply Grew.drewN))) (HG.out.trans (by repeat (first | with_reducible exact Grew.refl _ | apply Grew.more | apply Grew.alloc | apply Grew.drew | apply Grew.drewN))) rfl (by simp [go_sem]) rfl (by simp [Oc.fitsN]; omega) (by simp; omega)).mono ?_; rintro e w1 ⟨rfl, hg1, hk1, vb1, hw1⟩; (have HW1 := Lib.hid hw1); (have HG1 := Lib.hid hg1); (have HK1 := Lib.hid ((KeptW.ofGrew (W := W) (by repeat (first | with_reducible exact Grew.refl _ | apply Grew.more | apply Grew.alloc | apply Grew.drew | apply Grew.drewN))).trans hk1)); clear hw1 hg1 hk1)
    )
  go_loopw [21] (fun i wr => ∃ (k : Nat) (vk : Value), k ≤ l.length ∧ i = .int .i64 k ∧ WriterAt w0.heap.size B wr vk (bs ++ Oc.be l.length ++ Oc.bes (nums (l.take k))) ∧ Hid (Grew w0 wr) ∧ Hid (KeptW w0.heap.size B W wr)) (fun i _ => l.length - (intOf i).toNat)
  case atStart => exact ⟨0, vb1, Nat.zero_le _, rfl, by have := HW1.out; simpa [Oc.bes, nums] using this, HG1, HK1⟩
  case round =>
    obtain ⟨k, vk, hk, rfl, hwk, HGR, HKR⟩ := hrel
    have HWK := Lib.hid hwk
    clear hwk
    by_cases hlt : k < l.length
    · have hrk : ValsAt wr (.slice a l.length cap) l := RowsAt.sameBlock HV.out (fun b off h => HKR.out.2 b (by obtain ⟨n1, c1, e1⟩ := h; cases e1; exact rows_lt HV.out (by omega)) (HSF.out b off h).2 (HSF.out b off h).1)
      obtain ⟨a', cap', e', -, hl⟩ := hrk.open2
      cases e'
      obtain ⟨b, off, rfl, hb, hx, hy⟩ := hl k hlt
      have hns := nums_succ l k hlt
      have hri := HR.out l[k] (List.getElem_mem hlt)
      have hnl := nums_len (l.take k)
      rw [List.length_take_of_le hk] at hnl
      generalize l[k] = xy at *
      obtain ⟨x, y⟩ := xy
      obtain ⟨fx, fy⟩ := right_fitsN hri
      simp only at hx hy hns
      have HNS := Lib.hid hns
      have HNL := Lib.hid hnl
      have HFX := Lib.hid fx
      have HFY := Lib.hid fy
      clear hl hns hnl fx fy hri hrk
      go_wp2_with (go_at_call 75; refine (writerNum_freshK w0 _ B vk _ [x, y] [.int .i64 x, .int .i64 y] _ _ _ (HWK.out.grew (by repeat (first | with_reducible exact Grew.refl _ | apply Grew.more | apply Grew.alloc | apply Grew.drew | apply Grew.drewN))) (HGR.out.trans (by repeat (first | with_reducible exact Grew.refl _ | apply Grew.more | apply Grew.alloc | apply Grew.drew | apply Grew.drewN))) rfl (by simp [go_sem]) rfl (by simp [HFX.out, HFY.out]) (by rw [List.length_append, List.length_append, Oc.be_len, Oc.bes_len, HNL.out]; simp; omega)).mono ?_; rintro e w1 ⟨rfl, hg2, hk2, vb2, hw2⟩; (have HW2 := Lib.hid hw2); (have HG2 := Lib.hid hg2); (have HK2 := Lib.hid hk2); clear hw2 hg2 hk2)
      go_roundw
      case rel => exact ⟨k + 1, vb2, by omega, by go_num, by rw [HNS.out, Oc.bes_append, ← List.append_assoc]; exact HW2.out, HG2, Lib.hid (HKR.out.trans ((KeptW.ofGrew (by repeat (first | with_reducible exact Grew.refl _ | apply Grew.more | apply Grew.alloc | apply Grew.drew | apply Grew.drewN))).trans HK2.out))⟩
      case measure => first | (simp [intOf]; done) | (simp [intOf]; omega)
    · obtain rfl : k = l.length := by omega
      go_wp2
      go_ret
      refine ⟨rfl, HGR.out, HKR.out, vk, ?_⟩
      have := HWK.out
      rw [List.take_length, List.append_assoc] at this
      exact this

end Go.Proofs.YtlgbipfpnfphjaaGreatDoor

/-! code.Get and forebayref04.Get. -/
namespace Go.Proofs.YtlgbipfpnfphjaaGreatDoor
set_option linter.unusedSimpArgs false
set_option linter.unusedVariables false
open Go.RowKit Ga
set_option maxRecDepth 100000

def numR (s : List UInt8) : Int × Int × List UInt8 := within s (-2147483648) 2147483647
/-- The rounds of Get: the program, the error, what is left. -/
def readL : Nat → List UInt8 → List Val → List Val × Int × List UInt8
  | 0, s, acc => (acc, 0, s)
  | n + 1, s, acc =>
    if (within s 0 17).2.1 ≠ 0 then ([], (within s 0 17).2.1, (within s 0 17).2.2)
    else if (numR (within s 0 17).2.2).2.1 ≠ 0 then ([], (numR (within s 0 17).2.2).2.1, (numR (within s 0 17).2.2).2.2)
    else readL n (numR (within s 0 17).2.2).2.2 (acc ++ [((within s 0 17).1, (numR (within s 0 17).2.2).1)])
def getL (s : List UInt8) : List Val × Int × List UInt8 :=
  if (within s 0 24).2.1 ≠ 0 then ([], (within s 0 24).2.1, (within s 0 24).2.2)
  else if (readL (within s 0 24).1.toNat (within s 0 24).2.2 []).2.1 ≠ 0 then readL (within s 0 24).1.toNat (within s 0 24).2.2 []
  else if Co.fitsI (readL (within s 0 24).1.toNat (within s 0 24).2.2 []).1 then readL (within s 0 24).1.toNat (within s 0 24).2.2 []
  else ([], 4, (readL (within s 0 24).1.toNat (within s 0 24).2.2 []).2.2)

theorem within_len (s : List UInt8) (a b : Int) : (within s a b).2.2.length ≤ s.length := by
  unfold within; split
  · exact Nat.le_refl _
  · split
    · exact Nat.le_refl _
    · simp
theorem within_ok {s : List UInt8} {a b : Int} (h : (within s a b).2.1 = 0) : a ≤ (within s a b).1 ∧ (within s a b).1 ≤ b := by
  unfold within at *
  by_cases h4 : s.length < 4
  · rw [if_pos h4] at h; simp at h
  · rw [if_neg h4] at h ⊢
    by_cases hr : Oc.num s < a ∨ b < Oc.num s
    · rw [if_pos hr] at h; simp at h
    · rw [if_neg hr]; simp only; omega
theorem getL_of {s : List UInt8} {n e1 : Int} {s1 : List UInt8} (h : within s 0 24 = (n, e1, s1)) :
    getL s = if e1 ≠ 0 then ([], e1, s1) else if (readL n.toNat s1 []).2.1 ≠ 0 then readL n.toNat s1 [] else if Co.fitsI (readL n.toNat s1 []).1 then readL n.toNat s1 [] else ([], 4, (readL n.toNat s1 []).2.2) := by
  unfold getL; rw [h]
theorem readL_bad1 {n : Nat} {s s2 : List UInt8} {acc : List Val} {op e2 : Int} (h : within s 0 17 = (op, e2, s2)) (he : e2 ≠ 0) : readL (n + 1) s acc = ([], e2, s2) := by
  unfold readL; rw [h, if_pos he]
theorem readL_bad2 {n : Nat} {s s2 s3 : List UInt8} {acc : List Val} {op a e3 : Int} (h : within s 0 17 = (op, 0, s2)) (h2 : numR s2 = (a, e3, s3)) (he : e3 ≠ 0) : readL (n + 1) s acc = ([], e3, s3) := by
  unfold readL; rw [h]; simp only; rw [h2, if_neg (by simp), if_pos he]
theorem readL_ok {n : Nat} {s s2 s3 : List UInt8} {acc : List Val} {op a : Int} (h : within s 0 17 = (op, 0, s2)) (h2 : numR s2 = (a, 0, s3)) : readL (n + 1) s acc = readL n s3 (acc ++ [(op, a)]) := by
  rw [readL, h]; simp only; rw [h2, if_neg (by simp), if_neg (by simp)]
/-- .. what is handed back where the rounds fail. -/
theorem getL_bad {s s1 s2 : List UInt8} {N : Nat} {e : Int} (h : within s 0 24 = ((N : Int), 0, s1)) (hr : readL N s1 [] = ([], e, s2)) (he : e ≠ 0) : getL s = ([], e, s2) := by
  rw [getL_of h, if_neg (by simp), Int.toNat_natCast, hr, if_pos he]
theorem getL_fit {s s1 s2 : List UInt8} {N : Nat} {acc : List Val} (h : within s 0 24 = ((N : Int), 0, s1)) (hr : readL N s1 [] = (acc, 0, s2)) : getL s = if Co.fitsI acc then (acc, 0, s2) else ([], 4, s2) := by
  rw [getL_of h, if_neg (by simp), Int.toNat_natCast, hr, if_neg (by simp)]

end Go.Proofs.YtlgbipfpnfphjaaGreatDoor

/-! A program's bytes: what is put is got, what is got was put. -/
namespace Go.Proofs.YtlgbipfpnfphjaaGreatDoor
set_option linter.unusedSimpArgs false
set_option linter.unusedVariables false
open Go.RowKit Ga
set_option maxRecDepth 100000

theorem cd_be {n a b : Int} (t : List UInt8) (hf : Oc.fitsN n = true) (h1 : a ≤ n) (h2 : n ≤ b) : within (Oc.be n ++ t) a b = (n, 0, t) := Gr.wn_put h1 h2 hf t
theorem cd_numR {n : Int} (t : List UInt8) (hf : Oc.fitsN n = true) : numR (Oc.be n ++ t) = (n, 0, t) := by
  have h := hf
  unfold Oc.fitsN at h
  simp only [Bool.and_eq_true, decide_eq_true_eq] at h
  exact cd_be t hf h.1 h.2
theorem cd_nums (x y : Int) (l : List Val) (s : List UInt8) : Oc.bes (nums ((x, y) :: l)) ++ s = Oc.be x ++ (Oc.be y ++ (Oc.bes (nums l) ++ s)) := by
  have : nums ((x, y) :: l) = [x] ++ ([y] ++ nums l) := rfl
  rw [this, Oc.bes_append, Oc.bes_append]
  have e1 : ∀ z, Oc.bes [z] = Oc.be z := fun z => by unfold Oc.bes; simp
  rw [e1, e1]
  simp only [List.append_assoc]
theorem cd_readL_put : ∀ (l : List Val) (s : List UInt8) (acc : List Val), (∀ i ∈ l, Co.rightI i = true) → readL l.length (Oc.bes (nums l) ++ s) acc = (acc ++ l, 0, s)
  | [], s, acc, _ => by show readL 0 s acc = _; rw [readL, List.append_nil]
  | (x, y) :: l, s, acc, h => by
    have hr := h (x, y) List.mem_cons_self
    obtain ⟨fx, fy⟩ := right_fitsN hr
    obtain ⟨x0, x1, _, _⟩ := Co.right_parts hr
    simp only at x0 x1
    rw [cd_nums, List.length_cons, readL_ok (cd_be _ fx x0 (by omega)) (cd_numR _ fy), cd_readL_put l s _ fun i hi => h i (List.mem_cons_of_mem _ hi)]
    simp
theorem cd_put {l : List Val} (h : Co.fitsI l = true) (s : List UInt8) : getL (putI l ++ s) = (l, 0, s) := by
  obtain ⟨h24, hr⟩ := Co.fits_parts h
  have hf : Oc.fitsN (l.length : Int) = true := by unfold Oc.fitsN; simp; omega
  have e : putI l ++ s = Oc.be l.length ++ (Oc.bes (nums l) ++ s) := by unfold putI; simp only [List.append_assoc]
  have hw : within (putI l ++ s) 0 24 = ((l.length : Int), 0, Oc.bes (nums l) ++ s) := by rw [e]; exact cd_be _ hf (by omega) (by omega)
  rw [getL_fit hw (cd_readL_put l s [] hr), List.nil_append, h, if_pos rfl]
theorem cd_readL_len : ∀ (n : Nat) (s : List UInt8) (acc : List Val), (readL n s acc).2.2.length ≤ s.length
  | 0, s, acc => Nat.le_refl _
  | n + 1, s, acc => by
    have h1 := within_len s 0 17
    have h2 : (numR (within s 0 17).2.2).2.2.length ≤ (within s 0 17).2.2.length := within_len _ _ _
    rw [readL]
    split
    · exact h1
    · split
      · exact Nat.le_trans h2 h1
      · exact Nat.le_trans (cd_readL_len n _ _) (Nat.le_trans h2 h1)
theorem cd_len (s : List UInt8) : (getL s).2.2.length ≤ s.length := by
  have h1 := within_len s 0 24
  have h2 := cd_readL_len (within s 0 24).1.toNat (within s 0 24).2.2 []
  unfold getL
  split
  · exact h1
  · split
    · exact Nat.le_trans h2 h1
    · split
      · exact Nat.le_trans h2 h1
      · exact Nat.le_trans h2 h1
theorem cd_readL_can : ∀ (n : Nat) (s : List UInt8) (acc r : List Val) (t : List UInt8), readL n s acc = (r, 0, t) → ∃ l, r = acc ++ l ∧ l.length = n ∧ s = Oc.bes (nums l) ++ t
  | 0, s, acc, r, t, h => by
    rw [readL] at h
    cases h
    exact ⟨[], by simp, rfl, rfl⟩
  | n + 1, s, acc, r, t, h => by
    rw [readL] at h
    obtain ⟨x, e1, s1, hx⟩ : ∃ x e1 s1, within s 0 17 = (x, e1, s1) := ⟨_, _, _, rfl⟩
    rw [hx] at h
    simp only at h
    by_cases h1 : e1 = 0
    · subst h1
      rw [if_neg (by simp)] at h
      obtain ⟨y, e2, s2, hy⟩ : ∃ y e2 s2, numR s1 = (y, e2, s2) := ⟨_, _, _, rfl⟩
      rw [hy] at h
      simp only at h
      by_cases h2 : e2 = 0
      · subst h2
        rw [if_neg (by simp)] at h
        obtain ⟨l, h3, h4, h5⟩ := cd_readL_can n s2 _ r t h
        obtain ⟨q1, -, -⟩ := Gr.wn_can (a := 0) (b := 17) hx
        obtain ⟨q2, -, -⟩ := Gr.wn_can (a := -2147483648) (b := 2147483647) hy
        refine ⟨(x, y) :: l, by rw [h3]; simp, by rw [List.length_cons, h4], ?_⟩
        rw [cd_nums, q1, q2, h5]
      · rw [if_pos h2] at h
        cases h
        exact absurd rfl h2
    · rw [if_pos h1] at h
      cases h
      exact absurd rfl h1
theorem cd_can {s : List UInt8} {l : List Val} {t : List UInt8} (h : getL s = (l, 0, t)) : s = putI l ++ t ∧ Co.fitsI l = true := by
  unfold getL at h
  obtain ⟨n, e1, s1, hx⟩ : ∃ n e1 s1, within s 0 24 = (n, e1, s1) := ⟨_, _, _, rfl⟩
  rw [hx] at h
  simp only at h
  by_cases h1 : e1 = 0
  · subst h1
    rw [if_neg (by simp)] at h
    obtain ⟨r, e2, t2, hr⟩ : ∃ r e2 t2, readL n.toNat s1 [] = (r, e2, t2) := ⟨_, _, _, rfl⟩
    rw [hr] at h
    simp only at h
    by_cases h2 : e2 = 0
    · subst h2
      rw [if_neg (by simp)] at h
      by_cases h3 : Co.fitsI r = true
      · rw [if_pos h3] at h
        cases h
        obtain ⟨l2, h4, h5, h6⟩ := cd_readL_can _ _ _ _ _ hr
        rw [List.nil_append] at h4
        subst h4
        obtain ⟨q1, q2, q3⟩ := Gr.wn_can (a := 0) (b := 24) hx
        refine ⟨?_, h3⟩
        unfold putI
        rw [q1, h6, show (l.length : Int) = n by omega, List.append_assoc]
      · rw [if_neg h3] at h
        cases h
    · rw [if_pos h2] at h
      cases h
      exact absurd rfl h2
  · rw [if_pos h1] at h
    cases h
    exact absurd rfl h1
theorem codecI : Gr.Codec getL putI (fun p => Co.fitsI p = true) := ⟨fun l t h => cd_put h t, fun s l t h => cd_can h⟩
theorem progS_len (s : Gr.Rs) : (Gr.progS getL s).2.1.length ≤ s.1.length := by
  unfold Gr.progS
  split
  · exact Nat.le_refl _
  · exact cd_len _
end Go.Proofs.YtlgbipfpnfphjaaGreatDoor
