import Derived.Test.YtangapokicnfgaaGreatMr19
import Derived.Test.YtangapokicnfgaaGreatMr18
import Derived.Test.YtangapokicnfgaaGreatMr5
import Derived.ScopeJumps
import Derived.Laws.EntriesVeiled
import Derived.Scope
import Derived.Tactics
/-! octet.Writer: what a write leaves as it was. -/
namespace Go.Proofs.YtangapokicnfgaaGreat
set_option linter.unusedSimpArgs false
set_option linter.unusedVariables false
open Go.RowKit Ga
set_option maxRecDepth 100000

/-- all blocks stand as they stood but the writer's own -/
def KeptW (base B : Nat) (W W' : World) : Prop := W.heap.size ≤ W'.heap.size ∧ ∀ q, q < W.heap.size → q ≠ B → Safe base q W → W'.heap[q]? = W.heap[q]?
theorem KeptW.refl (base B : Nat) (W : World) : KeptW base B W W := ⟨Nat.le_refl _, fun _ _ _ _ => rfl⟩
theorem KeptW.ofGrew {base B : Nat} {W W' : World} (g : Grew W W') : KeptW base B W W' := ⟨g.below.size, fun q hq _ _ => g.below.block q hq⟩
theorem KeptW.trans {base B : Nat} {a b c : World} (h : KeptW base B a b) (k : KeptW base B b c) : KeptW base B a c :=
  ⟨Nat.le_trans h.1 k.1, fun q hq hn hs => by
    have h1 := h.2 q hq hn hs
    rw [k.2 q (Nat.lt_of_lt_of_le hq h.1) hn (hs.sameBlock h1), h1]⟩
theorem KeptW.step {base B : Nat} {wr W9 : World} {o : Obj} {vk v9 : Value} {ys : List UInt8} (hw : WriterAt base B wr vk ys) (hk : ∀ q, q < (wr.alloc o).heap.size → vk.ownBlock ≠ some q → W9.heap[q]? = (wr.alloc o).heap[q]?) : KeptW base B wr (W9.setCell ⟨B, 0, none⟩ v9) := by
  have hat : ∀ q, q < wr.heap.size → q ≠ B → Safe base q wr → (W9.setCell ⟨B, 0, none⟩ v9).heap[q]? = wr.heap[q]? := fun q hq hn hs => by
    rw [heap_set_other (fun e => hn e.symm), hk q (by rw [World.size_alloc]; omega) (hs.own hw.2.2)]
    have : wr.heap[q]? = some wr.heap[q] := Array.getElem?_eq_getElem hq
    rw [this]
    exact heap_alloc_old this _
  refine ⟨?_, hat⟩
  rw [World.size_setCell]
  have hne : vk.ownBlock ≠ some wr.heap.size := fun e => by
    have := (World.ownsRow.lt hw.2.2 _ e).2
    omega
  have h1 := hk wr.heap.size (by rw [World.size_alloc]; omega) hne
  rw [heap_new_at wr o _ rfl] at h1
  have := (Array.getElem?_eq_some_iff.1 h1).1
  omega
set_option maxHeartbeats 4000000 in
theorem writerNum_keep (w0 W : World) (B : Nat) (vb : Value) (bs : List UInt8) (v : Value) (l : List Int) (hw : WriterAt w0.heap.size B W vb bs) (hg : Grew w0 W) (hv : RowsAt 1 encN W v l)
    (hs : ∀ b off, (∃ n c, v = .slice (some ⟨b, off, none⟩) n c) → Safe w0.heap.size b W ∧ b ≠ B) (hok : l.all Oc.fitsN = true) (hlen : bs.length + l.length * 4 ≤ 100000) :
    Calls Tryz.prog 53 #[.pointer (some ⟨B, 0, none⟩), v] W fun e W' => e = .returned (.int .i64 0) ∧ Grew w0 W' ∧ KeptW w0.heap.size B W W' ∧ ∃ vb', WriterAt w0.heap.size B W' vb' (bs ++ Oc.bes l) := by
  obtain ⟨a, cap, rfl, hm, hl⟩ := hv.open1
  have HV := Lib.hid hv
  have HS := Lib.hid hs
  have HW := Lib.hid hw
  have HOK := Lib.hid hok
  clear hv hs hw hok
  go_enter Tryz.func53, Tryz.ntmps53
  go_wp2
  go_loop [14] (fun i => ∃ (k : Nat), k ≤ l.length ∧ i = .int .i64 k) (fun i => l.length - (intOf i).toNat)
  case atStart => exact ⟨0, Nat.zero_le _, rfl⟩
  case round =>
    obtain ⟨k, hk, rfl⟩ := hrel
    by_cases hlt : k < l.length
    · obtain ⟨b, off, rfl, hb, hx⟩ := hl k hlt
      have hf : Oc.fitsN l[k] = true := List.all_eq_true.1 HOK.out _ (List.getElem_mem hlt)
      generalize l[k] = x at *
      have HF := Lib.hid hf
      clear hl hf
      go_wp2_with (go_at_call 93; refine (octFits_any _ _).mono ?_; rintro e w1 ⟨rfl, rfl⟩; rw [HF.out])
      go_round
      case rel => exact ⟨k + 1, by omega, by go_num⟩
      case measure => first | (simp [intOf]; done) | (simp [intOf]; omega)
    · obtain rfl : k = l.length := by omega
      clear hl
      go_wp2
      go_loopw [24] (fun i wr => ∃ (k : Nat) (vk : Value), k ≤ l.length ∧ i = .int .i64 k ∧ WriterAt w0.heap.size B wr vk (bs ++ Oc.bes (l.take k)) ∧ Grew w0 wr ∧ RowsAt 1 encN wr (.slice a l.length cap) l ∧ (∀ b off, (∃ n c, (.slice a l.length cap : Value) = .slice (some ⟨b, off, none⟩) n c) → Safe w0.heap.size b wr ∧ b ≠ B) ∧ Hid (KeptW w0.heap.size B W wr))
        (fun i _ => l.length - (intOf i).toNat)
      case atStart => exact ⟨0, vb, Nat.zero_le _, rfl, by simpa [Oc.bes] using HW.out, hg, HV.out, HS.out, Lib.hid (KeptW.refl _ _ _)⟩
      case round =>
        obtain ⟨k, vk, hk, rfl, hwk, hgk, hrk, hsk, HKW⟩ := hrel
        by_cases hlt : k < l.length
        · obtain ⟨a', cap', hveq, -, hl⟩ := hrk.open1
          cases hveq
          obtain ⟨b, off, rfl, hb, hx⟩ := hl k hlt
          have hfx : Oc.fitsN l[k] = true := List.all_eq_true.1 HOK.out _ (List.getElem_mem hlt)
          have hbs := Oc.bes_succ l k hlt
          have hbl := Oc.bes_len (l.take k)
          rw [List.length_take_of_le hk] at hbl
          generalize l[k] = x at *
          unfold Oc.fitsN at hfx
          simp only [Bool.and_eq_true, decide_eq_true_eq] at hfx
          obtain ⟨x0, x1⟩ := hfx
          have HBS := Lib.hid hbs
          have HBL := Lib.hid hbl
          clear hbs hbl
          have hb' := hb
          have HWK := Lib.hid hwk
          have HRK := Lib.hid hrk
          have HSK := Lib.hid hsk
          have hcB := cell_of_heap (o := 0) hwk.2.1
          have hfB := frozen_of_heap (o := 0) hwk.2.1
          simp at hcB
          have HG := Lib.hid hgk
          clear hl hwk hrk hsk hgk hg
          go_wp2_with (at_builtin; refine wpList_ownG (w0 := w0) rfl (.tmp 35) (.tmp 47) 65 _ _ _ _ (Oc.be x) rfl Tryz.underlying65 infoU8 rfl (by decide) encB_len encB_one rfl (HWK.out.2.2.grew (by repeat (first | with_reducible exact Grew.refl _ | apply Grew.more | apply Grew.alloc | apply Grew.drew | apply Grew.drewN))) (HG.out.alloc _) rfl (be_new _ _ _ _ _ rfl rfl) (by rw [List.length_append, HBL.out, Oc.be_len]; omega) (by decide) ?_; intro v9 R9 n9 hown9 hkeep9; (have hB9 : (w0.more R9 n9).heap[B]? = some (.cells #[vk] 67) := by rw [hkeep9 B (by have := (Array.getElem?_eq_some_iff.1 HWK.out.2.1).1; simp [go_sem]; omega) (HWK.out.safe.own HWK.out.2.2)]; exact heap_alloc_old HWK.out.2.1 _); (have hcB9 := cell_of_heap (o := 0) hB9); (have hfB9 := frozen_of_heap (o := 0) hB9); simp at hcB9; obtain ⟨b9, N9, c9, rfl⟩ := own_some hown9 (fun h => by have h2 := congrArg List.length h; rw [List.length_append, Oc.be_len] at h2; simp at h2); (have HO9 := Lib.hid hown9); (have HK9 := Lib.hid hkeep9); (have HB9 := Lib.hid hB9); clear hown9 hkeep9 hB9)
          have hBb : B ≠ b := fun e => (HSK.out b off ⟨_, _, rfl⟩).2 e.symm
          have hsb := (HSK.out b off ⟨_, _, rfl⟩).1
          have hkb : (w0.more R9 n9).heap[b]? = wr.heap[b]? := by
            have hlt : b < wr.heap.size := hb'
            rw [HK9.out b (by simp [go_sem]; omega) (hsb.own HWK.out.2.2)]
            have : wr.heap[b]? = some wr.heap[b] := Array.getElem?_eq_getElem hlt
            rw [this]
            exact heap_alloc_old this _
          have hfin : ∀ v9, ((w0.more R9 n9).setCell ⟨B, 0, none⟩ v9).heap[b]? = wr.heap[b]? := fun v9 => by rw [heap_set_other hBb, hkb]
          have hsB : Safe w0.heap.size B (w0.more R9 n9) := .inr ⟨_, _, _, HB9.out, by decide⟩
          have HFIN := Lib.hid hfin
          clear hfin hkb
          go_roundw
          case rel =>
            refine ⟨k + 1, _, by omega, by go_num, ⟨HWK.out.1, heap_set_self HB9.out, ?_⟩, Grew.setBehind ⟨R9, n9, rfl⟩ HWK.out.1 _, RowsAt.sameBlock HRK.out ?_, ?_, Lib.hid (HKW.out.trans (KeptW.step HWK.out HK9.out))⟩
            · rw [HBS.out, ← List.append_assoc]
              exact OwnAt.sameBlock HO9.out fun q hq => heap_set_other (fun e => by subst e; exact hsB.own HO9.out hq)
            · rintro b2 off2 ⟨n2, c2, e⟩
              cases e; exact HFIN.out _
            · rintro b2 off2 ⟨n2, c2, e⟩
              cases e
              exact ⟨hsb.sameBlock (HFIN.out _), fun e => hBb e.symm⟩
          case measure => first | (simp [intOf]; done) | (simp [intOf]; omega)
        · obtain rfl : k = l.length := by omega
          rw [List.take_length] at hwk
          have HWK := Lib.hid hwk
          clear hwk hrk hsk
          go_wp2
          go_ret
          exact ⟨rfl, hgk, HKW.out, vk, HWK.out⟩
/-- Num of numbers that stand in a slice just made. -/
theorem writerNum_freshK (w0 W : World) (B : Nat) (vb : Value) (bs : List UInt8) (l : List Int) (c : List Value) (b n cap : Nat) (hw : WriterAt w0.heap.size B W vb bs) (hg : Grew w0 W) (hc : c = l.map (Value.int .i64)) (hb : b = W.heap.size) (hn : n = l.length)
    (hok : l.all Oc.fitsN = true) (hlen : bs.length + l.length * 4 ≤ 100000) :
    Calls Tryz.prog 53 #[.pointer (some ⟨B, 0, none⟩), .slice (some ⟨b, 0, none⟩) n cap] (W.alloc (.cells c.toArray 3)) fun e W' => e = .returned (.int .i64 0) ∧ Grew w0 W' ∧ KeptW w0.heap.size B W W' ∧ ∃ vb', WriterAt w0.heap.size B W' vb' (bs ++ Oc.bes l) := by
  have hB := (Array.getElem?_eq_some_iff.1 hw.2.1).1
  refine (writerNum_keep w0 _ B vb bs _ l (hw.grew ((Grew.refl W).alloc _)) (hg.alloc _) ?_ ?_ hok hlen).mono fun e W' ⟨h1, h2, h3, h4⟩ => ⟨h1, h2, (KeptW.ofGrew ((Grew.refl W).alloc _)).trans h3, h4⟩
  · refine RowsAt.fresh hn (by unfold maxLen; omega) encN_len hb ?_
    rw [hc]
    clear hc hok hlen hn
    induction l with
    | nil => rfl
    | cons x l ih => rw [List.map_cons, List.flatMap_cons, ih]; rfl
  · rintro b2 off ⟨n2, c2, e⟩
    cases e
    subst hb
    exact ⟨.inr ⟨_, _, _, heap_new_at W _ _ rfl, by decide⟩, by omega⟩
theorem rows_lt {α : Type} {k : Nat} {enc : α → List Value} {w : World} {b off n c : Nat} {l : List α} (h : RowsAt (k + 1) enc w (.slice (some ⟨b, off, none⟩) n c) l) (hn : 0 < l.length) (he : ∀ x, (enc x).length = k + 1 := by intro _; rfl) : b < w.heap.size := by
  obtain ⟨a, cap, e, hm, hx⟩ := h
  obtain ⟨b', off', e2, hc⟩ := hx (by intro e; subst e; simp at hn)
  cases e
  cases e2
  have h0 : 0 < (enc l[0]).length := by rw [he]; omega
  exact World.block_lt_of_cell? w _ (hc 0 l[0] (List.getElem?_eq_getElem hn) 0 _ (List.getElem?_eq_getElem h0))
set_option maxHeartbeats 4000000 in
theorem codePut_keep (w0 W : World) (B : Nat) (vb : Value) (bs : List UInt8) (v : Value) (l : List Val) (hw : WriterAt w0.heap.size B W vb bs) (hg : Grew w0 W) (hv : ValsAt W v l) (hs : ∀ b off, (∃ n c, v = .slice (some ⟨b, off, none⟩) n c) → Safe w0.heap.size b W ∧ b ≠ B) (hf : Co.fitsI l = true) (hlen : bs.length ≤ 10000) :
    Calls Tryz.prog 116 #[.pointer (some ⟨B, 0, none⟩), v] W fun e W' => e = .returned (.int .i64 0) ∧ Grew w0 W' ∧ KeptW w0.heap.size B W W' ∧ ∃ vb', WriterAt w0.heap.size B W' vb' (bs ++ putI l) := by
  obtain ⟨a, cap, rfl, hm, -⟩ := hv.open2
  obtain ⟨l24, hrl⟩ := Co.fits_parts hf
  have HV := Lib.hid hv
  have HSF := Lib.hid hs
  have HF := Lib.hid hf
  have HR := Lib.hid hrl
  have HW := Lib.hid hw
  have HG := Lib.hid hg
  clear hv hs hf hrl hw hg
  go_enter Tryz.func116, Tryz.ntmps116
  go_wp2_with (first
    | (go_at_call 132; refine (codeFits_any _ l _ (HV.out.grew (by repeat (first | with_reducible exact Grew.refl _ | apply Grew.more | apply Grew.alloc | apply Grew.drew | apply Grew.drewN)))).mono ?_; rintro e w1 ⟨rfl, R3, n3, rfl⟩; rw [HF.out])
    | (go_at_call 53; refine (writerNum_freshK w0 _ B vb bs [(l.length : Int)] [.int .i64 l.length] _ _ _ (HW.out.grew (by repeat (first | with_reducible exact Grew.refl _ | apply Grew.more | apply Grew.alloc | apply Grew.drew | apply Grew.drewN))) (HG.out.trans (by repeat (first | with_reducible exact Grew.refl _ | apply Grew.more | apply Grew.alloc | apply Grew.drew | apply Grew.drewN))) rfl (by simp [go_sem]) rfl (by simp [Oc.fitsN]; omega) (by simp; omega)).mono ?_; rintro e w1 ⟨rfl, hg1, hk1, vb1, hw1⟩; (have HW1 := Lib.hid hw1); (have HG1 := Lib.hid hg1); (have HK1 := Lib.hid ((KeptW.ofGrew (W := W) (by repeat (first | with_reducible exact Grew.refl _ | apply Grew.more | apply Grew.alloc | apply Grew.drew | apply Grew.drewN))).trans hk1)); clear hw1 hg1 hk1)
    )
  go_loopw [21] (fun i wr => ∃ (k : Nat) (vk : Value), k ≤ l.length ∧ i = .int .i64 k ∧ WriterAt w0.heap.size B wr vk (bs ++ Oc.be l.length ++ Oc.bes (nums (l.take k))) ∧ Hid (Grew w0 wr) ∧ Hid (KeptW w0.heap.size B W wr)) (fun i _ => l.length - (intOf i).toNat)
  case atStart => exact ⟨0, vb1, Nat.zero_le _, rfl, by have := HW1.out; simpa [Oc.bes, nums] using this, HG1, HK1⟩
  case round =>
    obtain ⟨k, vk, hk, rfl, hwk, HGR, HKR⟩ := hrel
    have HWK := Lib.hid hwk
    clear hwk
    by_cases hlt : k < l.length
    · have hrk : ValsAt wr (.slice a l.length cap) l := RowsAt.sameBlock HV.out (fun b off h => HKR.out.2 b (by obtain ⟨n1, c1, e1⟩ := h; cases e1; exact rows_lt HV.out (by omega)) (HSF.out b off h).2 (HSF.out b off h).1)
      obtain ⟨a', cap', e', -, hl⟩ := hrk.open2
      cases e'
      obtain ⟨b, off, rfl, hb, hx, hy⟩ := hl k hlt
      have hns := nums_succ l k hlt
      have hri := HR.out l[k] (List.getElem_mem hlt)
      have hnl := nums_len (l.take k)
      rw [List.length_take_of_le hk] at hnl
      generalize l[k] = xy at *
      obtain ⟨x, y⟩ := xy
      obtain ⟨fx, fy⟩ := right_fitsN hri
      simp only at hx hy hns
      have HNS := Lib.hid hns
      have HNL := Lib.hid hnl
      have HFX := Lib.hid fx
      have HFY := Lib.hid fy
      clear hl hns hnl fx fy hri hrk
      go_wp2_with (go_at_call 53; refine (writerNum_freshK w0 _ B vk _ [x, y] [.int .i64 x, .int .i64 y] _ _ _ (HWK.out.grew (by repeat (first | with_reducible exact Grew.refl _ | apply Grew.more | apply Grew.alloc | apply Grew.drew | apply Grew.drewN))) (HGR.out.trans (by repeat (first | with_reducible exact Grew.refl _ | apply Grew.more | apply Grew.alloc | apply Grew.drew | apply Grew.drewN))) rfl (by simp [go_sem]) rfl (by simp [HFX.out, HFY.out]) (by rw [List.length_append, List.length_append, Oc.be_len, Oc.bes_len, HNL.out]; simp; omega)).mono ?_; rintro e w1 ⟨rfl, hg2, hk2, vb2, hw2⟩; (have HW2 := Lib.hid hw2); (have HG2 := Lib.hid hg2); (have HK2 := Lib.hid hk2); clear hw2 hg2 hk2)
      go_roundw
      case rel => exact ⟨k + 1, vb2, by omega, by go_num, by rw [HNS.out, Oc.bes_append, ← List.append_assoc]; exact HW2.out, HG2, Lib.hid (HKR.out.trans ((KeptW.ofGrew (by repeat (first | with_reducible exact Grew.refl _ | apply Grew.more | apply Grew.alloc | apply Grew.drew | apply Grew.drewN))).trans HK2.out))⟩
      case measure => first | (simp [intOf]; done) | (simp [intOf]; omega)
    · obtain rfl : k = l.length := by omega
      go_wp2
      go_ret
      refine ⟨rfl, HGR.out, HKR.out, vk, ?_⟩
      have := HWK.out
      rw [List.take_length, List.append_assoc] at this
      exact this

end Go.Proofs.YtangapokicnfgaaGreat

/-! graph.sort: its two closures; the world of a round. -/
namespace Go.Proofs.YtangapokicnfgaaGreat
set_option linter.unusedSimpArgs false
set_option linter.unusedVariables false
open Go.RowKit Ga
set_option maxRecDepth 100000

theorem enters112 : ∀ args w, (callFunc 112 args).run Tryz.prog w = .ok (.enter 112 args) w := enters_of Tryz.func112 (by kernel_rfl) rfl
theorem enters113 : ∀ args w, (callFunc 113 args).run Tryz.prog w = .ok (.enter 113 args) w := enters_of Tryz.func113 (by kernel_rfl) rfl
theorem sort1_pred (out : List Int) (v : Value) (B : Nat) (w : World) (hv : IntsAt w v out) (hB : Pre B w) (hc : w.cell? ⟨B, 0, none⟩ = some v) : PredI 112 #[.pointer (some ⟨B, 0, none⟩)] (fun x => decide (x ∈ out)) w := by
  intro W x g
  obtain ⟨R, N, rfl⟩ := g
  have HC := Lib.hid fun W (g : Grew w W) => containsI_any v out x W (hv.grew g)
  obtain ⟨a, cap, rfl⟩ := hv.len
  clear hv
  show Calls Tryz.prog 112 #[.int .i64 x, .pointer (some ⟨B, 0, none⟩)] _ (Gives (.bool (decide (x ∈ out))) _)
  generalize decide (x ∈ out) = r at *
  go_enter Tryz.func112, Tryz.ntmps112
  go_wp2_with (go_at_call 75; refine (HC.out _ (by repeat (first | with_reducible exact Grew.refl _ | apply Grew.more | apply Grew.alloc | apply Grew.drew | apply Grew.drewN))).mono ?_; rintro e w1 ⟨rfl, hw1⟩; obtain rfl := hw1)
  go_ret
  refine ⟨rfl, ?_⟩
  repeat (first | with_reducible exact Grew.refl _ | apply Grew.more | apply Grew.alloc | apply Grew.drew | apply Grew.drewN)
theorem sort2_pred (out : List Int) (v : Value) (B C : Nat) (w : World) (hv : IntsAt w v out) (hB : Pre B w) (hc : w.cell? ⟨B, 0, none⟩ = some v) (hC : Pre C w) (hcC : w.cell? ⟨C, 0, none⟩ = some (.func (.func 112) #[] #[.pointer (some ⟨B, 0, none⟩)])) : PredI 113 #[.pointer (some ⟨C, 0, none⟩)] (fun x => !decide (x ∈ out)) w := by
  intro W x g
  have HS := Lib.hid (sort1_pred out v B w hv hB hc)
  obtain ⟨R, N, rfl⟩ := g
  have eg := enters112
  clear hv hc hB
  show Calls Tryz.prog 113 #[.int .i64 x, .pointer (some ⟨C, 0, none⟩)] _ (Gives (.bool (!decide (x ∈ out))) _)
  generalize hq : (fun x => decide (x ∈ out)) = p at *
  have hp : decide (x ∈ out) = p x := by rw [← hq]
  rw [hp]
  clear hq hp
  generalize hr : p x = r
  have HR := Lib.hid hr
  clear hr
  go_enter Tryz.func113, Tryz.ntmps113
  go_wp2_with (go_at_fn 112; refine (HS.out _ x (by repeat (first | with_reducible exact Grew.refl _ | apply Grew.more | apply Grew.alloc | apply Grew.drew | apply Grew.drewN))).mono ?_; rintro e w1 ⟨rfl, R3, n3, rfl⟩; rw [HR.out])
  go_ret
  refine ⟨rfl, ?_⟩
  repeat (first | with_reducible exact Grew.refl _ | apply Grew.more | apply Grew.alloc | apply Grew.drew | apply Grew.drewN)

/-- a world of the sort's: w: the one that came in; w1: the one behind Norm; B: the cell of what stands; C: the cell of the closure -/
structure SortAt (w w1 : World) (B C : Nat) (W : World) (v : Value) (out : List Int) : Prop where
  keep : Keep B w1 W
  g : Grew w W
  own : OwnAt w.heap.size 3 1 encN W v out
  hi : ∀ q, v.ownBlock = some q → w1.heap.size ≤ q
  b : W.heap[B]? = some (.cells #[v] 41)
  c : W.heap[C]? = some (.cells #[.func (.func 112) #[] #[.pointer (some ⟨B, 0, none⟩)]] 108)
  bl : w.heap.size ≤ B
theorem SortAt.grew {w w1 : World} {B C : Nat} {W W' : World} {v : Value} {out : List Int} (h : SortAt w w1 B C W v out) (g : Grew W W') : SortAt w w1 B C W' v out :=
  ⟨h.keep.trans (Keep.ofGrew g), h.g.trans g, h.own.grew g, h.hi, grew_heap g h.b, grew_heap g h.c, h.bl⟩
theorem SortAt.push {w w1 : World} {B C : Nat} {W W' : World} {v v' : Value} {out : List Int} {x : Int} (h : SortAt w w1 B C W v out) (hA : Appended w 3 1 encN W v (out ++ [x]) v' W') :
    W'.heap[B]? = some (.cells #[v] 41) ∧ SortAt w w1 B C (W'.setCell ⟨B, 0, none⟩ v') v' (out ++ [x]) := by
  obtain ⟨a1, a2, a3, a4, a5⟩ := hA
  have hB : W'.heap[B]? = some (.cells #[v] 41) := by rw [a4 B (heap_lt h.b) (OwnAt.other h.own h.b (by decide))]; exact h.b
  have hC : W'.heap[C]? = some (.cells #[.func (.func 112) #[] #[.pointer (some ⟨B, 0, none⟩)]] 108) := by rw [a4 C (heap_lt h.c) (OwnAt.other h.own h.c (by decide))]; exact h.c
  have hne : B ≠ C := fun e => by
    rw [e, hC] at hB
    cases hB
  have hk : Keep B w1 W' := ⟨Nat.le_trans h.keep.1 a3, fun q hq hn => (a4 q (Nat.lt_of_lt_of_le hq h.keep.1) fun e => by have := h.hi q e; omega).trans (h.keep.2 q hq hn)⟩
  refine ⟨hB, ⟨hk.trans (Keep.set _), a1.set h.bl _, OwnAt.same a2 fun b hb => set_other fun e => ?_, fun q hq => ?_, by rw [set_self hB]; rfl, by rw [set_other hne]; exact hC, h.bl⟩⟩
  · subst e
    exact OwnAt.other a2 hB (by decide) hb
  · rcases a5 q hq with h1 | h1
    · exact h.hi q h1
    · exact Nat.le_trans h.keep.1 h1
/-- the nodes stand as they stood -/
theorem SortAt.nodes {w w1 : World} {B C base : Nat} {W : World} {v vn : Value} {out : List Int} {lc : List NdC} {l : List Gr.Nd} (h : SortAt w w1 B C W v out) (ho : NodesOwn base w1 vn lc) (hn : NodesIn base w1 lc l) (hB : ∃ c, w1.heap[B]? = some (.cells c 41)) : NodesAt W vn l := by
  obtain ⟨cB, hB⟩ := hB
  have hk := h.keep
  have hne : ∀ (q : Nat) (cs : Array Value) (t : TypeId), w1.heap[q]? = some (.cells cs t) → t ≠ 41 → q ≠ B := fun q cs t hq ht e => by
    subst e
    rw [hB] at hq
    cases hq
    exact ht rfl
  have ho2 : NodesOwn base W vn lc := OwnAt.same ho fun b hb => by
    obtain ⟨_, cs, h2⟩ := OwnAt.block ho hb
    exact hk.2 b (heap_lt h2) (hne b cs _ h2 (by decide))
  have hn2 : NodesIn base W lc l := Rel.mono (fun c n ⟨h1, h2⟩ => by
    have h3 : OwnsNd base W c n := by
      refine ⟨OwnAt.same h2.1 fun b hb => ?_, OwnAt.same h2.2 fun b hb => ?_⟩
      · obtain ⟨_, cs, h4⟩ := OwnAt.block h2.1 hb
        exact hk.2 b (heap_lt h4) (hne b cs _ h4 (by decide))
      · obtain ⟨_, cs, h4⟩ := OwnAt.block h2.2 hb
        exact hk.2 b (heap_lt h4) (hne b cs _ h4 (by decide))
    exact ⟨h3.is h1, h3⟩) hn
  exact hn2.at ho2
def standP (out : List Int) (n : Gr.Nd) : Bool := !out.contains n.id && n.frm.all fun f => out.contains f
theorem standP_eq (out : List Int) (n : Gr.Nd) : standP out n = (!decide (n.id ∈ out) && !n.frm.any fun f => !decide (f ∈ out)) := by
  unfold standP
  rw [List.not_any_eq_all_not]
  simp
theorem standP_next (l : List Gr.Nd) (out : List Int) : Gr.nextS l out = (l.find? (standP out)).map (·.id) := rfl
def sliceLen : Value → Nat
  | .slice _ n _ => n
  | _ => 0
end Go.Proofs.YtangapokicnfgaaGreat

/-! A scope with one label that is jumped back to, and one that is jumped ahead to. -/
namespace Go
set_option linter.unusedSimpArgs false
set_option linter.unusedVariables false

section
variable {P : Program} {a : Act} {w : World} {Q : Exit → Act → World → Prop}
theorem wp_skip_seq {x : Code} (h : x.wp P Q a w) : (Code.seq .skip x).wp P Q a w := wp_seq (wp_skip h)
end
end Go
