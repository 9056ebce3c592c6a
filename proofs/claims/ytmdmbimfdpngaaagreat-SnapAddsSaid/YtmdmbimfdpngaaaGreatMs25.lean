import Derived.Test.YtmdmbimfdpngaaaGreatMs24
import Derived.Test.YtmdmbimfdpngaaaGreatMs19
import Derived.Test.YtmdmbimfdpngaaaGreatMs12
/-! plan.Clean, kind 5. -/
namespace Go.Proofs.YtmdmbimfdpngaaaGreat
set_option linter.unusedSimpArgs false
set_option linter.unusedVariables false
open Go.RowKit Ga
set_option maxRecDepth 100000

set_option maxHeartbeats 8000000 in
theorem clean49_5 (id kd par r0 r1 r2 r3 r4 r5 r6 r7 : Int) (af ap : Option Addr) (nf cf np cp : Nat) (reset : Bool) (s : Gr.Stp) (w : World) (hn : StepIs w ⟨5, ⟨id, kd, af, nf, cf, ap, np, cp, par, r0, r1, r2, r3, r4, r5, r6, r7⟩, reset⟩ s) (hs : s.nd.frm.length ≤ 1000 ∧ s.nd.prog.length ≤ 1000) : Calls Tryz.prog 45 #[.agg #[.int .i64 5, .int .i64 id, .int .i64 kd, .slice af nf cf, .slice ap np cp, .int .i64 par, .int .i64 r0, .int .i64 r1, .int .i64 r2, .int .i64 r3, .int .i64 r4, .int .i64 r5, .int .i64 r6, .int .i64 r7, .bool reset]] w (CleanGives (Gr.cleanS s) w) := by
  have hcl := hn.clean
  have HCL := Lib.hid hcl
  have HN := Lib.hid hn
  have H1 := Lib.hid fun W (g : Grew w W) => cloneInts_any _ s.nd.frm W (HN.out.nd.f.grew g) hs.1
  have H2 := Lib.hid fun W (g : Grew w W) => cloneVals_any _ s.nd.prog W (HN.out.nd.p.grew g) hs.2
  have HND := Lib.hid hn.nd
  have HS := Lib.hid hs
  have HK := Lib.hid hn.kind
  clear hn hcl hs
  go_enter Tryz.func45, Tryz.ntmps45
  go_upto_region 14 with fail
  refine wp_region_noPanic ?_
  go_region_law (first
    | (go_simp; go_at_call 87; refine (H1.out _ (by repeat (first | with_reducible exact Grew.refl _ | apply Grew.more | apply Grew.alloc | apply Grew.drew | apply Grew.drewN))).mono ?_; rintro e w1 ⟨v1, rfl, ho1, R3, n3, rfl⟩; obtain ⟨a1, c1, rfl⟩ := (ho1.rows encN_len).len; (have HO1 := Lib.hid ho1); clear ho1))
  all_goals
    refine NoPanic.normal ?_
    go_wp2
    refine bodyPost_ret (res_clean49 rfl (grew_heap ((Grew.refl _).more _ _) (heap_alloc' (heap_alloc' (heap_new_at (w.alloc _) _ _ (by simp [World.size_alloc])) _) _))) rfl ?_
    refine clean_made5 HN.out (OwnAt.low (OwnAt.same HO1.out fun b hb => heap_more_same (by simp [World.size_alloc]) _ _ _ (by have := HO1.out.lt b hb; simp [World.size_alloc] at this ⊢; omega)) (by simp [World.size_alloc]; omega)) (by repeat (first | with_reducible exact Grew.refl _ | apply Grew.more | apply Grew.alloc | apply Grew.drew | apply Grew.drewN))
end Go.Proofs.YtmdmbimfdpngaaaGreat

/-! plan.Clean, whatever the step. -/
namespace Go.Proofs.YtmdmbimfdpngaaaGreat
set_option linter.unusedSimpArgs false
set_option linter.unusedVariables false
open Go.RowKit Ga
set_option maxRecDepth 100000

theorem clean49_any (c : StC) (s : Gr.Stp) (w : World) (hn : StepIs w c s) (hs : s.nd.frm.length ≤ 1000 ∧ s.nd.prog.length ≤ 1000) : Calls Tryz.prog 45 #[.agg #[.int .i64 c.kind, .int .i64 c.c.id, .int .i64 c.c.kind, .slice c.c.af c.c.nf c.c.cf, .slice c.c.ap c.c.np c.c.cp, .int .i64 c.c.par, .int .i64 c.c.r0, .int .i64 c.c.r1, .int .i64 c.c.r2, .int .i64 c.c.r3, .int .i64 c.c.r4, .int .i64 c.c.r5, .int .i64 c.c.r6, .int .i64 c.c.r7, .bool c.reset]] w (CleanGives (Gr.cleanS s) w) := by
  obtain ⟨kind, ⟨id, kd, af, nf, cf, ap, np, cp, par, r0, r1, r2, r3, r4, r5, r6, r7⟩, reset⟩ := c
  by_cases h1 : kind = 1
  · subst h1; exact clean49_1 _ _ _ _ _ _ _ _ _ _ _ _ _ _ _ _ _ _ s w hn hs
  by_cases h2 : kind = 2
  · subst h2; exact clean49_2 _ _ _ _ _ _ _ _ _ _ _ _ _ _ _ _ _ _ s w hn hs
  by_cases h3 : kind = 3
  · subst h3; exact clean49_3 _ _ _ _ _ _ _ _ _ _ _ _ _ _ _ _ _ _ s w hn hs
  by_cases h4 : kind = 4
  · subst h4; exact clean49_4 _ _ _ _ _ _ _ _ _ _ _ _ _ _ _ _ _ _ s w hn hs
  by_cases h5 : kind = 5
  · subst h5; exact clean49_5 _ _ _ _ _ _ _ _ _ _ _ _ _ _ _ _ _ _ s w hn hs
  exact clean49_0 kind h1 h2 h3 h4 h5 _ _ _ _ _ _ _ _ _ _ _ _ _ _ _ _ _ _ s w hn hs
theorem clean_range (s : Gr.Stp) : 0 ≤ (Gr.cleanS s).kind ∧ (Gr.cleanS s).kind ≤ 5 := by
  unfold Gr.cleanS
  split
  · exact ⟨by simp, by simp⟩
  split
  · exact ⟨by simp, by simp⟩
  split
  · exact ⟨by simp, by simp⟩
  split
  · exact ⟨by simp, by simp⟩
  split <;> exact ⟨by simp, by simp⟩
theorem clean_small {s : Gr.Stp} {a b : Nat} (h : s.nd.frm.length ≤ a ∧ s.nd.prog.length ≤ b) : (Gr.cleanS s).nd.frm.length ≤ a ∧ (Gr.cleanS s).nd.prog.length ≤ b := by
  unfold Gr.cleanS
  split
  · exact ⟨Nat.zero_le _, h.2⟩
  split
  · exact h
  split
  · exact ⟨Nat.zero_le _, Nat.zero_le _⟩
  split
  · exact ⟨Nat.zero_le _, Nat.zero_le _⟩
  split
  · exact ⟨h.1, Nat.zero_le _⟩
  · exact ⟨Nat.zero_le _, Nat.zero_le _⟩
end Go.Proofs.YtmdmbimfdpngaaaGreat

/-! code.Put, forebayref01.Put and Get, forebayref04.Put. -/
namespace Go.Proofs.YtmdmbimfdpngaaaGreat
set_option linter.unusedSimpArgs false
set_option linter.unusedVariables false
open Go.RowKit Ga
set_option maxRecDepth 100000

/-- A program's numbers. -/
def nums (l : List Val) : List Int := l.flatMap fun i => [i.1, i.2]
def putI (l : List Val) : List UInt8 := Oc.be l.length ++ Oc.bes (nums l)
theorem nums_succ (l : List Val) (k : Nat) (h : k < l.length) : nums (l.take (k + 1)) = nums (l.take k) ++ [l[k].1, l[k].2] := by
  unfold nums
  rw [List.take_succ_eq_append_getElem h, List.flatMap_append]
  simp
theorem nums_len : ∀ (l : List Val), (nums l).length = l.length * 2
  | [] => rfl
  | i :: l => by have := nums_len l; unfold nums at *; simp at *; omega
theorem right_fitsN {x y : Int} (h : Co.rightI (x, y) = true) : Oc.fitsN x = true ∧ Oc.fitsN y = true := by
  obtain ⟨h0, h1, _, _⟩ := Co.right_parts h
  have := Co.right_arg h
  simp only at *
  unfold Oc.fitsN
  simp only [Bool.and_eq_true, decide_eq_true_eq]
  omega

/-! ### the document's -/
theorem refPut01_any (n : Int) (h : Oc.fitsN n = true) (w : World) : Calls Tryz.prog 102 #[.int .i64 n] w (Gives (str (Oc.be n)) w) := by
  unfold Oc.fitsN at h
  simp only [Bool.and_eq_true, decide_eq_true_eq] at h
  obtain ⟨h0, h1⟩ := h
  have key : ∀ u : Int, n % 4294967296 = u → n % 256 = u % 256 → (convert 68 9 (.slice (some ⟨w.heap.size, 0, none⟩) 4 4)).run Tryz.prog (w.alloc (.cells #[.int .u8 (u / 16777216), .int .u8 (u / 65536 % 256), .int .u8 (u / 256 % 256), .int .u8 (u % 256)] 5)) = .ok (.string ⟨(Oc.be n).toArray⟩) (w.alloc (.cells #[.int .u8 (u / 16777216), .int .u8 (u / 65536 % 256), .int .u8 (u / 256 % 256), .int .u8 (u % 256)] 5)) := by
    intro u hu hu2
    have hc := be_new w n 5 w.heap.size #[.int .u8 (u / 16777216), .int .u8 (u / 65536 % 256), .int .u8 (u / 256 % 256), .int .u8 (u % 256)] rfl (by rw [hu, hu2])
    refine run_convert_bytes_back _ _ _ 5 ⟨w.heap.size, 0, none⟩ 4 (Oc.be n) Tryz.underlying68 Tryz.underlying5 Tryz.underlying9 ?_
    intro j hj
    rw [addr_add_zero]
    refine hc j _ ?_
    have := flat_get encB_len (Oc.be n) j (Oc.be n)[j] (List.getElem?_eq_getElem hj) 0 (.int .u8 (Oc.be n)[j].toNat) rfl
    simpa using this
  by_cases hneg : n < 0
  · have hk := key (n + 4294967296) (by omega) (by omega)
    clear key
    go_enter Tryz.func102, Tryz.ntmps102
    go_wp2
    go_ret
    refine ⟨rfl, ?_⟩
    repeat (first | with_reducible exact Grew.refl _ | apply Grew.more | apply Grew.alloc | apply Grew.drew | apply Grew.drewN)
  · have hk := key n (by omega) rfl
    clear key
    go_enter Tryz.func102, Tryz.ntmps102
    go_wp2
    go_ret
    refine ⟨rfl, ?_⟩
    repeat (first | with_reducible exact Grew.refl _ | apply Grew.more | apply Grew.alloc | apply Grew.drew | apply Grew.drewN)

theorem putI_succ (l : List Val) (k : Nat) (h : k < l.length) : Oc.bes (nums (l.take (k + 1))) = Oc.bes (nums (l.take k)) ++ Oc.be l[k].1 ++ Oc.be l[k].2 := by
  rw [nums_succ l k h, Oc.bes_append, List.append_assoc]
  have : Oc.bes [l[k].1, l[k].2] = Oc.be l[k].1 ++ Oc.be l[k].2 := by unfold Oc.bes; simp
  rw [this]

set_option maxHeartbeats 4000000 in
theorem refPut04_any (v : Value) (l : List Val) (w : World) (hv : ValsAt w v l) (hf : Co.fitsI l = true) : Calls Tryz.prog 114 #[v] w (Gives (str (putI l)) w) := by
  obtain ⟨a, cap, rfl, hm, hl⟩ := hv.open2
  obtain ⟨l24, hrl⟩ := Co.fits_parts hf
  have HR := Lib.hid hrl
  clear hv hf hrl
  go_enter Tryz.func114, Tryz.ntmps114
  go_wp2_with (go_at_call 102; refine (refPut01_any _ (by simp [Oc.fitsN]; omega) _).mono ?_; rintro e w1 ⟨rfl, R3, n3, rfl⟩)
  go_loopw [3, 4] (fun t i wr => ∃ (k : Nat), k ≤ l.length ∧ i = .int .i64 k ∧ t = str (Oc.be l.length ++ Oc.bes (nums (l.take k))) ∧ Grew w wr) (fun _ i _ => l.length - (intOf i).toNat)
  case atStart => exact ⟨0, Nat.zero_le _, rfl, by simp [Oc.bes, nums], by repeat (first | with_reducible exact Grew.refl _ | apply Grew.more | apply Grew.alloc | apply Grew.drew | apply Grew.drewN)⟩
  case round =>
    obtain ⟨k, hk, rfl, rfl, R, n, rfl⟩ := hrel
    by_cases hlt : k < l.length
    · obtain ⟨b, off, rfl, hb, hx, hy⟩ := hl k hlt
      have hns := putI_succ l k hlt
      have hri := HR.out l[k] (List.getElem_mem hlt)
      have hnl := nums_len (l.take k)
      rw [List.length_take_of_le hk] at hnl
      have hTl : (Oc.be l.length ++ Oc.bes (nums (l.take k))).length ≤ 1000 := by rw [List.length_append, Oc.be_len, Oc.bes_len, hnl]; omega
      generalize l[k] = xy at *
      obtain ⟨x, y⟩ := xy
      obtain ⟨fx, fy⟩ := right_fitsN hri
      simp only at hx hy hns
      have hns2 : Oc.be l.length ++ Oc.bes (nums (l.take (k + 1))) = Oc.be l.length ++ Oc.bes (nums (l.take k)) ++ Oc.be x ++ Oc.be y := by rw [hns]; simp only [List.append_assoc]
      have lx := Oc.be_len x
      have ly := Oc.be_len y
      generalize Oc.be l.length ++ Oc.bes (nums (l.take k)) = T at *
      have hlx : (Oc.be x).length ≤ 4 := by omega
      have hly : (Oc.be y).length ≤ 4 := by omega
      have HNS := Lib.hid hns2
      clear hl hns hns2 hnl hri lx ly
      go_wp2_with fail
      refine wp_region_seq 15 Tryz.mixed (by kernel_rfl) (by kernel_rfl) ?_
      iterate 15
        apply Seq.val
        focus
          rintro w1 u ⟨R1, n1, rfl⟩ hF
          simp [moreFacts, Fact.more, Oper.deps, Region.binds, List.filter_cons, World.more_drew] at hF
          simp [putFacts, Oper.deps, Region.binds, List.filter_cons, Region.dstOf, Fact.at, Act.put, World.more_drew]
          go_wp2_with (first
            | (go_at_call 102; refine (refPut01_any _ (by assumption) _).mono ?_; rintro e w1 ⟨rfl, R3, n3, rfl⟩)
            )
          exact ⟨by repeat (first | with_reducible exact Grew.refl _ | apply Grew.more | apply Grew.alloc | apply Grew.drew | apply Grew.drewN), rfl, _, _, rfl, rfl, rfl⟩
      rintro u w1 ⟨R1, n1, rfl⟩ hF
      clear hF
      simp [putFacts, Region.dstOf, Fact.at, Act.put, List.range_succ, World.more_drew]
      go_wp2
      go_roundw
      case rel => exact ⟨k + 1, by omega, by go_num, by rw [HNS.out]; exact congrArg Value.string (by rw [str_cat, str_cat]), by repeat (first | with_reducible exact Grew.refl _ | apply Grew.more | apply Grew.alloc | apply Grew.drew | apply Grew.drewN)⟩
      case measure => first | (simp [intOf]; done) | (simp [intOf]; omega)
    · obtain rfl : k = l.length := by omega
      rw [List.take_length]
      clear hl
      go_wp2
      go_ret
      refine ⟨rfl, ?_⟩
      repeat (first | with_reducible exact Grew.refl _ | apply Grew.more | apply Grew.alloc | apply Grew.drew | apply Grew.drewN)
end Go.Proofs.YtmdmbimfdpngaaaGreat

/-! octet.Writer: what a write leaves as it was. -/
namespace Go.Proofs.YtmdmbimfdpngaaaGreat
set_option linter.unusedSimpArgs false
set_option linter.unusedVariables false
open Go.RowKit Ga
set_option maxRecDepth 100000

/-- all blocks stand as they stood but the writer's own -/
def KeptW (base B : Nat) (W W' : World) : Prop := W.heap.size ≤ W'.heap.size ∧ ∀ q, q < W.heap.size → q ≠ B → Safe base q W → W'.heap[q]? = W.heap[q]?
theorem KeptW.refl (base B : Nat) (W : World) : KeptW base B W W := ⟨Nat.le_refl _, fun _ _ _ _ => rfl⟩
theorem KeptW.ofGrew {base B : Nat} {W W' : World} (g : Grew W W') : KeptW base B W W' := ⟨g.below.size, fun q hq _ _ => g.below.block q hq⟩
theorem KeptW.trans {base B : Nat} {a b c : World} (h : KeptW base B a b) (k : KeptW base B b c) : KeptW base B a c :=
  ⟨Nat.le_trans h.1 k.1, fun q hq hn hs => by
    have h1 := h.2 q hq hn hs
    rw [k.2 q (Nat.lt_of_lt_of_le hq h.1) hn (hs.sameBlock h1), h1]⟩
theorem KeptW.step {base B : Nat} {wr W9 : World} {o : Obj} {vk v9 : Value} {ys : List UInt8} (hw : WriterAt base B wr vk ys) (hk : ∀ q, q < (wr.alloc o).heap.size → vk.ownBlock ≠ some q → W9.heap[q]? = (wr.alloc o).heap[q]?) : KeptW base B wr (W9.setCell ⟨B, 0, none⟩ v9) := by
  have hat : ∀ q, q < wr.heap.size → q ≠ B → Safe base q wr → (W9.setCell ⟨B, 0, none⟩ v9).heap[q]? = wr.heap[q]? := fun q hq hn hs => by
    rw [heap_set_other (fun e => hn e.symm), hk q (by rw [World.size_alloc]; omega) (hs.own hw.2.2)]
    have : wr.heap[q]? = some wr.heap[q] := Array.getElem?_eq_getElem hq
    rw [this]
    exact heap_alloc_old this _
  refine ⟨?_, hat⟩
  rw [World.size_setCell]
  have hne : vk.ownBlock ≠ some wr.heap.size := fun e => by
    have := (World.ownsRow.lt hw.2.2 _ e).2
    omega
  have h1 := hk wr.heap.size (by rw [World.size_alloc]; omega) hne
  rw [heap_new_at wr o _ rfl] at h1
  have := (Array.getElem?_eq_some_iff.1 h1).1
  omega
set_option maxHeartbeats 4000000 in
theorem writerNum_keep (w0 W : World) (B : Nat) (vb : Value) (bs : List UInt8) (v : Value) (l : List Int) (hw : WriterAt w0.heap.size B W vb bs) (hg : Grew w0 W) (hv : RowsAt 1 encN W v l)
    (hs : ∀ b off, (∃ n c, v = .slice (some ⟨b, off, none⟩) n c) → Safe w0.heap.size b W ∧ b ≠ B) (hok : l.all Oc.fitsN = true) (hlen : bs.length + l.length * 4 ≤ 100000) :
    Calls Tryz.prog 146 #[.pointer (some ⟨B, 0, none⟩), v] W fun e W' => e = .returned (.int .i64 0) ∧ Grew w0 W' ∧ KeptW w0.heap.size B W W' ∧ ∃ vb', WriterAt w0.heap.size B W' vb' (bs ++ Oc.bes l) := by
  obtain ⟨a, cap, rfl, hm, hl⟩ := hv.open1
  have HV := Lib.hid hv
  have HS := Lib.hid hs
  have HW := Lib.hid hw
  have HOK := Lib.hid hok
  clear hv hs hw hok
  go_enter Tryz.func146, Tryz.ntmps146
  go_wp2
  go_loop [14] (fun i => ∃ (k : Nat), k ≤ l.length ∧ i = .int .i64 k) (fun i => l.length - (intOf i).toNat)
  case atStart => exact ⟨0, Nat.zero_le _, rfl⟩
  case round =>
    obtain ⟨k, hk, rfl⟩ := hrel
    by_cases hlt : k < l.length
    · obtain ⟨b, off, rfl, hb, hx⟩ := hl k hlt
      have hf : Oc.fitsN l[k] = true := List.all_eq_true.1 HOK.out _ (List.getElem_mem hlt)
      generalize l[k] = x at *
      have HF := Lib.hid hf
      clear hl hf
      go_wp2_with (go_at_call 180; refine (octFits_any _ _).mono ?_; rintro e w1 ⟨rfl, rfl⟩; rw [HF.out])
      go_round
      case rel => exact ⟨k + 1, by omega, by go_num⟩
      case measure => first | (simp [intOf]; done) | (simp [intOf]; omega)
    · obtain rfl : k = l.length := by omega
      clear hl
      go_wp2
      go_loopw [24] (fun i wr => ∃ (k : Nat) (vk : Value), k ≤ l.length ∧ i = .int .i64 k ∧ WriterAt w0.heap.size B wr vk (bs ++ Oc.bes (l.take k)) ∧ Grew w0 wr ∧ RowsAt 1 encN wr (.slice a l.length cap) l ∧ (∀ b off, (∃ n c, (.slice a l.length cap : Value) = .slice (some ⟨b, off, none⟩) n c) → Safe w0.heap.size b wr ∧ b ≠ B) ∧ Hid (KeptW w0.heap.size B W wr))
        (fun i _ => l.length - (intOf i).toNat)
      case atStart => exact ⟨0, vb, Nat.zero_le _, rfl, by simpa [Oc.bes] using HW.out, hg, HV.out, HS.out, Lib.hid (KeptW.refl _ _ _)⟩
      case round =>
        obtain ⟨k, vk, hk, rfl, hwk, hgk, hrk, hsk, HKW⟩ := hrel
        by_cases hlt : k < l.length
        · obtain ⟨a', cap', hveq, -, hl⟩ := hrk.open1
          cases hveq
          obtain ⟨b, off, rfl, hb, hx⟩ := hl k hlt
          have hfx : Oc.fitsN l[k] = true := List.all_eq_true.1 HOK.out _ (List.getElem_mem hlt)
          have hbs := Oc.bes_succ l k hlt
          have hbl := Oc.bes_len (l.take k)
          rw [List.length_take_of_le hk] at hbl
          generalize l[k] = x at *
          unfold Oc.fitsN at hfx
          simp only [Bool.and_eq_true, decide_eq_true_eq] at hfx
          obtain ⟨x0, x1⟩ := hfx
          have HBS := Lib.hid hbs
          have HBL := Lib.hid hbl
          clear hbs hbl
          have hb' := hb
          have HWK := Lib.hid hwk
          have HRK := Lib.hid hrk
          have HSK := Lib.hid hsk
          have hcB := cell_of_heap (o := 0) hwk.2.1
          have hfB := frozen_of_heap (o := 0) hwk.2.1
          simp at hcB
          have HG := Lib.hid hgk
          clear hl hwk hrk hsk hgk hg
          go_wp2_with (at_builtin; refine wpList_ownG (w0 := w0) rfl (.tmp 35) (.tmp 47) 68 _ _ _ _ (Oc.be x) rfl Tryz.underlying68 infoU8 rfl (by decide) encB_len encB_one rfl (HWK.out.2.2.grew (by repeat (first | with_reducible exact Grew.refl _ | apply Grew.more | apply Grew.alloc | apply Grew.drew | apply Grew.drewN))) (HG.out.alloc _) rfl (be_new _ _ _ _ _ rfl rfl) (by rw [List.length_append, HBL.out, Oc.be_len]; omega) (by decide) ?_; intro v9 R9 n9 hown9 hkeep9; (have hB9 : (w0.more R9 n9).heap[B]? = some (.cells #[vk] 217) := by rw [hkeep9 B (by have := (Array.getElem?_eq_some_iff.1 HWK.out.2.1).1; simp [go_sem]; omega) (HWK.out.safe.own HWK.out.2.2)]; exact heap_alloc_old HWK.out.2.1 _); (have hcB9 := cell_of_heap (o := 0) hB9); (have hfB9 := frozen_of_heap (o := 0) hB9); simp at hcB9; obtain ⟨b9, N9, c9, rfl⟩ := own_some hown9 (fun h => by have h2 := congrArg List.length h; rw [List.length_append, Oc.be_len] at h2; simp at h2); (have HO9 := Lib.hid hown9); (have HK9 := Lib.hid hkeep9); (have HB9 := Lib.hid hB9); clear hown9 hkeep9 hB9)
          have hBb : B ≠ b := fun e => (HSK.out b off ⟨_, _, rfl⟩).2 e.symm
          have hsb := (HSK.out b off ⟨_, _, rfl⟩).1
          have hkb : (w0.more R9 n9).heap[b]? = wr.heap[b]? := by
            have hlt : b < wr.heap.size := hb'
            rw [HK9.out b (by simp [go_sem]; omega) (hsb.own HWK.out.2.2)]
            have : wr.heap[b]? = some wr.heap[b] := Array.getElem?_eq_getElem hlt
            rw [this]
            exact heap_alloc_old this _
          have hfin : ∀ v9, ((w0.more R9 n9).setCell ⟨B, 0, none⟩ v9).heap[b]? = wr.heap[b]? := fun v9 => by rw [heap_set_other hBb, hkb]
          have hsB : Safe w0.heap.size B (w0.more R9 n9) := .inr ⟨_, _, _, HB9.out, by decide⟩
          have HFIN := Lib.hid hfin
          clear hfin hkb
          go_roundw
          case rel =>
            refine ⟨k + 1, _, by omega, by go_num, ⟨HWK.out.1, heap_set_self HB9.out, ?_⟩, Grew.setBehind ⟨R9, n9, rfl⟩ HWK.out.1 _, RowsAt.sameBlock HRK.out ?_, ?_, Lib.hid (HKW.out.trans (KeptW.step HWK.out HK9.out))⟩
            · rw [HBS.out, ← List.append_assoc]
              exact OwnAt.sameBlock HO9.out fun q hq => heap_set_other (fun e => by subst e; exact hsB.own HO9.out hq)
            · rintro b2 off2 ⟨n2, c2, e⟩
              cases e; exact HFIN.out _
            · rintro b2 off2 ⟨n2, c2, e⟩
              cases e
              exact ⟨hsb.sameBlock (HFIN.out _), fun e => hBb e.symm⟩
          case measure => first | (simp [intOf]; done) | (simp [intOf]; omega)
        · obtain rfl : k = l.length := by omega
          rw [List.take_length] at hwk
          have HWK := Lib.hid hwk
          clear hwk hrk hsk
          go_wp2
          go_ret
          exact ⟨rfl, hgk, HKW.out, vk, HWK.out⟩
/-- Num of numbers that stand in a slice just made. -/
theorem writerNum_freshK (w0 W : World) (B : Nat) (vb : Value) (bs : List UInt8) (l : List Int) (c : List Value) (b n cap : Nat) (hw : WriterAt w0.heap.size B W vb bs) (hg : Grew w0 W) (hc : c = l.map (Value.int .i64)) (hb : b = W.heap.size) (hn : n = l.length)
    (hok : l.all Oc.fitsN = true) (hlen : bs.length + l.length * 4 ≤ 100000) :
    Calls Tryz.prog 146 #[.pointer (some ⟨B, 0, none⟩), .slice (some ⟨b, 0, none⟩) n cap] (W.alloc (.cells c.toArray 3)) fun e W' => e = .returned (.int .i64 0) ∧ Grew w0 W' ∧ KeptW w0.heap.size B W W' ∧ ∃ vb', WriterAt w0.heap.size B W' vb' (bs ++ Oc.bes l) := by
  have hB := (Array.getElem?_eq_some_iff.1 hw.2.1).1
  refine (writerNum_keep w0 _ B vb bs _ l (hw.grew ((Grew.refl W).alloc _)) (hg.alloc _) ?_ ?_ hok hlen).mono fun e W' ⟨h1, h2, h3, h4⟩ => ⟨h1, h2, (KeptW.ofGrew ((Grew.refl W).alloc _)).trans h3, h4⟩
  · refine RowsAt.fresh hn (by unfold maxLen; omega) encN_len hb ?_
    rw [hc]
    clear hc hok hlen hn
    induction l with
    | nil => rfl
    | cons x l ih => rw [List.map_cons, List.flatMap_cons, ih]; rfl
  · rintro b2 off ⟨n2, c2, e⟩
    cases e
    subst hb
    exact ⟨.inr ⟨_, _, _, heap_new_at W _ _ rfl, by decide⟩, by omega⟩
theorem rows_lt {α : Type} {k : Nat} {enc : α → List Value} {w : World} {b off n c : Nat} {l : List α} (h : RowsAt (k + 1) enc w (.slice (some ⟨b, off, none⟩) n c) l) (hn : 0 < l.length) (he : ∀ x, (enc x).length = k + 1 := by intro _; rfl) : b < w.heap.size := by
  obtain ⟨a, cap, e, hm, hx⟩ := h
  obtain ⟨b', off', e2, hc⟩ := hx (by intro e; subst e; simp at hn)
  cases e
  cases e2
  have h0 : 0 < (enc l[0]).length := by rw [he]; omega
  exact World.block_lt_of_cell? w _ (hc 0 l[0] (List.getElem?_eq_getElem hn) 0 _ (List.getElem?_eq_getElem h0))
set_option maxHeartbeats 4000000 in
theorem codePut_keep (w0 W : World) (B : Nat) (vb : Value) (bs : List UInt8) (v : Value) (l : List Val) (hw : WriterAt w0.heap.size B W vb bs) (hg : Grew w0 W) (hv : ValsAt W v l) (hs : ∀ b off, (∃ n c, v = .slice (some ⟨b, off, none⟩) n c) → Safe w0.heap.size b W ∧ b ≠ B) (hf : Co.fitsI l = true) (hlen : bs.length ≤ 10000) :
    Calls Tryz.prog 181 #[.pointer (some ⟨B, 0, none⟩), v] W fun e W' => e = .returned (.int .i64 0) ∧ Grew w0 W' ∧ KeptW w0.heap.size B W W' ∧ ∃ vb', WriterAt w0.heap.size B W' vb' (bs ++ putI l) := by
  obtain ⟨a, cap, rfl, hm, -⟩ := hv.open2
  obtain ⟨l24, hrl⟩ := Co.fits_parts hf
  have HV := Lib.hid hv
  have HSF := Lib.hid hs
  have HF := Lib.hid hf
  have HR := Lib.hid hrl
  have HW := Lib.hid hw
  have HG := Lib.hid hg
  clear hv hs hf hrl hw hg
  go_enter Tryz.func181, Tryz.ntmps181
  go_wp2_with (first
    | (go_at_call 184; refine (codeFits_any _ l _ (HV.out.grew (by repeat (first | with_reducible exact Grew.refl _ | apply Grew.more | apply Grew.alloc | apply Grew.drew | apply Grew.drewN)))).mono ?_; rintro e w1 ⟨rfl, R3, n3, rfl⟩; rw [HF.out])
    | (go_at_call 146; refine (writerNum_freshK w0 _ B vb bs [(l.length : Int)] [.int .i64 l.length] _ _ _ (HW.out.grew (by repeat (first | with_reducible exact Grew.refl _ | apply Grew.more | apply Grew.alloc | apply Grew.drew | apply Grew.drewN))) (HG.out.trans (by repeat (first | with_reducible exact Grew.refl _ | apply Grew.more | apply Grew.alloc | apply Grew.drew | apply Grew.drewN))) rfl (by simp [go_sem]) rfl (by simp [Oc.fitsN]; omega) (by simp; omega)).mono ?_; rintro e w1 ⟨rfl, hg1, hk1, vb1, hw1⟩; (have HW1 := Lib.hid hw1); (have HG1 := Lib.hid hg1); (have HK1 := Lib.hid ((KeptW.ofGrew (W := W) (by repeat (first | with_reducible exact Grew.refl _ | apply Grew.more | apply Grew.alloc | apply Grew.drew | apply Grew.drewN))).trans hk1)); clear hw1 hg1 hk1)
    )
  go_loopw [21] (fun i wr => ∃ (k : Nat) (vk : Value), k ≤ l.length ∧ i = .int .i64 k ∧ WriterAt w0.heap.size B wr vk (bs ++ Oc.be l.length ++ Oc.bes (nums (l.take k))) ∧ Hid (Grew w0 wr) ∧ Hid (KeptW w0.heap.size B W wr)) (fun i _ => l.length - (intOf i).toNat)
  case atStart => exact ⟨0, vb1, Nat.zero_le _, rfl, by have := HW1.out; simpa [Oc.bes, nums] using this, HG1, HK1⟩
  case round =>
    obtain ⟨k, vk, hk, rfl, hwk, HGR, HKR⟩ := hrel
    have HWK := Lib.hid hwk
    clear hwk
    by_cases hlt : k < l.length
    · have hrk : ValsAt wr (.slice a l.length cap) l := RowsAt.sameBlock HV.out (fun b off h => HKR.out.2 b (by obtain ⟨n1, c1, e1⟩ := h; cases e1; exact rows_lt HV.out (by omega)) (HSF.out b off h).2 (HSF.out b off h).1)
      obtain ⟨a', cap', e', -, hl⟩ := hrk.open2
      cases e'
      obtain ⟨b, off, rfl, hb, hx, hy⟩ := hl k hlt
      have hns := nums_succ l k hlt
      have hri := HR.out l[k] (List.getElem_mem hlt)
      have hnl := nums_len (l.take k)
      rw [List.length_take_of_le hk] at hnl
      generalize l[k] = xy at *
      obtain ⟨x, y⟩ := xy
      obtain ⟨fx, fy⟩ := right_fitsN hri
      simp only at hx hy hns
      have HNS := Lib.hid hns
      have HNL := Lib.hid hnl
      have HFX := Lib.hid fx
      have HFY := Lib.hid fy
      clear hl hns hnl fx fy hri hrk
      go_wp2_with (go_at_call 146; refine (writerNum_freshK w0 _ B vk _ [x, y] [.int .i64 x, .int .i64 y] _ _ _ (HWK.out.grew (by repeat (first | with_reducible exact Grew.refl _ | apply Grew.more | apply Grew.alloc | apply Grew.drew | apply Grew.drewN))) (HGR.out.trans (by repeat (first | with_reducible exact Grew.refl _ | apply Grew.more | apply Grew.alloc | apply Grew.drew | apply Grew.drewN))) rfl (by simp [go_sem]) rfl (by simp [HFX.out, HFY.out]) (by rw [List.length_append, List.length_append, Oc.be_len, Oc.bes_len, HNL.out]; simp; omega)).mono ?_; rintro e w1 ⟨rfl, hg2, hk2, vb2, hw2⟩; (have HW2 := Lib.hid hw2); (have HG2 := Lib.hid hg2); (have HK2 := Lib.hid hk2); clear hw2 hg2 hk2)
      go_roundw
      case rel => exact ⟨k + 1, vb2, by omega, by go_num, by rw [HNS.out, Oc.bes_append, ← List.append_assoc]; exact HW2.out, HG2, Lib.hid (HKR.out.trans ((KeptW.ofGrew (by repeat (first | with_reducible exact Grew.refl _ | apply Grew.more | apply Grew.alloc | apply Grew.drew | apply Grew.drewN))).trans HK2.out))⟩
      case measure => first | (simp [intOf]; done) | (simp [intOf]; omega)
    · obtain rfl : k = l.length := by omega
      go_wp2
      go_ret
      refine ⟨rfl, HGR.out, HKR.out, vk, ?_⟩
      have := HWK.out
      rw [List.take_length, List.append_assoc] at this
      exact this

end Go.Proofs.YtmdmbimfdpngaaaGreat
