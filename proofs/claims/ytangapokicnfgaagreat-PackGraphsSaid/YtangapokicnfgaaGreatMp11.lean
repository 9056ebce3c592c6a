import Derived.Test.YtangapokicnfgaaGreatMp7
import Derived.Test.YtangapokicnfgaaGreatMp10
/-! code.Put, forebayref01.Put and Get, forebayref04.Put. -/
namespace Go.Proofs.YtangapokicnfgaaGreat
set_option linter.unusedSimpArgs false
set_option linter.unusedVariables false
open Go.RowKit Ga
set_option maxRecDepth 100000

/-- A program's numbers. -/
def nums (l : List Val) : List Int := l.flatMap fun i => [i.1, i.2]
def putI (l : List Val) : List UInt8 := Oc.be l.length ++ Oc.bes (nums l)
theorem nums_succ (l : List Val) (k : Nat) (h : k < l.length) : nums (l.take (k + 1)) = nums (l.take k) ++ [l[k].1, l[k].2] := by
  unfold nums
  rw [List.take_succ_eq_append_getElem h, List.flatMap_append]
  simp
theorem nums_len : ∀ (l : List Val), (nums l).length = l.length * 2
  | [] => rfl
  | i :: l => by have := nums_len l; unfold nums at *; simp at *; omega
theorem right_fitsN {x y : Int} (h : Co.rightI (x, y) = true) : Oc.fitsN x = true ∧ Oc.fitsN y = true := by
  obtain ⟨h0, h1, _, _⟩ := Co.right_parts h
  have := Co.right_arg h
  simp only at *
  unfold Oc.fitsN
  simp only [Bool.and_eq_true, decide_eq_true_eq]
  omega

theorem codePut_nil (v : Value) (w : World) : Calls Tryz.prog 116 #[.pointer none, v] w fun e w' => e = .returned (.int .i64 1) ∧ w = w' := by
  go_enter Tryz.func116, Tryz.ntmps116
  go_wp2
  go_ret
  exact ⟨rfl, rfl⟩

theorem codePut_no (w0 W : World) (B : Nat) (v : Value) (l : List Val) (hg : Grew w0 W) (hv : ValsAt W v l) (hf : Co.fitsI l = false) :
    Calls Tryz.prog 116 #[.pointer (some ⟨B, 0, none⟩), v] W fun e W' => e = .returned (.int .i64 1) ∧ Grew W W' := by
  have HV := Lib.hid hv
  have HF := Lib.hid hf
  clear hv hf
  go_enter Tryz.func116, Tryz.ntmps116
  go_wp2_with (go_at_call 132; refine (codeFits_any _ l _ HV.out).mono ?_; rintro e w1 ⟨rfl, R3, n3, rfl⟩; rw [HF.out])
  go_ret
  refine ⟨rfl, ?_⟩
  repeat (first | with_reducible exact Grew.refl _ | apply Grew.more | apply Grew.alloc | apply Grew.drew | apply Grew.drewN)

set_option maxHeartbeats 4000000 in
theorem codePut_any (w0 W : World) (B : Nat) (vb : Value) (bs : List UInt8) (v : Value) (l : List Val) (hw : WriterAt w0.heap.size B W vb bs) (hg : Grew w0 W) (hv : ValsAt w0 v l) (hf : Co.fitsI l = true) (hlen : bs.length ≤ 10000) :
    Calls Tryz.prog 116 #[.pointer (some ⟨B, 0, none⟩), v] W fun e W' => e = .returned (.int .i64 0) ∧ Grew w0 W' ∧ ∃ vb', WriterAt w0.heap.size B W' vb' (bs ++ putI l) := by
  obtain ⟨a, cap, rfl, hm, hl⟩ := hv.open2
  obtain ⟨l24, hrl⟩ := Co.fits_parts hf
  have HV := Lib.hid hv
  have HF := Lib.hid hf
  have HR := Lib.hid hrl
  have HW := Lib.hid hw
  have HG := Lib.hid hg
  clear hv hf hrl hw hg
  obtain ⟨R0, N0, rfl⟩ := HG.out
  go_enter Tryz.func116, Tryz.ntmps116
  go_wp2_with (first
    | (go_at_call 132; refine (codeFits_any _ l _ (HV.out.grew (by repeat (first | with_reducible exact Grew.refl _ | apply Grew.more | apply Grew.alloc | apply Grew.drew | apply Grew.drewN)))).mono ?_; rintro e w1 ⟨rfl, R3, n3, rfl⟩; rw [HF.out])
    | (go_at_call 53; refine (writerNum_fresh w0 _ B vb bs [(l.length : Int)] [.int .i64 l.length] _ _ _ (HW.out.grew (by repeat (first | with_reducible exact Grew.refl _ | apply Grew.more | apply Grew.alloc | apply Grew.drew | apply Grew.drewN))) (by repeat (first | with_reducible exact Grew.refl _ | apply Grew.more | apply Grew.alloc | apply Grew.drew | apply Grew.drewN)) rfl (by simp [go_sem]) rfl (by simp [Oc.fitsN]; omega) (by simp; omega)).mono ?_; rintro e w1 ⟨rfl, ⟨R4, n4, rfl⟩, vb1, hw1⟩; (have HW1 := Lib.hid hw1); clear hw1)
    )
  go_loopw [21] (fun i wr => ∃ (k : Nat) (vk : Value), k ≤ l.length ∧ i = .int .i64 k ∧ WriterAt w0.heap.size B wr vk (bs ++ Oc.be l.length ++ Oc.bes (nums (l.take k))) ∧ Grew w0 wr) (fun i _ => l.length - (intOf i).toNat)
  case atStart => exact ⟨0, vb1, Nat.zero_le _, rfl, by have := HW1.out; simpa [Oc.bes, nums] using this, by repeat (first | with_reducible exact Grew.refl _ | apply Grew.more | apply Grew.alloc | apply Grew.drew | apply Grew.drewN)⟩
  case round =>
    obtain ⟨k, vk, hk, rfl, hwk, R, n, rfl⟩ := hrel
    have HWK := Lib.hid hwk
    clear hwk
    by_cases hlt : k < l.length
    · obtain ⟨b, off, rfl, hb, hx, hy⟩ := hl k hlt
      have hns := nums_succ l k hlt
      have hri := HR.out l[k] (List.getElem_mem hlt)
      have hnl := nums_len (l.take k)
      rw [List.length_take_of_le hk] at hnl
      generalize l[k] = xy at *
      obtain ⟨x, y⟩ := xy
      obtain ⟨fx, fy⟩ := right_fitsN hri
      simp only at hx hy hns
      have HNS := Lib.hid hns
      have HNL := Lib.hid hnl
      have HFX := Lib.hid fx
      have HFY := Lib.hid fy
      clear hl hns hnl fx fy hri
      go_wp2_with (go_at_call 53; refine (writerNum_fresh w0 _ B vk _ [x, y] [.int .i64 x, .int .i64 y] _ _ _ (HWK.out.grew (by repeat (first | with_reducible exact Grew.refl _ | apply Grew.more | apply Grew.alloc | apply Grew.drew | apply Grew.drewN))) (by repeat (first | with_reducible exact Grew.refl _ | apply Grew.more | apply Grew.alloc | apply Grew.drew | apply Grew.drewN)) rfl (by simp [go_sem]) rfl (by simp [HFX.out, HFY.out]) (by rw [List.length_append, List.length_append, Oc.be_len, Oc.bes_len, HNL.out]; simp; omega)).mono ?_; rintro e w1 ⟨rfl, ⟨R5, n5, rfl⟩, vb2, hw2⟩; (have HW2 := Lib.hid hw2); clear hw2)
      go_roundw
      case rel => exact ⟨k + 1, vb2, by omega, by go_num, by rw [HNS.out, Oc.bes_append, ← List.append_assoc]; exact HW2.out, by repeat (first | with_reducible exact Grew.refl _ | apply Grew.more | apply Grew.alloc | apply Grew.drew | apply Grew.drewN)⟩
      case measure => first | (simp [intOf]; done) | (simp [intOf]; omega)
    · obtain rfl : k = l.length := by omega
      clear hl
      go_wp2
      go_ret
      refine ⟨rfl, by repeat (first | with_reducible exact Grew.refl _ | apply Grew.more | apply Grew.alloc | apply Grew.drew | apply Grew.drewN), vk, ?_⟩
      have := HWK.out
      rw [List.take_length, List.append_assoc] at this
      exact this

/-! ### the document's -/
theorem refPut01_any (n : Int) (h : Oc.fitsN n = true) (w : World) : Calls Tryz.prog 84 #[.int .i64 n] w (Gives (str (Oc.be n)) w) := by
  unfold Oc.fitsN at h
  simp only [Bool.and_eq_true, decide_eq_true_eq] at h
  obtain ⟨h0, h1⟩ := h
  have key : ∀ u : Int, n % 4294967296 = u → n % 256 = u % 256 → (convert 65 9 (.slice (some ⟨w.heap.size, 0, none⟩) 4 4)).run Tryz.prog (w.alloc (.cells #[.int .u8 (u / 16777216), .int .u8 (u / 65536 % 256), .int .u8 (u / 256 % 256), .int .u8 (u % 256)] 5)) = .ok (.string ⟨(Oc.be n).toArray⟩) (w.alloc (.cells #[.int .u8 (u / 16777216), .int .u8 (u / 65536 % 256), .int .u8 (u / 256 % 256), .int .u8 (u % 256)] 5)) := by
    intro u hu hu2
    have hc := be_new w n 5 w.heap.size #[.int .u8 (u / 16777216), .int .u8 (u / 65536 % 256), .int .u8 (u / 256 % 256), .int .u8 (u % 256)] rfl (by rw [hu, hu2])
    refine run_convert_bytes_back _ _ _ 5 ⟨w.heap.size, 0, none⟩ 4 (Oc.be n) Tryz.underlying65 Tryz.underlying5 Tryz.underlying9 ?_
    intro j hj
    rw [addr_add_zero]
    refine hc j _ ?_
    have := flat_get encB_len (Oc.be n) j (Oc.be n)[j] (List.getElem?_eq_getElem hj) 0 (.int .u8 (Oc.be n)[j].toNat) rfl
    simpa using this
  by_cases hneg : n < 0
  · have hk := key (n + 4294967296) (by omega) (by omega)
    clear key
    go_enter Tryz.func84, Tryz.ntmps84
    go_wp2
    go_ret
    refine ⟨rfl, ?_⟩
    repeat (first | with_reducible exact Grew.refl _ | apply Grew.more | apply Grew.alloc | apply Grew.drew | apply Grew.drewN)
  · have hk := key n (by omega) rfl
    clear key
    go_enter Tryz.func84, Tryz.ntmps84
    go_wp2
    go_ret
    refine ⟨rfl, ?_⟩
    repeat (first | with_reducible exact Grew.refl _ | apply Grew.more | apply Grew.alloc | apply Grew.drew | apply Grew.drewN)


theorem putI_succ (l : List Val) (k : Nat) (h : k < l.length) : Oc.bes (nums (l.take (k + 1))) = Oc.bes (nums (l.take k)) ++ Oc.be l[k].1 ++ Oc.be l[k].2 := by
  rw [nums_succ l k h, Oc.bes_append, List.append_assoc]
  have : Oc.bes [l[k].1, l[k].2] = Oc.be l[k].1 ++ Oc.be l[k].2 := by unfold Oc.bes; simp
  rw [this]

set_option maxHeartbeats 4000000 in
theorem refPut04_any (v : Value) (l : List Val) (w : World) (hv : ValsAt w v l) (hf : Co.fitsI l = true) : Calls Tryz.prog 85 #[v] w (Gives (str (putI l)) w) := by
  obtain ⟨a, cap, rfl, hm, hl⟩ := hv.open2
  obtain ⟨l24, hrl⟩ := Co.fits_parts hf
  have HR := Lib.hid hrl
  clear hv hf hrl
  go_enter Tryz.func85, Tryz.ntmps85
  go_wp2_with (go_at_call 84; refine (refPut01_any _ (by simp [Oc.fitsN]; omega) _).mono ?_; rintro e w1 ⟨rfl, R3, n3, rfl⟩)
  go_loopw [3, 4] (fun t i wr => ∃ (k : Nat), k ≤ l.length ∧ i = .int .i64 k ∧ t = str (Oc.be l.length ++ Oc.bes (nums (l.take k))) ∧ Grew w wr) (fun _ i _ => l.length - (intOf i).toNat)
  case atStart => exact ⟨0, Nat.zero_le _, rfl, by simp [Oc.bes, nums], by repeat (first | with_reducible exact Grew.refl _ | apply Grew.more | apply Grew.alloc | apply Grew.drew | apply Grew.drewN)⟩
  case round =>
    obtain ⟨k, hk, rfl, rfl, R, n, rfl⟩ := hrel
    by_cases hlt : k < l.length
    · obtain ⟨b, off, rfl, hb, hx, hy⟩ := hl k hlt
      have hns := putI_succ l k hlt
      have hri := HR.out l[k] (List.getElem_mem hlt)
      have hnl := nums_len (l.take k)
      rw [List.length_take_of_le hk] at hnl
      have hTl : (Oc.be l.length ++ Oc.bes (nums (l.take k))).length ≤ 1000 := by rw [List.length_append, Oc.be_len, Oc.bes_len, hnl]; omega
      generalize l[k] = xy at *
      obtain ⟨x, y⟩ := xy
      obtain ⟨fx, fy⟩ := right_fitsN hri
      simp only at hx hy hns
      have hns2 : Oc.be l.length ++ Oc.bes (nums (l.take (k + 1))) = Oc.be l.length ++ Oc.bes (nums (l.take k)) ++ Oc.be x ++ Oc.be y := by rw [hns]; simp only [List.append_assoc]
      have lx := Oc.be_len x
      have ly := Oc.be_len y
      generalize Oc.be l.length ++ Oc.bes (nums (l.take k)) = T at *
      have hlx : (Oc.be x).length ≤ 4 := by omega
      have hly : (Oc.be y).length ≤ 4 := by omega
      have HNS := Lib.hid hns2
      clear hl hns hns2 hnl hri lx ly
      go_wp2_with fail
      refine wp_region_seq 15 Tryz.mixed (by kernel_rfl) (by kernel_rfl) ?_
      iterate 15
        apply Seq.val
        focus
          rintro w1 u ⟨R1, n1, rfl⟩ hF
          simp [moreFacts, Fact.more, Oper.deps, Region.binds, List.filter_cons, World.more_drew] at hF
          simp [putFacts, Oper.deps, Region.binds, List.filter_cons, Region.dstOf, Fact.at, Act.put, World.more_drew]
          go_wp2_with (first
            | (go_at_call 84; refine (refPut01_any _ (by assumption) _).mono ?_; rintro e w1 ⟨rfl, R3, n3, rfl⟩)
            )
          exact ⟨by repeat (first | with_reducible exact Grew.refl _ | apply Grew.more | apply Grew.alloc | apply Grew.drew | apply Grew.drewN), rfl, _, _, rfl, rfl, rfl⟩
      rintro u w1 ⟨R1, n1, rfl⟩ hF
      clear hF
      simp [putFacts, Region.dstOf, Fact.at, Act.put, List.range_succ, World.more_drew]
      go_wp2
      go_roundw
      case rel => exact ⟨k + 1, by omega, by go_num, by rw [HNS.out]; exact congrArg Value.string (by rw [str_cat, str_cat]), by repeat (first | with_reducible exact Grew.refl _ | apply Grew.more | apply Grew.alloc | apply Grew.drew | apply Grew.drewN)⟩
      case measure => first | (simp [intOf]; done) | (simp [intOf]; omega)
    · obtain rfl : k = l.length := by omega
      rw [List.take_length]
      clear hl
      go_wp2
      go_ret
      refine ⟨rfl, ?_⟩
      repeat (first | with_reducible exact Grew.refl _ | apply Grew.more | apply Grew.alloc | apply Grew.drew | apply Grew.drewN)
end Go.Proofs.YtangapokicnfgaaGreat
