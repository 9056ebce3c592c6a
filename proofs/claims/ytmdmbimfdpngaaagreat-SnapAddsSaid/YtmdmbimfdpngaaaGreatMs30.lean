import Derived.Test.YtmdmbimfdpngaaaGreatMs29
import Derived.ChangeKeysEq
import Derived.Test.YtmdmbimfdpngaaaGreatMs27
/-! pack.GetGraph. -/
namespace Go.Proofs.YtmdmbimfdpngaaaGreat
set_option linter.unusedSimpArgs false
set_option linter.unusedVariables false
open Go.RowKit Ga
set_option maxRecDepth 100000

theorem readL_many : ∀ (n : Nat) (s : List UInt8) (acc : List Val), (readL n s acc).1.length ≤ acc.length + n
  | 0, s, acc => Nat.le_refl _
  | n + 1, s, acc => by
    rw [readL]
    split
    · simp
    · split
      · simp
      · have := readL_many n (numR (within s 0 17).2.2).2.2 (acc ++ [((within s 0 17).1, (numR (within s 0 17).2.2).1)])
        rw [List.length_append] at this
        simp at this
        omega
theorem getL_many (s : List UInt8) : (getL s).1.length ≤ 24 := by
  have h0 : (within s 0 24).1.toNat ≤ 24 := by
    have := numS_range (a := 0) (b := 24) (s, 0) (by omega) (by omega)
    unfold Gr.numS at this
    rw [if_neg (by simp)] at this
    have h2 : (within s 0 24).1 ≤ 24 := this.2
    omega
  have h1 := readL_many (within s 0 24).1.toNat (within s 0 24).2.2 []
  simp only [List.length_nil, Nat.zero_add] at h1
  unfold getL
  split
  · simp
  · split
    · omega
    · split
      · omega
      · simp
theorem nodeS_small (lp : Int) (s : Gr.Rs) : (Gr.nodeS getL lp s).1.frm.length ≤ 3 ∧ (Gr.nodeS getL lp s).1.prog.length ≤ 24 ∧ 0 ≤ (Gr.nodeS getL lp s).1.id ∧ (Gr.nodeS getL lp s).1.id ≤ 7 ∧ (Gr.nodeS getL lp s).1.route.length = 8 := by
  unfold Gr.nodeS
  simp only
  have h1 := numS_range (a := 0) (b := 7) s (by omega) (by omega)
  refine ⟨?_, ?_, h1.1, h1.2, (listS_len 0 2 8 _).1⟩
  · rw [(listS_len 0 7 _ _).1]
    have := numS_range (a := 0) (b := 3) (Gr.numS 0 2 (Gr.numS 0 7 s).2).2 (by omega) (by omega)
    omega
  · unfold Gr.progS
    split
    · simp
    · exact getL_many _
theorem NodesAt.nil (w : World) : NodesAt w (.slice none 0 0) [] := ⟨[], RowsAt.nil, rfl, fun i c n h => by simp at h⟩
theorem rd_new (w : World) (s : List UInt8) : RdAt w.heap.size (w.heap.size + 1) w.heap.size ((w.alloc (.cells #[.string ⟨s.toArray⟩] 223)).alloc (.cells #[.pointer (some ⟨w.heap.size, 0, none⟩), .int .i64 0] 199)) (s, 0) :=
  ⟨by omega, heap_new_at _ _ _ (by rw [World.size_alloc]), Nat.le_refl _, heap_alloc_old (heap_new_at _ _ _ rfl) _⟩

end Go.Proofs.YtmdmbimfdpngaaaGreat

/-! [8]int: equal. -/
namespace Go.Proofs.YtmdmbimfdpngaaaGreat
set_option linter.unusedSimpArgs false
set_option linter.unusedVariables false
open Go.RowKit Ga
set_option maxRecDepth 100000
set_option maxHeartbeats 4000000 in
theorem eq8 (r0 r1 r2 r3 r4 r5 r6 r7 s0 s1 s2 s3 s4 s5 s6 s7 : Int) (w : World) : (binOp .eql 40 (.agg #[.int .i64 r0, .int .i64 r1, .int .i64 r2, .int .i64 r3, .int .i64 r4, .int .i64 r5, .int .i64 r6, .int .i64 r7]) (.agg #[.int .i64 s0, .int .i64 s1, .int .i64 s2, .int .i64 s3, .int .i64 s4, .int .i64 s5, .int .i64 s6, .int .i64 s7])).run Tryz.prog w = .ok (.bool (decide ([r0, r1, r2, r3, r4, r5, r6, r7] = [s0, s1, s2, s3, s4, s5, s6, s7]))) w := by
  have u3 := Tryz.underlying3
  have a3 := Tryz.isAgg3
  have z3 := Tryz.sizeOf3
  obtain ⟨i, hi⟩ : ∃ i, Tryz.prog.info? 3 = some i := info_of_underlying u3
  rw [run_eql_struct, show (10000 : Nat) = 9999 + 1 from rfl, run_equalIn_array w 9999 _ _ Tryz.underlying40 hi]
  rw [show Tryz.prog.cellsOf 3 = 1 by kernel_rfl]
  rw [show List.range 8 = [0, 1, 2, 3, 4, 5, 6, 7] from rfl]
  simp only [Op.eqItems]
  go_simp
  by_cases h0 : r0 = s0
  · by_cases h1 : r1 = s1
    · by_cases h2 : r2 = s2
      · by_cases h3 : r3 = s3
        · by_cases h4 : r4 = s4
          · by_cases h5 : r5 = s5
            · by_cases h6 : r6 = s6
              · by_cases h7 : r7 = s7
                · simp [h0, h1, h2, h3, h4, h5, h6, h7]
                · simp [h0, h1, h2, h3, h4, h5, h6, h7]
              · simp [h0, h1, h2, h3, h4, h5, h6]
            · simp [h0, h1, h2, h3, h4, h5]
          · simp [h0, h1, h2, h3, h4]
        · simp [h0, h1, h2, h3]
      · simp [h0, h1, h2]
    · simp [h0, h1]
  · simp [h0]
end Go.Proofs.YtmdmbimfdpngaaaGreat

/-! forebayref13.num, Node, Graph. -/
namespace Go.Proofs.YtmdmbimfdpngaaaGreat
set_option linter.unusedSimpArgs false
set_option linter.unusedVariables false
open Go.RowKit Ga
set_option maxRecDepth 100000

theorem num13_any (n : Int) (h : Oc.fitsN n = true) (w : World) : Calls Tryz.prog 59 #[.int .i64 n] w (Gives (str (Oc.be n)) w) := by
  have HP := Lib.hid fun W => refPut01_any n h W
  clear h
  go_enter Tryz.func59, Tryz.ntmps59
  go_wp2_with (go_at_call 102; refine (HP.out _).mono ?_; rintro e w1 ⟨rfl, R3, n3, rfl⟩)
  go_ret
  refine ⟨rfl, ?_⟩
  repeat (first | with_reducible exact Grew.refl _ | apply Grew.more | apply Grew.alloc | apply Grew.drew | apply Grew.drewN)
theorem enc_rt {a0 a1 a2 a3 a4 : Value} {r0 r1 r2 r3 r4 r5 r6 r7 : Int} (g : Nat) (h : g < 8) : (#[a0, a1, a2, a3, a4, .int .i64 r0, .int .i64 r1, .int .i64 r2, .int .i64 r3, .int .i64 r4, .int .i64 r5, .int .i64 r6, .int .i64 r7] : Array Value)[5 + g]? = some (.int .i64 ([r0, r1, r2, r3, r4, r5, r6, r7] : List Int)[g]) := by
  rcases (show g = 0 ∨ g = 1 ∨ g = 2 ∨ g = 3 ∨ g = 4 ∨ g = 5 ∨ g = 6 ∨ g = 7 by omega) with rfl | rfl | rfl | rfl | rfl | rfl | rfl | rfl <;> rfl
set_option maxHeartbeats 8000000 in
theorem node13_any (c : NdC) (n : Gr.Nd) (lp : Int) (hlp : -2147483648 ≤ lp) (w : World) (hn : NodeIs w c n) (hok : Gr.OkB fitsP lp n) : Calls Tryz.prog 81 #[.agg #[.int .i64 c.id, .int .i64 c.kind, .slice c.af c.nf c.cf, .slice c.ap c.np c.cp, .int .i64 c.par, .int .i64 c.r0, .int .i64 c.r1, .int .i64 c.r2, .int .i64 c.r3, .int .i64 c.r4, .int .i64 c.r5, .int .i64 c.r6, .int .i64 c.r7]] w (Gives (str (Gr.putNd putI n)) w) := by
  have HF := Lib.hid hn.f
  have HP := Lib.hid hn.p
  have HFI : Hid (Co.fitsI n.prog = true) := Lib.hid hok.p
  have HFF := Lib.hid hok.f
  have HOO := Lib.hid hok.o
  have hfl := hok.m
  have hq := putNd_eq [] n
  obtain ⟨id, kind, af, cf, ap, cp, par, r0, r1, r2, r3, r4, r5, r6, r7, rfl⟩ := hn.lit
  have e1 := hn.id
  have e2 := hn.kind
  have e3 := hn.par
  have e4 := hn.route
  simp only at e1 e2 e3 e4 HF HP
  rw [List.nil_append, List.nil_append, be_three, be_one, e1, e2, e3, e4] at hq
  have f1 : Oc.fitsN id = true := by rw [← e1]; exact fits_of (by have := hok.i; omega) (by have := hok.i; omega)
  have f2 : Oc.fitsN kind = true := by rw [← e2]; exact fits_of (by have := hok.k; omega) (by have := hok.k; omega)
  have f3 : Oc.fitsN (n.frm.length : Int) = true := fits_of (by omega) (by omega)
  have f4 : Oc.fitsN par = true := by rw [← e3]; exact fits_of (by have := hok.r; omega) (by have := hok.r; omega)
  have E4 := Lib.hid e4
  have HQ := Lib.hid hq
  have hpl := putI_len n.prog hok.p
  clear hq e1 e2 e3 e4 hn hok
  generalize hpg : n.prog.length = pl at *
  obtain ⟨fr, hfr⟩ : ∃ fr, fr = n.frm := ⟨_, rfl⟩
  have HFR := Lib.hid hfr
  rw [← hfr] at HF HFF hfl HQ f3
  rw [← hfr]
  clear hfr hpg
  show Calls Tryz.prog 81 #[.agg #[.int .i64 id, .int .i64 kind, .slice af fr.length cf, .slice ap pl cp, .int .i64 par, .int .i64 r0, .int .i64 r1, .int .i64 r2, .int .i64 r3, .int .i64 r4, .int .i64 r5, .int .i64 r6, .int .i64 r7]] w _
  have b1 : (Oc.be id).length ≤ 4 := Nat.le_of_eq (Oc.be_len _)
  have b2 : (Oc.be kind).length ≤ 4 := Nat.le_of_eq (Oc.be_len _)
  have b3 : (Oc.be (fr.length : Int)).length ≤ 4 := Nat.le_of_eq (Oc.be_len _)
  have b4 : (Oc.be par).length ≤ 4 := Nat.le_of_eq (Oc.be_len _)
  go_enter Tryz.func81, Tryz.ntmps81
  go_wp2_with fail
  refine wp_region_seq 13 Tryz.mixed (by kernel_rfl) (by kernel_rfl) ?_
  iterate 13
    apply Seq.val
    focus
      rintro w1 u ⟨R1, n1, rfl⟩ hF
      simp [moreFacts, Fact.more, Oper.deps, Region.binds, List.filter_cons, World.more_drew] at hF
      simp [putFacts, Oper.deps, Region.binds, List.filter_cons, Region.dstOf, Fact.at, Act.put, World.more_drew]
      go_wp2_with (first
        | (go_at_call 59; refine (num13_any _ (by assumption) _).mono ?_; rintro e w1 ⟨rfl, R3, n3, rfl⟩)
        )
      exact ⟨by repeat (first | with_reducible exact Grew.refl _ | apply Grew.more | apply Grew.alloc | apply Grew.drew | apply Grew.drewN), rfl, _, _, rfl, rfl, rfl⟩
  rintro u w1 ⟨R1, n1, rfl⟩ hF
  clear hF
  simp [putFacts, Region.dstOf, Fact.at, Act.put, List.range_succ, World.more_drew]
  go_wp2
  have hT0 : (Oc.be id ++ (Oc.be kind ++ Oc.be (fr.length : Int))).length ≤ 12 := by simp only [List.length_append, Oc.be_len]; omega
  have hbe : (⟨(Oc.be id).toArray⟩ ++ ⟨(Oc.be kind).toArray⟩ ++ ⟨(Oc.be (fr.length : Int)).toArray⟩ : ByteArray) = ⟨(Oc.be id ++ (Oc.be kind ++ Oc.be (fr.length : Int))).toArray⟩ := by rw [str_cat, str_cat, List.append_assoc]
  rw [hbe]
  have hlen0 : (Oc.be (fr.length : Int)) = (Oc.be (fr.length : Int)) := rfl
  generalize Oc.be id ++ (Oc.be kind ++ Oc.be (fr.length : Int)) = T0 at *
  clear hbe hlen0
  go_loopg [3, 4] fr.length (fun gg s3 s4 wr => ∃ g : Nat, g ≤ fr.length ∧ fr.length - g ≤ gg ∧ s4 = .int .i64 g ∧ s3 = str (T0 ++ Oc.bes (fr.take g)) ∧ Hid (Grew w wr) ∧ Hid (wr.heap[w.heap.size]? = some (.cells #[.int .i64 id, .int .i64 kind, .slice af fr.length cf, .slice ap pl cp, .int .i64 par, .int .i64 r0, .int .i64 r1, .int .i64 r2, .int .i64 r3, .int .i64 r4, .int .i64 r5, .int .i64 r6, .int .i64 r7] 42)))
  case atStart => exact ⟨0, by omega, by omega, rfl, by simp [Oc.bes], Lib.hid (by repeat (first | with_reducible exact Grew.refl _ | apply Grew.more | apply Grew.alloc | apply Grew.drew | apply Grew.drewN)), Lib.hid (grew_heap (by repeat (first | with_reducible exact Grew.refl _ | apply Grew.more | apply Grew.alloc | apply Grew.drew | apply Grew.drewN)) (heap_new_at w _ _ rfl))⟩
  case round =>
    obtain ⟨g, hg8, hgg, rfl, rfl, HGR, HBX⟩ := hrel
    have d2 := cell_of (o := 2) HBX.out
    have d3 := cell_of (o := 3) HBX.out
    have d4 := cell_of (o := 4) HBX.out
    have px := Pre.mk (heap_lt HBX.out)
    simp at d2 d3 d4
    have hbl := Oc.bes_len (fr.take g)
    rw [List.length_take_of_le hg8] at hbl
    have hTl : (T0 ++ Oc.bes (fr.take g)).length ≤ 100 := by rw [List.length_append, hbl]; omega
    by_cases hlt : g < fr.length
    · obtain ⟨af', cf', e, -, hx⟩ := ints_open (HF.out.grew HGR.out)
      cases e
      obtain ⟨bf, offf, rfl, hpf, cx⟩ := hx g hlt
      have hbs := Oc.bes_succ fr g hlt
      have hfx := HFF.out _ (List.getElem_mem hlt)
      clear hx
      generalize fr[g] = x at *
      have fx : Oc.fitsN x = true := fits_of (by omega) (by omega)
      have bx : (Oc.be x).length ≤ 4 := Nat.le_of_eq (Oc.be_len _)
      have hns : T0 ++ Oc.bes (fr.take (g + 1)) = (T0 ++ Oc.bes (fr.take g)) ++ Oc.be x := by rw [hbs, List.append_assoc]
      have HNS := Lib.hid hns
      clear hns hbs hbl hfx d3 d4
      generalize T0 ++ Oc.bes (fr.take g) = T at *
      go_wp2_with (go_at_call 59; refine (num13_any _ fx _).mono ?_; rintro e w2 ⟨rfl, R5, n5, rfl⟩)
      go_roundg (fr.length - (g + 1))
      case measure => omega
      case rel => exact ⟨g + 1, by omega, by omega, by go_num, by rw [HNS.out]; exact congrArg Value.string (str_cat _ _), Lib.hid (HGR.out.trans (by repeat (first | with_reducible exact Grew.refl _ | apply Grew.more | apply Grew.alloc | apply Grew.drew | apply Grew.drewN))), Lib.hid (grew_heap (by repeat (first | with_reducible exact Grew.refl _ | apply Grew.more | apply Grew.alloc | apply Grew.drew | apply Grew.drewN)) HBX.out)⟩
    · obtain rfl : g = fr.length := by omega
      rw [List.take_length] at *
      generalize hT1 : T0 ++ Oc.bes fr = T1 at *
      have HT1 := Lib.hid hT1
      have HPg := Lib.hid (HP.out.grew HGR.out)
      have hpp : (putI n.prog).length ≤ 200 := hpl
      clear hT1 hbl
      go_wp2_with fail
      refine wp_region_seq 9 Tryz.mixed (by kernel_rfl) (by kernel_rfl) ?_
      iterate 9
        apply Seq.val
        focus
          rintro w1 u ⟨R1, n1, rfl⟩ hF
          simp [moreFacts, Fact.more, Oper.deps, Region.binds, List.filter_cons, World.more_drew] at hF
          simp [putFacts, Oper.deps, Region.binds, List.filter_cons, Region.dstOf, Fact.at, Act.put, World.more_drew]
          go_wp2_with (first
            | (go_at_call 114; refine (refPut04_any _ n.prog _ (HPg.out.grew (by repeat (first | with_reducible exact Grew.refl _ | apply Grew.more | apply Grew.alloc | apply Grew.drew | apply Grew.drewN))) HFI.out).mono ?_; rintro e w2 ⟨rfl, R5, n5, rfl⟩)
            | (go_at_call 59; refine (num13_any _ f4 _).mono ?_; rintro e w2 ⟨rfl, R5, n5, rfl⟩))
          exact ⟨by repeat (first | with_reducible exact Grew.refl _ | apply Grew.more | apply Grew.alloc | apply Grew.drew | apply Grew.drewN), rfl, _, _, rfl, rfl, rfl⟩
      rintro u w1 ⟨R1, n1, rfl⟩ hF
      clear hF
      simp [putFacts, Region.dstOf, Fact.at, Act.put, List.range_succ, World.more_drew]
      go_wp2
      have hbe2 : (⟨T1.toArray⟩ ++ ⟨(putI n.prog).toArray⟩ ++ ⟨(Oc.be par).toArray⟩ : ByteArray) = ⟨((T1 ++ putI n.prog) ++ Oc.be par).toArray⟩ := by rw [str_cat, str_cat]
      rw [hbe2]
      have hT2l : ((T1 ++ putI n.prog) ++ Oc.be par).length ≤ 400 := by simp only [List.length_append, Oc.be_len]; omega
      generalize hT2 : (T1 ++ putI n.prog) ++ Oc.be par = T2 at *
      have HT2 := Lib.hid hT2
      clear hbe2 hT2 d3 d4
      go_loopg [3, 5] 8 (fun gg s3 s5 ws => ∃ g : Nat, g ≤ 8 ∧ 8 - g ≤ gg ∧ s5 = .int .i64 g ∧ s3 = str (T2 ++ Oc.bes (([r0, r1, r2, r3, r4, r5, r6, r7] : List Int).take g)) ∧ Hid (Grew w ws) ∧ Hid (ws.heap[w.heap.size]? = some (.cells #[.int .i64 id, .int .i64 kind, .slice af fr.length cf, .slice ap pl cp, .int .i64 par, .int .i64 r0, .int .i64 r1, .int .i64 r2, .int .i64 r3, .int .i64 r4, .int .i64 r5, .int .i64 r6, .int .i64 r7] 42)))
      case atStart => exact ⟨0, by omega, by omega, rfl, by simp [Oc.bes], Lib.hid (HGR.out.trans (by repeat (first | with_reducible exact Grew.refl _ | apply Grew.more | apply Grew.alloc | apply Grew.drew | apply Grew.drewN))), Lib.hid (grew_heap (by repeat (first | with_reducible exact Grew.refl _ | apply Grew.more | apply Grew.alloc | apply Grew.drew | apply Grew.drewN)) HBX.out)⟩
      case round =>
        obtain ⟨h, hh8, hhg, rfl, rfl, HGS, HBS⟩ := hrel
        have px2 := Pre.mk (heap_lt HBS.out)
        have hbl2 := Oc.bes_len (([r0, r1, r2, r3, r4, r5, r6, r7] : List Int).take h)
        rw [List.length_take_of_le (show h ≤ ([r0, r1, r2, r3, r4, r5, r6, r7] : List Int).length from hh8)] at hbl2
        have hTl2 : (T2 ++ Oc.bes (([r0, r1, r2, r3, r4, r5, r6, r7] : List Int).take h)).length ≤ 500 := by rw [List.length_append, hbl2]; omega
        by_cases hlt2 : h < 8
        · have dg := cell_of (o := 5 + h) HBS.out
          rw [enc_rt h hlt2] at dg
          have hbs := Oc.bes_succ ([r0, r1, r2, r3, r4, r5, r6, r7] : List Int) h hlt2
          have hfx := HOO.out _ (by rw [E4.out]; exact List.getElem_mem (show h < ([r0, r1, r2, r3, r4, r5, r6, r7] : List Int).length from hlt2))
          have hns : T2 ++ Oc.bes (([r0, r1, r2, r3, r4, r5, r6, r7] : List Int).take (h + 1)) = (T2 ++ Oc.bes (([r0, r1, r2, r3, r4, r5, r6, r7] : List Int).take h)) ++ Oc.be ([r0, r1, r2, r3, r4, r5, r6, r7] : List Int)[h] := by rw [hbs, List.append_assoc]
          have HNS := Lib.hid hns
          clear hns hbs hbl2
          generalize ([r0, r1, r2, r3, r4, r5, r6, r7] : List Int)[h] = x at *
          have fx : Oc.fitsN x = true := fits_of (by omega) (by omega)
          have bx : (Oc.be x).length ≤ 4 := Nat.le_of_eq (Oc.be_len _)
          generalize T2 ++ Oc.bes (([r0, r1, r2, r3, r4, r5, r6, r7] : List Int).take h) = T at *
          clear hfx
          go_wp2_with (go_at_call 59; refine (num13_any _ fx _).mono ?_; rintro e w2 ⟨rfl, R7, n7, rfl⟩)
          go_roundg (8 - (h + 1))
          case measure => omega
          case rel => exact ⟨h + 1, by omega, by omega, by go_num, by rw [HNS.out]; exact congrArg Value.string (str_cat _ _), Lib.hid (HGS.out.trans (by repeat (first | with_reducible exact Grew.refl _ | apply Grew.more | apply Grew.alloc | apply Grew.drew | apply Grew.drewN))), Lib.hid (grew_heap (by repeat (first | with_reducible exact Grew.refl _ | apply Grew.more | apply Grew.alloc | apply Grew.drew | apply Grew.drewN)) HBS.out)⟩
        · obtain rfl : h = 8 := by omega
          clear hbl2
          go_wp2
          go_ret
          exact ⟨by rw [← HQ.out]; rfl, HGS.out⟩
end Go.Proofs.YtmdmbimfdpngaaaGreat

/-! forebayref13.Graph. -/
namespace Go.Proofs.YtmdmbimfdpngaaaGreat
set_option linter.unusedSimpArgs false
set_option linter.unusedVariables false
open Go.RowKit Ga
set_option maxRecDepth 100000

end Go.Proofs.YtmdmbimfdpngaaaGreat

/-! forebayref08.Node, Same. -/
namespace Go.Proofs.YtmdmbimfdpngaaaGreat
set_option linter.unusedSimpArgs false
set_option linter.unusedVariables false
open Go.RowKit Ga
set_option maxRecDepth 100000

open Classical in
/-- two nodes are one -/
noncomputable def eqNd (n m : Gr.Nd) : Bool := decide (n = m)
open Classical in
theorem eqNd_false {n m : Gr.Nd} (h : n ≠ m) : eqNd n m = false := by unfold eqNd; exact decide_eq_false h
open Classical in
theorem eqNd_true {n m : Gr.Nd} (h : n = m) : eqNd n m = true := by unfold eqNd; exact decide_eq_true h
theorem eqNd_iff {n m : Gr.Nd} {p : Prop} [Decidable p] (h : n = m ↔ p) : eqNd n m = decide p := by
  by_cases hp : p
  · rw [eqNd_true (h.2 hp), decide_eq_true hp]
  · rw [eqNd_false (fun q => hp (h.1 q)), decide_eq_false hp]
set_option maxHeartbeats 8000000 in
theorem refNode08_any (c d : NdC) (n m : Gr.Nd) (w : World) (hn : NodeIs w c n) (hm : NodeIs w d m) : Calls Tryz.prog 40 #[.agg #[.int .i64 c.id, .int .i64 c.kind, .slice c.af c.nf c.cf, .slice c.ap c.np c.cp, .int .i64 c.par, .int .i64 c.r0, .int .i64 c.r1, .int .i64 c.r2, .int .i64 c.r3, .int .i64 c.r4, .int .i64 c.r5, .int .i64 c.r6, .int .i64 c.r7], .agg #[.int .i64 d.id, .int .i64 d.kind, .slice d.af d.nf d.cf, .slice d.ap d.np d.cp, .int .i64 d.par, .int .i64 d.r0, .int .i64 d.r1, .int .i64 d.r2, .int .i64 d.r3, .int .i64 d.r4, .int .i64 d.r5, .int .i64 d.r6, .int .i64 d.r7]] w (Gives (.bool (eqNd n m)) w) := by
  have HF := Lib.hid hn.f
  have HF2 := Lib.hid hm.f
  have HS := Lib.hid fun W (g : Grew w W) => refSame_any _ _ n.prog m.prog W (hn.p.grew g) (hm.p.grew g)
  obtain ⟨id, kind, af, cf, ap, cp, par, r0, r1, r2, r3, r4, r5, r6, r7, rfl⟩ := hn.lit
  obtain ⟨id2, kind2, af2, cf2, ap2, cp2, par2, s0, s1, s2, s3, s4, s5, s6, s7, rfl⟩ := hm.lit
  have e1 := hn.id
  have e2 := hn.kind
  have e3 := hn.par
  have e4 := hn.route
  have g1 := hm.id
  have g2 := hm.kind
  have g3 := hm.par
  have g4 := hm.route
  simp only at e1 e2 e3 e4 g1 g2 g3 g4 HF HF2 HS
  have E1 := Lib.hid e1
  have E2 := Lib.hid e2
  have E3 := Lib.hid e3
  have E4 := Lib.hid e4
  have G1 := Lib.hid g1
  have G2 := Lib.hid g2
  have G3 := Lib.hid g3
  have G4 := Lib.hid g4
  obtain ⟨fn, hfn⟩ : ∃ fn, fn = n.frm := ⟨_, rfl⟩
  obtain ⟨fm, hfm⟩ : ∃ fm, fm = m.frm := ⟨_, rfl⟩
  have HFN := Lib.hid hfn
  have HFM := Lib.hid hfm
  rw [← hfn] at HF
  rw [← hfm] at HF2
  rw [← hfn, ← hfm]
  clear e1 e2 e3 e4 g1 g2 g3 g4 hn hm hfn hfm
  have H8 := Lib.hid (eq8 r0 r1 r2 r3 r4 r5 r6 r7 s0 s1 s2 s3 s4 s5 s6 s7)
  show Calls Tryz.prog 40 #[.agg #[.int .i64 id, .int .i64 kind, .slice af fn.length cf, .slice ap n.prog.length cp, .int .i64 par, .int .i64 r0, .int .i64 r1, .int .i64 r2, .int .i64 r3, .int .i64 r4, .int .i64 r5, .int .i64 r6, .int .i64 r7], .agg #[.int .i64 id2, .int .i64 kind2, .slice af2 fm.length cf2, .slice ap2 m.prog.length cp2, .int .i64 par2, .int .i64 s0, .int .i64 s1, .int .i64 s2, .int .i64 s3, .int .i64 s4, .int .i64 s5, .int .i64 s6, .int .i64 s7]] w _
  by_cases hlen : fn.length = fm.length
  · have hne : ((fn.length : Int) != (fm.length : Int)) = false := by simp; omega
    have HLEN := Lib.hid hlen
    clear hlen
    go_enter Tryz.func40, Tryz.ntmps40
    go_wp2
    go_loopg [5] fn.length (fun gg z5 wr => ∃ g : Nat, g ≤ fn.length ∧ fn.length - g ≤ gg ∧ z5 = .int .i64 g ∧ Hid (Grew w wr) ∧ Hid (wr.heap[w.heap.size]? = some (.cells #[.int .i64 id, .int .i64 kind, .slice af fn.length cf, .slice ap n.prog.length cp, .int .i64 par, .int .i64 r0, .int .i64 r1, .int .i64 r2, .int .i64 r3, .int .i64 r4, .int .i64 r5, .int .i64 r6, .int .i64 r7] 42)) ∧ Hid (wr.heap[w.heap.size + 1]? = some (.cells #[.int .i64 id2, .int .i64 kind2, .slice af2 fm.length cf2, .slice ap2 m.prog.length cp2, .int .i64 par2, .int .i64 s0, .int .i64 s1, .int .i64 s2, .int .i64 s3, .int .i64 s4, .int .i64 s5, .int .i64 s6, .int .i64 s7] 42)) ∧ Hid (∀ j (h1 : j < fn.length) (h2 : j < fm.length), j < g → fn[j] = fm[j]))
    case atStart => exact ⟨0, by omega, by omega, rfl, Lib.hid (by repeat (first | with_reducible exact Grew.refl _ | apply Grew.more | apply Grew.alloc | apply Grew.drew | apply Grew.drewN)), Lib.hid (heap_alloc_old (heap_new_at w _ _ rfl) _), Lib.hid (heap_new_at _ _ _ (by rw [World.size_alloc])), Lib.hid fun j _ _ h => by omega⟩
    case round =>
      obtain ⟨g, hg8, hgg, rfl, HGR, HBX, HBY, HNO⟩ := hrel
      have c0 := cell_of (o := 0) HBX.out
      have d0 := cell_of (o := 0) HBY.out
      have c1 := cell_of (o := 1) HBX.out
      have d1 := cell_of (o := 1) HBY.out
      have c2 := cell_of (o := 2) HBX.out
      have d2 := cell_of (o := 2) HBY.out
      have c3 := cell_of (o := 3) HBX.out
      have d3 := cell_of (o := 3) HBY.out
      have c4 := cell_of (o := 4) HBX.out
      have d4 := cell_of (o := 4) HBY.out
      have c5 := cell_of (o := 5) HBX.out
      have d5 := cell_of (o := 5) HBY.out
      have c6 := cell_of (o := 6) HBX.out
      have d6 := cell_of (o := 6) HBY.out
      have c7 := cell_of (o := 7) HBX.out
      have d7 := cell_of (o := 7) HBY.out
      have c8 := cell_of (o := 8) HBX.out
      have d8 := cell_of (o := 8) HBY.out
      have c9 := cell_of (o := 9) HBX.out
      have d9 := cell_of (o := 9) HBY.out
      have c10 := cell_of (o := 10) HBX.out
      have d10 := cell_of (o := 10) HBY.out
      have c11 := cell_of (o := 11) HBX.out
      have d11 := cell_of (o := 11) HBY.out
      have c12 := cell_of (o := 12) HBX.out
      have d12 := cell_of (o := 12) HBY.out
      have px := Pre.mk (heap_lt HBX.out)
      have py := Pre.mk (heap_lt HBY.out)
      simp at c0 d0 c1 d1 c2 d2 c3 d3 c4 d4 c5 d5 c6 d6 c7 d7 c8 d8 c9 d9 c10 d10 c11 d11 c12 d12
      by_cases hlt : g < fn.length
      · obtain ⟨af', cf', e, hfb, hx⟩ := ints_open (HF.out.grew HGR.out)
        cases e
        obtain ⟨bf, offf, rfl, hpf, cx⟩ := hx g hlt
        obtain ⟨af3, cf3, e, -, hy⟩ := ints_open (HF2.out.grew HGR.out)
        cases e
        have hlt2 : g < fm.length := by have := HLEN.out; omega
        obtain ⟨bg, offg, rfl, hpg, cy⟩ := hy g hlt2
        have hmeas : fn.length - (g + 1) < fn.length - g := by omega
        have hg1 : g + 1 ≤ fn.length := hlt
        have HMEAS := Lib.hid (And.intro hmeas hg1)
        clear hmeas hg1 hx hy c0 d0 c1 d1 c3 d3 c4 d4 c5 d5 c6 d6 c7 d7 c8 d8 c9 d9 c10 d10 c11 d11 c12 d12
        by_cases hxy : fn[g] = fm[g]
        · have HXYZ := Lib.hid hxy
          rw [← hxy] at cy
          clear hxy
          generalize hgx : fn[g] = x at *
          have HGX := Lib.hid hgx
          clear hgx
          go_wp2_with fail
          go_quiet (fail)
          go_wp2
          go_roundg (fn.length - (g + 1))
          case measure => (have := HMEAS.out; omega)
          case rel => exact ⟨g + 1, HMEAS.out.2, Nat.le_refl _, by go_num, Lib.hid (HGR.out.trans (by repeat (first | with_reducible exact Grew.refl _ | apply Grew.more | apply Grew.alloc | apply Grew.drew | apply Grew.drewN))), Lib.hid (grew_heap (by repeat (first | with_reducible exact Grew.refl _ | apply Grew.more | apply Grew.alloc | apply Grew.drew | apply Grew.drewN)) HBX.out), Lib.hid (grew_heap (by repeat (first | with_reducible exact Grew.refl _ | apply Grew.more | apply Grew.alloc | apply Grew.drew | apply Grew.drewN)) HBY.out), Lib.hid fun j h1 h2 h => by
            rcases Nat.lt_or_ge j g with h3 | h3
            · exact HNO.out j h1 h2 h3
            · obtain rfl : j = g := by omega
              rw [HGX.out]
              exact HXYZ.out⟩
        · have hno : eqNd n m = false := eqNd_false fun h => hxy (by
            have := HFN.out.trans ((congrArg Gr.Nd.frm h).trans HFM.out.symm)
            subst this
            rfl)
          have HNO2 := Lib.hid hno
          have hxb : (fn[g] != fm[g]) = true := by rw [bne_iff_ne]; exact hxy
          clear hno hxy
          generalize fn[g] = x at *
          generalize fm[g] = y at *
          go_wp2_with fail
          go_quiet (fail)
          go_wp2
          go_ret
          exact ⟨by rw [HNO2.out]; rfl, HGR.out.trans (by repeat (first | with_reducible exact Grew.refl _ | apply Grew.more | apply Grew.alloc | apply Grew.drew | apply Grew.drewN))⟩
      · obtain rfl : g = fn.length := by omega
        have hff : fn = fm := List.ext_getElem HLEN.out fun j h1 h2 => HNO.out j h1 h2 h1
        have HFF := Lib.hid (HFN.out.symm.trans (hff.trans HFM.out))
        clear hff
        by_cases i0 : id = id2
        · by_cases k0 : kind = kind2
          · by_cases p0 : par = par2
            · by_cases r0e : ([r0, r1, r2, r3, r4, r5, r6, r7] : List Int) = [s0, s1, s2, s3, s4, s5, s6, s7]
              · have hR := Lib.hid r0e
                have h8 := fun W => (H8.out W).trans (by rw [decide_eq_true r0e])
                have hdec : eqNd n m = decide (n.prog = m.prog) := by
                  refine eqNd_iff ⟨fun h => by rw [h], fun h => ?_⟩
                  obtain ⟨a1, a2, a3, a4, a5, a6⟩ := n
                  obtain ⟨b1, b2, b3, b4, b5, b6⟩ := m
                  have q1 := E1.out
                  have q2 := G1.out
                  have q3 := E2.out
                  have q4 := G2.out
                  have q5 := E3.out
                  have q6 := G3.out
                  have q7 := E4.out
                  have q8 := G4.out
                  have q9 := HFF.out
                  simp only at q1 q2 q3 q4 q5 q6 q7 q8 q9 h
                  rw [q1, q2, q3, q4, q5, q6, q7, q8, q9, h, i0, k0, p0, r0e]
                have HDEC := Lib.hid hdec
                subst i0 k0 p0
                clear hdec r0e
                generalize decide (n.prog = m.prog) = q at *
                go_wp2_with (go_at_call 82; refine (HS.out _ (HGR.out.trans (by repeat (first | with_reducible exact Grew.refl _ | apply Grew.more | apply Grew.alloc | apply Grew.drew | apply Grew.drewN)))).mono ?_; rintro e w2 ⟨rfl, R5, n5, rfl⟩)
                go_ret
                exact ⟨by rw [HDEC.out]; rfl, HGR.out.trans (by repeat (first | with_reducible exact Grew.refl _ | apply Grew.more | apply Grew.alloc | apply Grew.drew | apply Grew.drewN))⟩
              · have h8 := fun W => (H8.out W).trans (by rw [decide_eq_false r0e])
                subst i0 k0 p0
                have hno : eqNd n m = false := eqNd_false fun h => r0e (E4.out.symm.trans ((congrArg Gr.Nd.route h).trans G4.out))
                have HNO2 := Lib.hid hno
                clear hno
                clear r0e
                go_wp2
                go_ret
                exact ⟨by rw [HNO2.out]; rfl, HGR.out⟩
            · subst i0 k0
              have p0b : (par == par2) = false := by simpa using p0
              have hno : eqNd n m = false := eqNd_false fun h => p0 (E3.out.symm.trans ((congrArg Gr.Nd.par h).trans G3.out))
              have HNO2 := Lib.hid hno
              clear hno
              clear p0
              go_wp2
              go_ret
              exact ⟨by rw [HNO2.out]; rfl, HGR.out⟩
          · subst i0
            have k0b : (kind == kind2) = false := by simpa using k0
            have hno : eqNd n m = false := eqNd_false fun h => k0 (E2.out.symm.trans ((congrArg Gr.Nd.kind h).trans G2.out))
            have HNO2 := Lib.hid hno
            clear hno
            clear k0
            go_wp2
            go_ret
            exact ⟨by rw [HNO2.out]; rfl, HGR.out⟩
        · have i0b : (id == id2) = false := by simpa using i0
          have hno : eqNd n m = false := eqNd_false fun h => i0 (E1.out.symm.trans ((congrArg Gr.Nd.id h).trans G1.out))
          have HNO2 := Lib.hid hno
          clear hno
          clear i0
          go_wp2
          go_ret
          exact ⟨by rw [HNO2.out]; rfl, HGR.out⟩
  · have hne : ((fn.length : Int) != (fm.length : Int)) = true := by rw [bne_iff_ne]; omega
    have hno : eqNd n m = false := eqNd_false fun h => hlen (by
      have := HFN.out.trans ((congrArg Gr.Nd.frm h).trans HFM.out.symm)
      rw [this])
    rw [hno]
    clear hno hlen
    go_enter Tryz.func40, Tryz.ntmps40
    go_wp2
    go_ret
    refine ⟨rfl, ?_⟩
    repeat (first | with_reducible exact Grew.refl _ | apply Grew.more | apply Grew.alloc | apply Grew.drew | apply Grew.drewN)
end Go.Proofs.YtmdmbimfdpngaaaGreat
