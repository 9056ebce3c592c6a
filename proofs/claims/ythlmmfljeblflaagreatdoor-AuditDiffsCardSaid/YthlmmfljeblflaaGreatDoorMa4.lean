import Derived.Test.YthlmmfljeblflaaGreatDoorMa0
import Derived.Test.YthlmmfljeblflaaGreatDoorMc26
import Derived.Test.YthlmmfljeblflaaGreatDoorMc34
/-! AuditDiffs, cut: the tables of both. -/
namespace Go.Proofs.YthlmmfljeblflaaGreatDoor
set_option linter.unusedSimpArgs false
set_option linter.unusedVariables false
open Go.RowKit Ga
set_option maxRecDepth 100000

theorem newT_take28 {l : List Tab.En} {j : Nat} (hj : j < l.length) : Tab.newT (l.take (j + 1)) = Tab.setT (Tab.newT (l.take j)) l[j] := newT_succ hj
theorem newOk_take28 {l : List Tab.En} {j : Nat} (hj : j < l.length) : newOk (l.take (j + 1)) = (newOk (l.take j) && okEn l[j]) := by
  unfold newOk
  rw [List.take_succ_eq_append_getElem hj, List.all_append]
  simp
theorem zeroTab28 : Tryz.zeroCells51 = Array.replicate 2048 (.int .i64 0) := by kernel_rfl
theorem made28 (W : World) (t : Nat) (ht : t = W.heap.size) : RTabAt (W.alloc (.cells Tryz.zeroCells51 51)) t (fun _ _ => zer) := by
  rw [zeroTab28]
  exact RTabAt.made W t ht
abbrev at4 (W : World) (t o : Nat) (a b c d : Int) : World := (((W.setCell ⟨t, o, none⟩ (.int .i64 a)).setCell ⟨t, o + 1, none⟩ (.int .i64 b)).setCell ⟨t, o + 2, none⟩ (.int .i64 c)).setCell ⟨t, o + 3, none⟩ (.int .i64 d)
theorem at4_other {W : World} {t o q : Nat} {a b c d : Int} (h : q ≠ t) : (at4 W t o a b c d).heap[q]? = W.heap[q]? := by
  unfold at4
  rw [set_other (fun e => h e.symm), set_other (fun e => h e.symm), set_other (fun e => h e.symm), set_other (fun e => h e.symm)]
/-- both tables, and what is wanted so far -/
structure Tabs28 (w0 W : World) (tr ur : Nat) (v7 : Value) (l7 : List (List UInt8)) (f g : FTab) : Prop where
  gr : Grew w0 W
  t : RTabAt W tr f
  u : RTabAt W ur g
  o : OwnAt w0.heap.size 9 1 encS W v7 l7
  lt : w0.heap.size ≤ tr
  lu : w0.heap.size ≤ ur
  ne : tr ≠ ur
section
variable {w0 W W' : World} {tr ur : Nat} {v7 : Value} {l7 : List (List UInt8)} {f g : FTab}
theorem Tabs28.grew (h : Tabs28 w0 W tr ur v7 l7 f g) (q : Grew W W') : Tabs28 w0 W' tr ur v7 l7 f g := ⟨h.gr.trans q, h.t.grew q, h.u.grew q, h.o.grew q, h.lt, h.lu, h.ne⟩
theorem RTabAt.notOwn {t : Nat} (h : RTabAt W t f) (o : OwnAt w0.heap.size 9 1 encS W v7 l7) : v7.ownBlock ≠ some t := by
  obtain ⟨C, h1, _⟩ := h
  exact OwnAt.other o h1 (by decide)
theorem Tabs28.set1 (h : Tabs28 w0 W tr ur v7 l7 f g) {n k : Nat} (hn : n < 8) (hk : k < 64) (a b c d : Int) : Tabs28 w0 (at4 W tr (n * 256 + k * 4) a b c d) tr ur v7 l7 (setF f n k ((a, b), (c, d))) g :=
  ⟨(((h.gr.set h.lt _).set h.lt _).set h.lt _).set h.lt _, h.t.set hn hk a b c d, h.u.same (at4_other fun e => h.ne e.symm), OwnAt.same h.o fun b hb => at4_other fun e => h.t.notOwn h.o (e ▸ hb), h.lt, h.lu, h.ne⟩
theorem Tabs28.set2 (h : Tabs28 w0 W tr ur v7 l7 f g) {n k : Nat} (hn : n < 8) (hk : k < 64) (a b c d : Int) : Tabs28 w0 (at4 W ur (n * 256 + k * 4) a b c d) tr ur v7 l7 f (setF g n k ((a, b), (c, d))) :=
  ⟨(((h.gr.set h.lu _).set h.lu _).set h.lu _).set h.lu _, h.t.same (at4_other fun e => h.ne e), h.u.set hn hk a b c d, OwnAt.same h.o fun b hb => at4_other fun e => h.u.notOwn h.o (e ▸ hb), h.lt, h.lu, h.ne⟩
theorem Tabs28.app {v' : Value} {l' : List (List UInt8)} (h : Tabs28 w0 W tr ur v7 l7 f g) (hA : Appended w0 9 1 encS W v7 l' v' W') : Tabs28 w0 W' tr ur v' l' f g :=
  ⟨hA.1, h.t.same (hA.2.2.2.1 _ h.t.lt (h.t.notOwn h.o)), h.u.same (hA.2.2.2.1 _ h.u.lt (h.u.notOwn h.o)), hA.2.1, h.lt, h.lu, h.ne⟩
end
def RelIf (r : Bool) (m : List Tab.En) (f : FTab) : Prop := r = true → RelT m f
set_option maxHeartbeats 32000000 in
theorem ad_p5 (w0 W : World) (x y : Nat) (c d : MfC) (ma mb : Gr.Mf) (Q : Exit → Act → World → Prop) (a0 : Act) (v7 : Value) (l7 : List (List UInt8))
    (h0 : Pre28 w0 x y c d a0 W) (hm : MfIs w0 c ma) (hm2 : MfIs w0 d mb) (h7 : a0.tmps.getD 7 undef = v7) (ho : OwnAt w0.heap.size 9 1 encS W v7 l7) (hl : ma.ents.length ≤ 100)
    (hret : ∀ a' w', Ret28 w0 a' w' → Q .ret a' w')
    (hnext : ∀ a' w' tr ur f g, Pre28 w0 x y c d a' w' → a'.tmps.getD 7 undef = v7 → a'.tmps.getD 16 undef = .pointer (some ⟨tr, 0, none⟩) → a'.tmps.getD 17 undef = .pointer (some ⟨ur, 0, none⟩) → a'.tmps.getD 18 undef = .bool (newOk ma.ents) → Tabs28 w0 w' tr ur v7 l7 f g → RelIf (newOk ma.ents) (Tab.newT ma.ents) f → RelT [] g → Code.wp Tryz.prog (tail28 42) Q a' w') :
    Code.wp Tryz.prog (tail28 33) Q a0 W := by
  obtain ⟨hfr, h2, h3, hg, hbx, hby⟩ := h0
  obtain ⟨u, hu⟩ : ∃ u : Nat → Value, u = fun i => a0.tmps.getD i undef := ⟨_, rfl⟩
  rw [← hu] at hfr
  have u2 : u 2 = _ := (congrFun hu 2).trans h2
  have u3 : u 3 = _ := (congrFun hu 3).trans h3
  have u7 : u 7 = _ := (congrFun hu 7).trans h7
  clear hu h2 h3 h7
  subst hfr
  conv => arg 2; whnf
  unfold frame28
  rw [u2, u3, u7]
  clear u2 u3 u7
  have HG := Lib.hid hg
  have HBX := Lib.hid hbx
  have HBY := Lib.hid hby
  have HM := Lib.hid hm
  have HM2 := Lib.hid hm2
  have HRET := Lib.hid hret
  have HNX := Lib.hid hnext
  clear hg hbx hby hm hm2 hret hnext
  obtain ⟨ep, pl, ao, no, co, ag, ng, cg, ae, ne, ce, ax, nx, cx, ap, np, cp⟩ := c
  obtain ⟨ep2, pl2, ao2, no2, co2, ag2, ng2, cg2, ae2, ne2, ce2, ax2, nx2, cx2, ap2, np2, cp2⟩ := d
  have HE : Hid (EntsAt w0 (.slice ae ne ce) ma.ents) := Lib.hid HM.out.e
  obtain ⟨aq, cq, heq⟩ := HE.out.len
  cases heq
  have HO := Lib.hid ho
  clear ho HM HM2

  have x4 := cell_of (o := 4) (W := W) (grew_heap (HG.out) HBX.out)
  have y4 := cell_of (o := 4) (W := W) (grew_heap (HG.out) HBY.out)
  simp [encMf] at x4 y4
  have px := Pre.mk (W := W) (heap_lt (grew_heap (HG.out) HBX.out))
  have py := Pre.mk (W := W) (heap_lt (grew_heap (HG.out) HBY.out))
  generalize ma.ents = les at *
  obtain ⟨tr, htr⟩ : ∃ tr, tr = W.heap.size := ⟨_, rfl⟩
  have hW0 := HG.out.below.size
  have HTB : Hid (Tabs28 w0 ((W.alloc (.cells Tryz.zeroCells51 51)).alloc (.cells Tryz.zeroCells51 51)) tr (tr + 1) v7 l7 (fun _ _ => zer) (fun _ _ => zer)) := Lib.hid
    ⟨HG.out.trans (by repeat (first | with_reducible exact Grew.refl _ | apply Grew.more | apply Grew.alloc | apply Grew.drew | apply Grew.drewN)), (made28 W tr htr).grew (by repeat (first | with_reducible exact Grew.refl _ | apply Grew.more | apply Grew.alloc | apply Grew.drew | apply Grew.drewN)), made28 _ _ (by simp [World.size_alloc, htr]), HO.out.grew (by repeat (first | with_reducible exact Grew.refl _ | apply Grew.more | apply Grew.alloc | apply Grew.drew | apply Grew.drewN)), by omega, by omega, by omega⟩
  go_wp2
  try rw [← htr]
  clear htr hW0
  generalize hur : tr + 1 = ur at *
  go_loopg [18, 165] les.length (fun gg s18 s165 wr => ∃ (j : Nat) (r : Bool), j ≤ les.length ∧ les.length - j ≤ gg ∧ s165 = .int .i64 j ∧ s18 = .bool r ∧ Hid (r = (true && newOk (les.take j))) ∧ Hid (∃ f, Tabs28 w0 wr tr ur v7 l7 f (fun _ _ => zer) ∧ (r = true → RelT (Tab.newT (les.take j)) f)))
  case atStart => exact ⟨0, true, by omega, by omega, rfl, rfl, Lib.hid (by rfl), Lib.hid ⟨_, HTB.out, fun _ => RelT.nil⟩⟩
  case round =>
    obtain ⟨j, r, hj, hgg, rfl, rfl, HRR, HEX⟩ := hrel
    rename World => wa
    obtain ⟨f, htb, hrl⟩ := HEX.out
    have HT := Lib.hid htb
    have HRL := Lib.hid hrl
    have HGW := Lib.hid htb.gr
    clear htb hrl HEX
    by_cases hlt : j < les.length
    · obtain ⟨a', cap', e, -, hx⟩ := EntsAt.open6 (HE.out.grew HGW.out)
      cases e
      obtain ⟨bq, off, rfl, hbq, c0, c1, c2, c3, c4, c5⟩ := hx j hlt
      have hok2 := newOk_take28 hlt
      have htk := newT_take28 hlt
      clear hx
      generalize les[j] = x at *
      obtain ⟨nd, ky, ⟨p0, q0⟩, ⟨p1, q1⟩⟩ := x
      simp only at c0 c1 c2 c3 c4 c5
      have HRT := Lib.hid fun W2 => refRight07_any nd ky p0 q0 p1 q1 W2
      obtain ⟨ok, hok⟩ : ∃ ok, okEn ⟨nd, ky, (p0, q0), (p1, q1)⟩ = ok := ⟨_, rfl⟩
      cases r
      · have HNO : Hid (false = (true && newOk (les.take (j + 1)))) := Lib.hid (by rw [hok2, ← Bool.and_assoc, ← HRR.out]; rfl)
        clear hok2 htk hok
        go_wp2
        go_roundg (les.length - (j + 1))
        case measure => omega
        case rel => exact ⟨j + 1, false, by omega, by omega, by go_num, rfl, HNO, Lib.hid ⟨f, HT.out.grew (by repeat (first | with_reducible exact Grew.refl _ | apply Grew.more | apply Grew.alloc | apply Grew.drew | apply Grew.drewN)), fun q => by cases q⟩⟩
      · have HYES : Hid (ok = (true && newOk (les.take (j + 1)))) := Lib.hid (by rw [hok2, ← Bool.and_assoc, ← HRR.out, hok]; rfl)
        have HHO : Hid (newOk (les.take j) = true) := Lib.hid (by have := HRR.out; revert this; cases newOk (les.take j) <;> simp)
        rw [hok] at HRT
        cases ok
        · clear hok2 htk hok
          go_wp2_with (go_at_call 12; refine (HRT.out _).mono ?_; rintro e w8 ⟨rfl, R8, N8, rfl⟩)
          go_roundg (les.length - (j + 1))
          case measure => omega
          case rel => exact ⟨j + 1, false, by omega, by omega, by go_num, rfl, HYES, Lib.hid ⟨f, HT.out.grew (by repeat (first | with_reducible exact Grew.refl _ | apply Grew.more | apply Grew.alloc | apply Grew.drew | apply Grew.drewN)), fun q => by cases q⟩⟩
        · have hth := okEn_there hok
          have hrs := (HRL.out rfl).set (OkT.new HHO.out) hth
          rw [← htk] at hrs
          simp only at hrs
          unfold There at hth
          simp only at hth
          obtain ⟨⟨h1, h2⟩, h3, h4⟩ := hth
          obtain ⟨nn, rfl⟩ := Int.eq_ofNat_of_zero_le h1
          obtain ⟨kk, rfl⟩ := Int.eq_ofNat_of_zero_le h3
          have HRS := Lib.hid hrs
          have ptr := Pre.mk HT.out.t.lt
          have f0 := HT.out.t.frozen (o := nn * 256 + kk * 4)
          have f1 := HT.out.t.frozen (o := nn * 256 + kk * 4 + 1)
          have f2 := HT.out.t.frozen (o := nn * 256 + kk * 4 + 2)
          have f3 := HT.out.t.frozen (o := nn * 256 + kk * 4 + 3)
          obtain ⟨d0, d1, d2, d3⟩ := HT.out.t.cells (n := nn) (k := kk) (by omega) (by omega)
          clear hok2 htk hok hrs
          go_upto_region 40 with (go_at_call 12; refine (HRT.out _).mono ?_; rintro e w8 ⟨rfl, R8, N8, rfl⟩)
          refine wp_region_seq 10 Tryz.mixed (by kernel_rfl) (by kernel_rfl) ?_
          iterate 10
            apply Seq.val
            focus
              rintro w1 u ⟨R1, n1, rfl⟩ hF
              simp [moreFacts, Fact.more, Oper.deps, Region.binds, List.filter_cons, World.more_drew] at hF
              simp [putFacts, Oper.deps, Region.binds, List.filter_cons, Region.dstOf, Fact.at, Act.put, World.more_drew]
              go_wp2
              exact ⟨by repeat (first | with_reducible exact Grew.refl _ | apply Grew.more | apply Grew.alloc | apply Grew.drew | apply Grew.drewN), rfl, _, _, rfl, rfl, rfl⟩
          rintro u w1 ⟨R1, n1, rfl⟩ hF
          clear hF
          simp [putFacts, Region.dstOf, Fact.at, Act.put, List.range_succ, World.more_drew]
          go_wp2
          go_roundg (les.length - (j + 1))
          case measure => omega
          case rel => exact ⟨j + 1, true, by omega, by omega, by go_num, rfl, HYES, Lib.hid ⟨_, (HT.out.set1 (n := nn) (k := kk) (by omega) (by omega) p0 q0 p1 q1).grew (by repeat (first | with_reducible exact Grew.refl _ | apply Grew.more | apply Grew.alloc | apply Grew.drew | apply Grew.drewN)), fun _ => HRS.out⟩⟩
    · obtain rfl : j = les.length := by omega
      rw [List.take_length] at HRR HRL
      obtain rfl := HRR.out
      go_upto_if 166 with fail
      iterate 4 go_step
      refine HNX.out _ _ tr ur f _ ?_ rfl rfl rfl rfl (HT.out.grew (by repeat (first | with_reducible exact Grew.refl _ | apply Grew.more | apply Grew.alloc | apply Grew.drew | apply Grew.drewN))) HRL.out RelT.nil
      exact ⟨rfl, rfl, rfl, HGW.out.trans (by repeat (first | with_reducible exact Grew.refl _ | apply Grew.more | apply Grew.alloc | apply Grew.drew | apply Grew.drewN)), HBX.out, HBY.out⟩
set_option maxHeartbeats 32000000 in
theorem ad_p5b (w0 W : World) (x y : Nat) (c d : MfC) (ma mb : Gr.Mf) (Q : Exit → Act → World → Prop) (a0 : Act) (v7 : Value) (l7 : List (List UInt8)) (tr ur : Nat) (ff0 : FTab) (g0 : FTab) (r0 : Bool)
    (h0 : Pre28 w0 x y c d a0 W) (hm : MfIs w0 c ma) (hm2 : MfIs w0 d mb) (h7 : a0.tmps.getD 7 undef = v7) (h16 : a0.tmps.getD 16 undef = .pointer (some ⟨tr, 0, none⟩)) (h17 : a0.tmps.getD 17 undef = .pointer (some ⟨ur, 0, none⟩)) (h18 : a0.tmps.getD 18 undef = .bool r0) (htb : Tabs28 w0 W tr ur v7 l7 ff0 g0) (hz : RelT [] g0) (hl : mb.ents.length ≤ 100)
    (hret : ∀ a' w', Ret28 w0 a' w' → Q .ret a' w')
    (hnext : ∀ a' w' g, Pre28 w0 x y c d a' w' → a'.tmps.getD 7 undef = v7 → a'.tmps.getD 16 undef = .pointer (some ⟨tr, 0, none⟩) → a'.tmps.getD 17 undef = .pointer (some ⟨ur, 0, none⟩) → a'.tmps.getD 18 undef = .bool (r0 && newOk mb.ents) → Tabs28 w0 w' tr ur v7 l7 ff0 g → RelIf (r0 && newOk mb.ents) (Tab.newT mb.ents) g → Code.wp Tryz.prog (tail28 49) Q a' w') :
    Code.wp Tryz.prog (tail28 42) Q a0 W := by
  obtain ⟨hfr, h2, h3, hg, hbx, hby⟩ := h0
  obtain ⟨u, hu⟩ : ∃ u : Nat → Value, u = fun i => a0.tmps.getD i undef := ⟨_, rfl⟩
  rw [← hu] at hfr
  have u2 : u 2 = _ := (congrFun hu 2).trans h2
  have u3 : u 3 = _ := (congrFun hu 3).trans h3
  have u7 : u 7 = _ := (congrFun hu 7).trans h7
  have u16 : u 16 = _ := (congrFun hu 16).trans h16
  have u17 : u 17 = _ := (congrFun hu 17).trans h17
  have u18 : u 18 = _ := (congrFun hu 18).trans h18
  clear hu h2 h3 h7 h16 h17 h18
  subst hfr
  conv => arg 2; whnf
  unfold frame28
  rw [u2, u3, u7, u16, u17, u18]
  clear u2 u3 u7 u16 u17 u18
  have HG := Lib.hid hg
  have HBX := Lib.hid hbx
  have HBY := Lib.hid hby
  have HM := Lib.hid hm
  have HM2 := Lib.hid hm2
  have HRET := Lib.hid hret
  have HNX := Lib.hid hnext
  clear hg hbx hby hm hm2 hret hnext
  obtain ⟨ep, pl, ao, no, co, ag, ng, cg, ae, ne, ce, ax, nx, cx, ap, np, cp⟩ := c
  obtain ⟨ep2, pl2, ao2, no2, co2, ag2, ng2, cg2, ae2, ne2, ce2, ax2, nx2, cx2, ap2, np2, cp2⟩ := d
  have HE : Hid (EntsAt w0 (.slice ae2 ne2 ce2) mb.ents) := Lib.hid HM2.out.e
  obtain ⟨aq, cq, heq⟩ := HE.out.len
  cases heq
  have HTB := Lib.hid htb
  have HZ := Lib.hid hz
  clear htb hz HM HM2
  have x4 := cell_of (o := 4) (W := W) (grew_heap (HG.out) HBX.out)
  have y4 := cell_of (o := 4) (W := W) (grew_heap (HG.out) HBY.out)
  simp [encMf] at x4 y4
  have px := Pre.mk (W := W) (heap_lt (grew_heap (HG.out) HBX.out))
  have py := Pre.mk (W := W) (heap_lt (grew_heap (HG.out) HBY.out))
  generalize mb.ents = les at *
  go_wp2
  go_loopg [18, 189] les.length (fun gg s18 s189 wr => ∃ (j : Nat) (r : Bool), j ≤ les.length ∧ les.length - j ≤ gg ∧ s189 = .int .i64 j ∧ s18 = .bool r ∧ Hid (r = (r0 && newOk (les.take j))) ∧ Hid (∃ f, Tabs28 w0 wr tr ur v7 l7 ff0 f ∧ (r = true → RelT (Tab.newT (les.take j)) f)))
  case atStart => exact ⟨0, r0, by omega, by omega, rfl, rfl, Lib.hid (by cases r0 <;> rfl), Lib.hid ⟨_, HTB.out, fun _ => HZ.out⟩⟩
  case round =>
    obtain ⟨j, r, hj, hgg, rfl, rfl, HRR, HEX⟩ := hrel
    rename World => wa
    obtain ⟨f, htb, hrl⟩ := HEX.out
    have HT := Lib.hid htb
    have HRL := Lib.hid hrl
    have HGW := Lib.hid htb.gr
    clear htb hrl HEX
    by_cases hlt : j < les.length
    · obtain ⟨a', cap', e, -, hx⟩ := EntsAt.open6 (HE.out.grew HGW.out)
      cases e
      obtain ⟨bq, off, rfl, hbq, c0, c1, c2, c3, c4, c5⟩ := hx j hlt
      have hok2 := newOk_take28 hlt
      have htk := newT_take28 hlt
      clear hx
      generalize les[j] = x at *
      obtain ⟨nd, ky, ⟨p0, q0⟩, ⟨p1, q1⟩⟩ := x
      simp only at c0 c1 c2 c3 c4 c5
      have HRT := Lib.hid fun W2 => refRight07_any nd ky p0 q0 p1 q1 W2
      obtain ⟨ok, hok⟩ : ∃ ok, okEn ⟨nd, ky, (p0, q0), (p1, q1)⟩ = ok := ⟨_, rfl⟩
      cases r
      · have HNO : Hid (false = (r0 && newOk (les.take (j + 1)))) := Lib.hid (by rw [hok2, ← Bool.and_assoc, ← HRR.out]; rfl)
        clear hok2 htk hok
        go_wp2
        go_roundg (les.length - (j + 1))
        case measure => omega
        case rel => exact ⟨j + 1, false, by omega, by omega, by go_num, rfl, HNO, Lib.hid ⟨f, HT.out.grew (by repeat (first | with_reducible exact Grew.refl _ | apply Grew.more | apply Grew.alloc | apply Grew.drew | apply Grew.drewN)), fun q => by cases q⟩⟩
      · have HYES : Hid (ok = (r0 && newOk (les.take (j + 1)))) := Lib.hid (by rw [hok2, ← Bool.and_assoc, ← HRR.out, hok]; rfl)
        have HHO : Hid (newOk (les.take j) = true) := Lib.hid (by have := HRR.out; revert this; cases newOk (les.take j) <;> cases r0 <;> simp)
        rw [hok] at HRT
        cases ok
        · clear hok2 htk hok
          go_wp2_with (go_at_call 12; refine (HRT.out _).mono ?_; rintro e w8 ⟨rfl, R8, N8, rfl⟩)
          go_roundg (les.length - (j + 1))
          case measure => omega
          case rel => exact ⟨j + 1, false, by omega, by omega, by go_num, rfl, HYES, Lib.hid ⟨f, HT.out.grew (by repeat (first | with_reducible exact Grew.refl _ | apply Grew.more | apply Grew.alloc | apply Grew.drew | apply Grew.drewN)), fun q => by cases q⟩⟩
        · have hth := okEn_there hok
          have hrs := (HRL.out rfl).set (OkT.new HHO.out) hth
          rw [← htk] at hrs
          simp only at hrs
          unfold There at hth
          simp only at hth
          obtain ⟨⟨h1, h2⟩, h3, h4⟩ := hth
          obtain ⟨nn, rfl⟩ := Int.eq_ofNat_of_zero_le h1
          obtain ⟨kk, rfl⟩ := Int.eq_ofNat_of_zero_le h3
          have HRS := Lib.hid hrs
          have ptr := Pre.mk HT.out.u.lt
          have f0 := HT.out.u.frozen (o := nn * 256 + kk * 4)
          have f1 := HT.out.u.frozen (o := nn * 256 + kk * 4 + 1)
          have f2 := HT.out.u.frozen (o := nn * 256 + kk * 4 + 2)
          have f3 := HT.out.u.frozen (o := nn * 256 + kk * 4 + 3)
          obtain ⟨d0, d1, d2, d3⟩ := HT.out.u.cells (n := nn) (k := kk) (by omega) (by omega)
          clear hok2 htk hok hrs
          go_upto_region 47 with (go_at_call 12; refine (HRT.out _).mono ?_; rintro e w8 ⟨rfl, R8, N8, rfl⟩)
          refine wp_region_seq 10 Tryz.mixed (by kernel_rfl) (by kernel_rfl) ?_
          iterate 10
            apply Seq.val
            focus
              rintro w1 u ⟨R1, n1, rfl⟩ hF
              simp [moreFacts, Fact.more, Oper.deps, Region.binds, List.filter_cons, World.more_drew] at hF
              simp [putFacts, Oper.deps, Region.binds, List.filter_cons, Region.dstOf, Fact.at, Act.put, World.more_drew]
              go_wp2
              exact ⟨by repeat (first | with_reducible exact Grew.refl _ | apply Grew.more | apply Grew.alloc | apply Grew.drew | apply Grew.drewN), rfl, _, _, rfl, rfl, rfl⟩
          rintro u w1 ⟨R1, n1, rfl⟩ hF
          clear hF
          simp [putFacts, Region.dstOf, Fact.at, Act.put, List.range_succ, World.more_drew]
          go_wp2
          go_roundg (les.length - (j + 1))
          case measure => omega
          case rel => exact ⟨j + 1, true, by omega, by omega, by go_num, rfl, HYES, Lib.hid ⟨_, (HT.out.set2 (n := nn) (k := kk) (by omega) (by omega) p0 q0 p1 q1).grew (by repeat (first | with_reducible exact Grew.refl _ | apply Grew.more | apply Grew.alloc | apply Grew.drew | apply Grew.drewN)), fun _ => HRS.out⟩⟩
    · obtain rfl : j = les.length := by omega
      rw [List.take_length] at HRR HRL
      obtain rfl := HRR.out
      go_upto_if 190 with fail
      iterate 4 go_step
      refine HNX.out _ _ f ?_ rfl rfl rfl rfl (HT.out.grew (by repeat (first | with_reducible exact Grew.refl _ | apply Grew.more | apply Grew.alloc | apply Grew.drew | apply Grew.drewN))) HRL.out
      exact ⟨rfl, rfl, rfl, HGW.out.trans (by repeat (first | with_reducible exact Grew.refl _ | apply Grew.more | apply Grew.alloc | apply Grew.drew | apply Grew.drewN)), HBX.out, HBY.out⟩
end Go.Proofs.YthlmmfljeblflaaGreatDoor

/-! AuditDiffs, cut: how the cells are unlike. -/
namespace Go.Proofs.YthlmmfljeblflaaGreatDoor
set_option linter.unusedSimpArgs false
set_option linter.unusedVariables false
open Go.RowKit Ga
set_option maxRecDepth 100000

def wantC (r : Bool) (m1 m2 : List Tab.En) : List (List UInt8) := if r = true then difT m1 m2 512 else []
set_option maxHeartbeats 32000000 in
theorem ad_p6 (w0 W : World) (x y : Nat) (c d : MfC) (ma mb : Gr.Mf) (Q : Exit → Act → World → Prop) (a0 : Act) (v7 : Value) (l7 : List (List UInt8)) (tr ur : Nat) (f g : FTab) (r : Bool) (M1 M2 : List Tab.En)
    (h0 : Pre28 w0 x y c d a0 W) (hm : MfIs w0 c ma) (hm2 : MfIs w0 d mb) (h7 : a0.tmps.getD 7 undef = v7) (h16 : a0.tmps.getD 16 undef = .pointer (some ⟨tr, 0, none⟩)) (h17 : a0.tmps.getD 17 undef = .pointer (some ⟨ur, 0, none⟩)) (h18 : a0.tmps.getD 18 undef = .bool r) (htb : Tabs28 w0 W tr ur v7 l7 f g) (hr1 : RelIf r M1 f) (hr2 : RelIf r M2 g) (hl : l7.length ≤ 400)
    (hret : ∀ a' w', Ret28 w0 a' w' → Q .ret a' w')
    (hnext : ∀ a' w' v8, Pre28 w0 x y c d a' w' → a'.tmps.getD 7 undef = v8 → OwnAt w0.heap.size 9 1 encS w' v8 (l7 ++ wantC r M1 M2) → Code.wp Tryz.prog (tail28 57) Q a' w') :
    Code.wp Tryz.prog (tail28 49) Q a0 W := by
  obtain ⟨hfr, h2, h3, hg, hbx, hby⟩ := h0
  obtain ⟨u, hu⟩ : ∃ u : Nat → Value, u = fun i => a0.tmps.getD i undef := ⟨_, rfl⟩
  rw [← hu] at hfr
  have u2 : u 2 = _ := (congrFun hu 2).trans h2
  have u3 : u 3 = _ := (congrFun hu 3).trans h3
  have u7 : u 7 = _ := (congrFun hu 7).trans h7
  have u16 : u 16 = _ := (congrFun hu 16).trans h16
  have u17 : u 17 = _ := (congrFun hu 17).trans h17
  have u18 : u 18 = _ := (congrFun hu 18).trans h18
  clear hu h2 h3 h7 h16 h17 h18
  subst hfr
  conv => arg 2; whnf
  unfold frame28
  rw [u2, u3, u7, u16, u17, u18]
  clear u2 u3 u7 u16 u17 u18
  have HG := Lib.hid hg
  have HBX := Lib.hid hbx
  have HBY := Lib.hid hby
  have HM := Lib.hid hm
  have HM2 := Lib.hid hm2
  have HRET := Lib.hid hret
  have HNX := Lib.hid hnext
  clear hg hbx hby hm hm2 hret hnext
  have HTB := Lib.hid htb
  clear htb
  cases r
  · clear hr1 hr2
    go_wp2
    go_loopg [7, 23] 0 (fun gg s7 s23 wr => s23 = .int .i64 0 ∧ s7 = v7 ∧ Hid (Grew W wr))
    case atStart => exact ⟨rfl, rfl, Lib.hid (by repeat (first | with_reducible exact Grew.refl _ | apply Grew.more | apply Grew.alloc | apply Grew.drew | apply Grew.drewN))⟩
    case round =>
      obtain ⟨rfl, rfl, HW⟩ := hrel
      rename World => wa
      go_upto_if 214 with fail
      iterate 4 go_step
      refine HNX.out _ _ _ ?_ rfl (by rw [show wantC false M1 M2 = [] from rfl, List.append_nil]; exact (HTB.out.o.grew HW.out).grew (by repeat (first | with_reducible exact Grew.refl _ | apply Grew.more | apply Grew.alloc | apply Grew.drew | apply Grew.drewN)))
      exact ⟨rfl, rfl, rfl, HG.out.trans (HW.out.trans (by repeat (first | with_reducible exact Grew.refl _ | apply Grew.more | apply Grew.alloc | apply Grew.drew | apply Grew.drewN))), HBX.out, HBY.out⟩
  · have HR1 := Lib.hid (hr1 rfl)
    have HR2 := Lib.hid (hr2 rfl)
    clear hr1 hr2
    go_wp2
    go_loopg [7, 23] 8 (fun gg s7 s23 wr => ∃ n : Nat, n ≤ 8 ∧ 8 - n ≤ gg ∧ s23 = .int .i64 n ∧ Hid (Tabs28 w0 wr tr ur s7 (l7 ++ difT M1 M2 (n * 64)) f g))
    case atStart => exact ⟨0, by omega, by omega, rfl, Lib.hid (by rw [show difT M1 M2 (0 * 64) = [] from rfl, List.append_nil]; exact HTB.out.grew (by repeat (first | with_reducible exact Grew.refl _ | apply Grew.more | apply Grew.alloc | apply Grew.drew | apply Grew.drewN)))⟩
    case round =>
      obtain ⟨n, hn, hgg, rfl, HT⟩ := hrel
      rename World => wa
      by_cases hlt : n < 8
      · go_wp2
        try rw [show decide ((n : Int) < 8) = true from decide_eq_true (by omega)]
        have HLT := Lib.hid hlt
        clear hlt
        go_loopg [7, 24] 64 (fun gg2 s7 s24 wr2 => ∃ k : Nat, k ≤ 64 ∧ 64 - k ≤ gg2 ∧ s24 = .int .i64 k ∧ Hid (Tabs28 w0 wr2 tr ur s7 (l7 ++ difT M1 M2 (n * 64 + k)) f g))
        case atStart => exact ⟨0, by omega, by omega, rfl, Lib.hid (HT.out.grew (by repeat (first | with_reducible exact Grew.refl _ | apply Grew.more | apply Grew.alloc | apply Grew.drew | apply Grew.drewN)))⟩
        case round =>
          obtain ⟨k, hk, hgg2, rfl, HT2⟩ := hrel
          rename World => wb
          by_cases hlt2 : k < 64
          · have hd : difT M1 M2 (n * 64 + (k + 1)) = _ := difT_succ M1 M2 (n * 64 + k)
            have hdl := difT_len M1 M2 (n * 64 + k)
            have hdc : difC M1 M2 (n * 64 + k) = if neqC (f n k) (g n k) = true then [celT n k] else [] := by
              unfold difC
              rw [show (n * 64 + k) / 64 = n by omega, show (n * 64 + k) % 64 = k by omega, HR1.out n k (by omega) (by have := HLT.out; omega) (by omega) (by omega), HR2.out n k (by omega) (by have := HLT.out; omega) (by omega) (by omega)]
            rw [hdc] at hd
            obtain ⟨c0, c1, c2, c3⟩ := HT2.out.t.cells (n := n) (k := k) HLT.out hlt2
            obtain ⟨e0, e1, e2, e3⟩ := HT2.out.u.cells (n := n) (k := k) HLT.out hlt2
            have pt := Pre.mk HT2.out.t.lt
            have pu := Pre.mk HT2.out.u.lt
            have HGB := Lib.hid HT2.out.gr
            have HOB := Lib.hid HT2.out.o
            have hn8 : n < 8 := HLT.out
            generalize f n k = fa at *
            generalize g n k = fb at *
            obtain ⟨⟨x0, x1⟩, ⟨x2, x3⟩⟩ := fa
            obtain ⟨⟨y0, y1⟩, ⟨y2, y3⟩⟩ := fb
            simp only at c0 c1 c2 c3 e0 e1 e2 e3
            cases hr : neqC ((x0, x1), (x2, x3)) ((y0, y1), (y2, y3))
            · have hne := run_neq_cc x0 x1 x2 x3 y0 y1 y2 y3 false hr
              rw [hr, if_neg (by decide), List.append_nil] at hd
              have HD := Lib.hid hd
              clear hd hdc hr
              go_upto_region 55 with fail
              go_quiet (fail)
              go_wp2
              go_roundg (64 - (k + 1))
              case measure => omega
              case rel => exact ⟨k + 1, by omega, by omega, by go_num, Lib.hid (by rw [HD.out]; exact HT2.out.grew (by repeat (first | with_reducible exact Grew.refl _ | apply Grew.more | apply Grew.alloc | apply Grew.drew | apply Grew.drewN)))⟩
            · have hne := run_neq_cc x0 x1 x2 x3 y0 y1 y2 y3 true hr
              rw [hr, if_pos rfl] at hd
              have HD : Hid (l7 ++ difT M1 M2 (n * 64 + (k + 1)) = (l7 ++ difT M1 M2 (n * 64 + k)) ++ [celT n k]) := Lib.hid (by rw [hd, List.append_assoc])
              have HCT := Lib.hid (celT_cat n k)
              have HI1 := Lib.hid fun W2 => digits_any (n : Int) (by have := HLT.out; omega) W2
              have HI2 := Lib.hid fun W2 => digits_any (k : Int) (by omega) W2
              have li1 := itoa_len (n : Int) (by have := HLT.out; omega)
              have li2 := itoa_len (k : Int) (by omega)
              clear hd hdc hr
              generalize celT n k = ct at *
              generalize Lib.itoa (n : Int) = i1 at *
              generalize Lib.itoa (k : Int) = i2 at *
              go_upto_region 55 with fail
              go_quiet (fail)
              go_wp2_with (first
                | (go_at_call 6; ((with_reducible refine Calls.mono (HI1.out _) ?_)); rintro e9 w1 ⟨rfl, rfl⟩)
                | (go_at_call 6; ((with_reducible refine Calls.mono (HI2.out _) ?_)); rintro e9 w1 ⟨rfl, rfl⟩)
                | (at_builtin; go_loud (refine wpList_ownK (w0 := w0) rfl (.tmp 236) (.tmp 244) 42 _ _ _ _ [ct] rfl Tryz.underlying42 infoStr rfl (by decide) encS_len encS_one rfl (OwnAt.grew HOB.out (by repeat (first | with_reducible exact Grew.refl _ | apply Grew.more | apply Grew.alloc | apply Grew.drew | apply Grew.drewN))) (HGB.out.trans (by repeat (first | with_reducible exact Grew.refl _ | apply Grew.more | apply Grew.alloc | apply Grew.drew | apply Grew.drewN))) rfl (str_at _ _ _ _ _ HCT.out rfl (by simp [go_sem])) (by simp; omega) (by decide) (by simp) ?_); intro v7 W7 hA; (have HA7 := Lib.hid hA); clear hA))
              go_roundg (64 - (k + 1))
              case measure => omega
              case rel => exact ⟨k + 1, by omega, by omega, by go_num, Lib.hid (by rw [HD.out]; exact (HT2.out.grew (by repeat (first | with_reducible exact Grew.refl _ | apply Grew.more | apply Grew.alloc | apply Grew.drew | apply Grew.drewN))).app HA7.out)⟩
          · obtain rfl : k = 64 := by omega
            go_wp2
            go_roundg (8 - (n + 1))
            case measure => have := HLT.out; omega
            case rel => exact ⟨n + 1, by have := HLT.out; omega, by omega, by go_num, Lib.hid (by rw [show (n + 1) * 64 = n * 64 + 64 by omega]; exact HT2.out.grew (by repeat (first | with_reducible exact Grew.refl _ | apply Grew.more | apply Grew.alloc | apply Grew.drew | apply Grew.drewN)))⟩
      · obtain rfl : n = 8 := by omega
        go_upto_if 214 with fail
        iterate 4 go_step
        refine HNX.out _ _ _ ?_ rfl (by rw [show wantC true M1 M2 = difT M1 M2 512 from rfl]; exact HT.out.o.grew (by repeat (first | with_reducible exact Grew.refl _ | apply Grew.more | apply Grew.alloc | apply Grew.drew | apply Grew.drewN)))
        exact ⟨rfl, rfl, rfl, HT.out.gr.trans (by repeat (first | with_reducible exact Grew.refl _ | apply Grew.more | apply Grew.alloc | apply Grew.drew | apply Grew.drewN)), HBX.out, HBY.out⟩
end Go.Proofs.YthlmmfljeblflaaGreatDoor
