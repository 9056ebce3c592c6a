import Derived.Test.YtmnllmbchpebbaaGreatDoorGe37
import Derived.Test.YtmnllmbchpebbaaGreatDoorGe30
import Derived.Test.YtmnllmbchpebbaaGreatDoorGe34
/-! lines: read. -/
namespace Go.Proofs.YtmnllmbchpebbaaGreatDoor
set_option linter.unusedSimpArgs false
set_option linter.unusedVariables false
open Go.RowKit Ga
set_option maxRecDepth 100000

theorem strE_at {w : World} {v : Value} {l : List (List UInt8)} {k : Nat} (h : RowsAt 1 encS w v l) (hk : k < l.length) : ∃ b off cap, v = .slice (some ⟨b, off, none⟩) l.length cap ∧ Pre b w ∧ w.cell? ⟨b, off + k, none⟩ = some (.string ⟨l[k].toArray⟩) := by
  obtain ⟨a, cap, rfl, hm, hx⟩ := h
  obtain ⟨b, off, rfl, hc⟩ := hx (by intro e; subst e; simp at hk)
  have h0 := hc k l[k] (List.getElem?_eq_getElem hk) 0 _ rfl
  rw [Nat.mul_one, Nat.add_zero] at h0
  exact ⟨b, off, cap, rfl, Pre.ofCell h0, h0⟩
/-- a slice of one record -/
def OneR (x : Rq) (v : Value) (w : World) : Prop := ∃ b, v = .slice (some ⟨b, 0, none⟩) 1 1 ∧ w.heap[b]? = some (.cells #[.int .i64 x.1, .int .i64 x.2.1, .int .i64 x.2.2] 62)
theorem OneR.st (x : Rq) : ∀ v w w', OneR x v w → Grew w w' → OneR x v w' := fun _ _ _ ⟨b, h1, h2⟩ g => ⟨b, h1, grew_heap g h2⟩
theorem oneR_cells {W : World} {b : Nat} {x : Rq} (h : W.heap[b]? = some (.cells #[.int .i64 x.1, .int .i64 x.2.1, .int .i64 x.2.2] 62)) : ∀ j u, (([x] : List Rq).flatMap encRq)[j]? = some u → W.cell? ⟨b, j, none⟩ = some u := by
  intro j u hu
  rw [cell_of h]
  simpa [encRq] using hu
theorem set7 {W : World} {q : Nat} {t : TypeId} {u0 u1 u2 u3 u4 u5 u6 : Value} (h : W.heap[q]? = some (.cells #[u0, u1, u2, u3, u4, u5, u6] t)) (v0 v1 v2 v3 v4 v5 v6 : Value) : (((((((W.setCell ⟨q, 0, none⟩ v0).setCell ⟨q, 1, none⟩ v1).setCell ⟨q, 2, none⟩ v2).setCell ⟨q, 3, none⟩ v3).setCell ⟨q, 4, none⟩ v4).setCell ⟨q, 5, none⟩ v5).setCell ⟨q, 6, none⟩ v6).heap[q]? = some (.cells #[v0, v1, v2, v3, v4, v5, v6] t) := by
  have h0 := set_self (o := 0) (v := v0) h
  simp at h0
  have h1 := set_self (o := 1) (v := v1) h0
  simp at h1
  have h2 := set_self (o := 2) (v := v2) h1
  simp at h2
  have h3 := set_self (o := 3) (v := v3) h2
  simp at h3
  have h4 := set_self (o := 4) (v := v4) h3
  simp at h4
  have h5 := set_self (o := 5) (v := v5) h4
  simp at h5
  have h6 := set_self (o := 6) (v := v6) h5
  simp at h6
  exact h6
theorem own_set7 {α : Type} {base q : Nat} {e : TypeId} {k : Nat} {enc : α → List Value} {W : World} {v : Value} {l : List α} {c : Array Value} {t : TypeId} (h : OwnAt base e k enc W v l) (hb : W.heap[q]? = some (.cells c t)) (hne : t ≠ e) {v0 v1 v2 v3 v4 v5 v6 : Value} : OwnAt base e k enc (((((((W.setCell ⟨q, 0, none⟩ v0).setCell ⟨q, 1, none⟩ v1).setCell ⟨q, 2, none⟩ v2).setCell ⟨q, 3, none⟩ v3).setCell ⟨q, 4, none⟩ v4).setCell ⟨q, 5, none⟩ v5).setCell ⟨q, 6, none⟩ v6) v l :=
  OwnAt.same h fun x hx => by
    have hn : q ≠ x := fun e1 => by subst e1; exact OwnAt.other h hb hne hx
    rw [set_other hn, set_other hn, set_other hn, set_other hn, set_other hn, set_other hn, set_other hn]
theorem grew_set7 {w W : World} (g : Grew w W) {v0 v1 v2 v3 v4 v5 v6 : Value} : Grew w (((((((W.setCell ⟨w.heap.size, 0, none⟩ v0).setCell ⟨w.heap.size, 1, none⟩ v1).setCell ⟨w.heap.size, 2, none⟩ v2).setCell ⟨w.heap.size, 3, none⟩ v3).setCell ⟨w.heap.size, 4, none⟩ v4).setCell ⟨w.heap.size, 5, none⟩ v5).setCell ⟨w.heap.size, 6, none⟩ v6) :=
  ((((((g.set (Nat.le_refl _) _).set (Nat.le_refl _) _).set (Nat.le_refl _) _).set (Nat.le_refl _) _).set (Nat.le_refl _) _).set (Nat.le_refl _) _).set (Nat.le_refl _) _
theorem res_read {W : World} {tmps : Array Value} {q : Nat} {v0 v1 v2 v3 v4 v5 v6 : Value} (ht : tmps[2]? = some (.pointer (some ⟨q, 0, none⟩))) (h : W.heap[q]? = some (.cells #[v0, v1, v2, v3, v4, v5, v6] 27)) : (results Tryz.f21 tmps).run Tryz.prog W = .ok (.agg #[v0, v1, v2, v3, v4, v5, v6]) W := by
  have c0 := cell_of (o := 0) h
  have c1 := cell_of (o := 1) h
  have c2 := cell_of (o := 2) h
  have c3 := cell_of (o := 3) h
  have c4 := cell_of (o := 4) h
  have c5 := cell_of (o := 5) h
  have c6 := cell_of (o := 6) h
  simp at c0 c1 c2 c3 c4 c5 c6
  simp [results, Tryz.results21, go_sem, ht, c0, c1, c2, c3, c4, c5, c6]
theorem parsed_steps (rest : List UInt8) : ∀ s ∈ (Li.parseP rest).1, s.nd.frm.length ≤ 100 ∧ s.nd.prog.length ≤ 1000 := by
  intro s hs
  by_cases h1 : rest = []
  · rw [parseP_no1 h1] at hs; cases hs
  by_cases h2 : Li.planT (Li.stepsP rest) = rest
  · rw [parseP_ok h1 h2] at hs
    have ht := (Li.planT_ne (p := Li.stepsP rest) (by rw [h2]; exact h1)).1.2.2 s hs
    have hN := fitN ht.2.1
    exact ⟨Nat.le_trans hN.l60 (by decide), Nat.le_trans (Co.fits_parts hN.pr).1 (by decide)⟩
  · rw [parseP_no2 h2] at hs; cases hs
/-- what read leaves -/
def ReadPost (w : World) (v : Li.Ev) (e : Ending) (w' : World) : Prop := ∃ rv kv, e = .returned (evV v rv kv) ∧ OwnAt w.heap.size 62 3 encRq w' rv v.recs ∧ OwnAt w.heap.size 4 1 encBo w' kv v.keep ∧ Grew w w'
set_option maxHeartbeats 8000000 in
theorem read_none (s nm rest : List UInt8) (more : Bool) (kd : Int) (hs : s.length ≤ 100000) (w : World) (hV : EnvEv w) (hcut : Lib.cut s [32] = (nm, rest, more)) (hk : Li.kindOf nm = kd) (hn : kd < 1 ∨ more = false) : Calls Tryz.prog 21 #[.string ⟨s.toArray⟩] w (ReadPost w { Li.ev0 with kind := kd }) := by
  have hn2 : kd < 1 ∨ (¬ kd < 1 ∧ more = false) := by
    by_cases q : kd < 1
    · exact .inl q
    · exact .inr ⟨q, hn.resolve_left q⟩
  have HN2 := Lib.hid hn2
  clear hn hn2
  have HC0 := fun W (q : Grew w W) => cut_any s [32] (by omega) W (hV.l.m.grew q)
  rw [hcut] at HC0
  simp only at HC0
  have HC := Lib.hid HC0
  have HKD := Lib.hid hk
  clear HC0 hcut hk
  go_enter Tryz.func21, Tryz.ntmps21
  go_wp2_with fail
  refine (HC.out _ (by repeat (first | with_reducible exact Grew.refl _ | apply Grew.more | apply Grew.alloc | apply Grew.drew | apply Grew.drewN))).mono ?_
  rintro e w1 ⟨rfl, R1, n1, rfl⟩
  go_wp2_with fail
  refine (verbs_any _).mono ?_
  rintro e w2 ⟨b9, rfl, hvb, hpb, R3, n3, rfl⟩
  have HVB := Lib.hid hvb
  clear hvb
  go_wp2_with fail
  refine (idxVerb_any b9 _ nm _ HVB.out hpb (cell_grew (cell_of (heap_new_at _ _ _ (by simp [go_sem])) (o := 0)) ⟨R3, n3, rfl⟩)).mono ?_
  rintro e w3 ⟨rfl, R4, n4, rfl⟩
  rw [HKD.out]
  clear HVB hpb HKD HC
  rcases HN2.out with h | ⟨h, rfl⟩
  all_goals
    go_wp2
    exact bodyPost_ret (v := .agg #[.int .i64 kd, .int .i64 0, .int .i64 0, .slice none 0 0, .string ⟨#[]⟩, .slice none 0 0, .int .i64 0]) (by simp [results, Tryz.results21, go_sem]) rfl ⟨_, _, rfl, OwnAt.nil _, OwnAt.nil _, by repeat (first | with_reducible exact Grew.refl _ | apply Grew.more | apply Grew.alloc | apply Grew.drew | apply Grew.drewN)⟩
set_option maxHeartbeats 16000000 in
theorem read_R (s nm rest : List UInt8) (k : Nat) (hs : s.length ≤ 100000) (hr : rest.length ≤ 100000) (w : World) (hV : EnvEv w) (hcut : Lib.cut s [32] = (nm, rest, true)) (hk : Li.kindOf nm = (k : Int)) (hk1 : k = 1) : Calls Tryz.prog 21 #[.string ⟨s.toArray⟩] w (ReadPost w { Li.ev0 with kind := 1, recs := (Lib.split rest [32]).map (Li.recP gvL) }) := by
  have HS := Lib.hid fun W (q : Grew w W) => split_any rest [32] (by omega) (by decide) W (hV.l.m.grew q)
  have HVE := Lib.hid hV
  have HRC := Lib.hid fun x (hx : x ∈ Lib.split rest [32]) W (q : Grew w W) => record_any x (Nat.le_trans (split_sub rest [32] x hx) hr) W (hV.grew q)
  have hwl := split_len rest [32] (by decide)
  have HC0 := fun W (q : Grew w W) => cut_any s [32] (by omega) W (hV.l.m.grew q)
  rw [hcut] at HC0
  simp only at HC0
  have HC := Lib.hid HC0
  have HKD := Lib.hid hk
  clear HC0 hcut hk
  go_enter Tryz.func21, Tryz.ntmps21
  go_wp2_with fail
  refine (HC.out _ (by repeat (first | with_reducible exact Grew.refl _ | apply Grew.more | apply Grew.alloc | apply Grew.drew | apply Grew.drewN))).mono ?_
  rintro e w1 ⟨rfl, R1, n1, rfl⟩
  go_wp2_with fail
  refine (verbs_any _).mono ?_
  rintro e w2 ⟨b9, rfl, hvb, hpb, R3, n3, rfl⟩
  have HVB := Lib.hid hvb
  clear hvb
  go_wp2_with fail
  refine (idxVerb_any b9 _ nm _ HVB.out hpb (cell_grew (cell_of (heap_new_at _ _ _ (by simp [go_sem])) (o := 0)) ⟨R3, n3, rfl⟩)).mono ?_
  rintro e w3 ⟨rfl, R4, n4, rfl⟩
  rw [HKD.out]
  clear HVB hpb HKD HC
  subst hk1
  go_wp2_with fail
  refine (HS.out _ (by repeat (first | with_reducible exact Grew.refl _ | apply Grew.more | apply Grew.alloc | apply Grew.drew | apply Grew.drewN))).mono ?_
  rintro e w4 ⟨v8, rfl, hv8, R5, n5, rfl⟩
  obtain ⟨a8, c8, rfl⟩ := (OwnAt.rows hv8 encS_len).len
  have HV8 := Lib.hid (OwnAt.low hv8 (show w.heap.size ≤ _ by simp [World.more_size, World.size_alloc]; omega))
  clear hv8 HS
  go_wp2_with fail
  refine (verbs_any _).mono ?_
  rintro e w5 ⟨b8, rfl, hvb8, hpb8, R6, n6, rfl⟩
  have hlt8 := (hvb8 1 (by omega)).2
  clear hvb8
  have HG7 : Hid (Grew w ((((((((w.alloc (.cells #[.int .i64 0, .int .i64 0, .int .i64 0, .slice none 0 0, .string ⟨#[]⟩, .slice none 0 0, .int .i64 0] 27)).more R1 n1).alloc (.cells #[.string ⟨nm.toArray⟩] 9)).more R3 n3).more R4 n4).alloc (.cells #[.int .i64 1, .int .i64 0, .int .i64 0, .slice none 0 0, .string ⟨#[]⟩, .slice none 0 0, .int .i64 0] 27)).more R5 n5).more R6 n6)) := Lib.hid (by repeat (first | with_reducible exact Grew.refl _ | apply Grew.more | apply Grew.alloc | apply Grew.drew | apply Grew.drewN))
  have HE7 : Hid (EvSt w.heap.size (w.heap.size + 1 + R1.size + 1 + R3.size + R4.size) ((((((((w.alloc (.cells #[.int .i64 0, .int .i64 0, .int .i64 0, .slice none 0 0, .string ⟨#[]⟩, .slice none 0 0, .int .i64 0] 27)).more R1 n1).alloc (.cells #[.string ⟨nm.toArray⟩] 9)).more R3 n3).more R4 n4).alloc (.cells #[.int .i64 1, .int .i64 0, .int .i64 0, .slice none 0 0, .string ⟨#[]⟩, .slice none 0 0, .int .i64 0] 27)).more R5 n5).more R6 n6) { Li.ev0 with kind := ((1 : Nat) : Int) } (.slice none 0 0) (.slice none 0 0)) := Lib.hid ⟨grew_heap (show Grew ((((((w.alloc (.cells #[.int .i64 0, .int .i64 0, .int .i64 0, .slice none 0 0, .string ⟨#[]⟩, .slice none 0 0, .int .i64 0] 27)).more R1 n1).alloc (.cells #[.string ⟨nm.toArray⟩] 9)).more R3 n3).more R4 n4).alloc (.cells #[.int .i64 1, .int .i64 0, .int .i64 0, .slice none 0 0, .string ⟨#[]⟩, .slice none 0 0, .int .i64 0] 27)) _ from ((Grew.refl _).more R5 n5).more R6 n6) (heap_new_at _ _ _ (by simp [World.more_size, World.size_alloc])), OwnAt.nil _, OwnAt.nil _⟩
  have HZ7 : Hid (((((((((w.alloc (.cells #[.int .i64 0, .int .i64 0, .int .i64 0, .slice none 0 0, .string ⟨#[]⟩, .slice none 0 0, .int .i64 0] 27)).more R1 n1).alloc (.cells #[.string ⟨nm.toArray⟩] 9)).more R3 n3).more R4 n4).alloc (.cells #[.int .i64 1, .int .i64 0, .int .i64 0, .slice none 0 0, .string ⟨#[]⟩, .slice none 0 0, .int .i64 0] 27)).more R5 n5).more R6 n6).heap[w.heap.size]? = some (.cells #[.int .i64 0, .int .i64 0, .int .i64 0, .slice none 0 0, .string ⟨#[]⟩, .slice none 0 0, .int .i64 0] 27)) := Lib.hid (grew_heap (show Grew (w.alloc (.cells #[.int .i64 0, .int .i64 0, .int .i64 0, .slice none 0 0, .string ⟨#[]⟩, .slice none 0 0, .int .i64 0] 27)) _ from by repeat (first | with_reducible exact Grew.refl _ | apply Grew.more | apply Grew.alloc | apply Grew.drew | apply Grew.drewN)) (heap_new_at _ _ _ rfl))
  have HO7 : Hid (OwnAt w.heap.size 9 1 encS ((((((((w.alloc (.cells #[.int .i64 0, .int .i64 0, .int .i64 0, .slice none 0 0, .string ⟨#[]⟩, .slice none 0 0, .int .i64 0] 27)).more R1 n1).alloc (.cells #[.string ⟨nm.toArray⟩] 9)).more R3 n3).more R4 n4).alloc (.cells #[.int .i64 1, .int .i64 0, .int .i64 0, .slice none 0 0, .string ⟨#[]⟩, .slice none 0 0, .int .i64 0] 27)).more R5 n5).more R6 n6) (.slice a8 (Lib.split rest [32]).length c8) (Lib.split rest [32])) := Lib.hid (OwnAt.grew HV8.out (by repeat (first | with_reducible exact Grew.refl _ | apply Grew.more | apply Grew.alloc | apply Grew.drew | apply Grew.drewN)))
  have HBZ : Hid (w.heap.size < w.heap.size + 1 + R1.size + 1 + R3.size + R4.size) := Lib.hid (by omega)
  clear HV8
  generalize ((((((((w.alloc (.cells #[.int .i64 0, .int .i64 0, .int .i64 0, .slice none 0 0, .string ⟨#[]⟩, .slice none 0 0, .int .i64 0] 27)).more R1 n1).alloc (.cells #[.string ⟨nm.toArray⟩] 9)).more R3 n3).more R4 n4).alloc (.cells #[.int .i64 1, .int .i64 0, .int .i64 0, .slice none 0 0, .string ⟨#[]⟩, .slice none 0 0, .int .i64 0] 27)).more R5 n5).more R6 n6) = W7 at *
  generalize w.heap.size + 1 + R1.size + 1 + R3.size + R4.size = B at *
  generalize Lib.split rest [32] = ws at *
  go_wp2_with fail
  clear hlt8 hpb8
  obtain ⟨hw1, hw2⟩ := hwl
  go_loopg [62] ws.length (fun gg s62 wr => ∃ k : Nat, k ≤ ws.length ∧ ws.length - k ≤ gg ∧ s62 = .int .i64 k ∧ Hid (Grew w wr) ∧ Hid (Keep B W7 wr) ∧ Hid (∃ rv, EvSt w.heap.size B wr { Li.ev0 with kind := 1, recs := (ws.take k).map (Li.recP gvL) } rv (.slice none 0 0) ∧ ∀ q, rv.ownBlock = some q → W7.heap.size ≤ q))
  case atStart => exact ⟨0, by omega, by omega, rfl, HG7, Lib.hid (Keep.ofGrew (Grew.refl _)), Lib.hid ⟨_, HE7.out, fun q hq => by cases hq⟩⟩
  case round =>
    obtain ⟨k, hk, hgg, rfl, HG, HK, HS⟩ := hrel
    rename World => wa
    obtain ⟨rv, hst, hob⟩ := HS.out
    obtain ⟨ar, cr, erv⟩ := (OwnAt.rows hst.r encRq_len).len
    subst erv
    have HST := Lib.hid hst
    have HOB := Lib.hid hob
    clear hst HS hob
    by_cases hlt : k < ws.length
    · have hown := Keep.own HK.out HO7.out (OwnAt.other HO7.out HE7.out.h (by decide))
      obtain ⟨b1, o1, c1, e1, p1, g1⟩ := strE_at (OwnAt.rows hown encS_len) hlt
      cases e1
      have HT := Lib.hid (map_take_snoc (Li.recP gvL) ws k hlt)
      have HR9 := Lib.hid fun W (q : Grew wa W) => HRC.out _ (List.getElem_mem hlt) W (HG.out.trans q)
      have hln : ((ws.take k).map (Li.recP gvL)).length ≤ 100001 := by rw [List.length_map, List.length_take]; omega
      have c3 := cell_of (o := 3) HST.out.h
      have p3 := Pre.mk (heap_lt HST.out.h)
      clear hown
      generalize ws[k] = x at *
      generalize (ws.take k).map (Li.recP gvL) = xs at *
      generalize Li.recP gvL x = rc at *
      simp [evC] at c3
      go_wp2_with fail
      refine wp_region_seq 5 Tryz.mixed (by kernel_rfl) (by kernel_rfl) ?_
      iterate 3
        apply Seq.val
        focus
          rintro w1 u ⟨R1, n1, rfl⟩ hF
          simp [moreFacts, Fact.more, Oper.deps, Region.binds, List.filter_cons, World.more_drew] at hF
          simp [putFacts, Oper.deps, Region.binds, List.filter_cons, Region.dstOf, Fact.at, Act.put, World.more_drew]
          go_wp2
          exact ⟨by repeat (first | with_reducible exact Grew.refl _ | apply Grew.more | apply Grew.alloc | apply Grew.drew | apply Grew.drewN), rfl, _, _, rfl, rfl, rfl⟩
      apply Seq.val
      focus
        rintro w1 u ⟨R1, n1, rfl⟩ hF
        simp [moreFacts, Fact.more, Oper.deps, Region.binds, List.filter_cons, World.more_drew] at hF
        simp [putFacts, Oper.deps, Region.binds, List.filter_cons, Region.dstOf, Fact.at, Act.put, World.more_drew]
        go_wp2_with (first
          | (go_at_call 57; refine (HR9.out _ (by repeat (first | with_reducible exact Grew.refl _ | apply Grew.more | apply Grew.alloc | apply Grew.drew | apply Grew.drewN))).mono ?_; rintro e w1 ⟨rfl, R8, n8, rfl⟩)
          )
        exact ⟨by repeat (first | with_reducible exact Grew.refl _ | apply Grew.more | apply Grew.alloc | apply Grew.drew | apply Grew.drewN), rfl, _, _, rfl, rfl, rfl⟩
      apply Seq.of (OneR rc) (OneR.st rc)
      focus
        rintro w1 u ⟨R1, n1, rfl⟩ hF
        simp [moreFacts, Fact.more, Oper.deps, Region.binds, List.filter_cons, World.more_drew] at hF
        simp [putFacts, Oper.deps, Region.binds, List.filter_cons, Region.dstOf, Fact.at, Act.put, World.more_drew]
        go_wp2
        exact ⟨by repeat (first | with_reducible exact Grew.refl _ | apply Grew.more | apply Grew.alloc | apply Grew.drew | apply Grew.drewN), rfl, _, _, rfl, rfl, ⟨_, rfl, heap_new_at _ _ _ (by simp [go_sem])⟩⟩
      rintro u w1 ⟨R9, n9, rfl⟩ hF
      simp [moreFacts, Fact.more, List.range_succ, World.more_drew] at hF
      obtain ⟨⟨b6, e6, h6⟩, -⟩ := hF
      simp [putFacts, Region.dstOf, Fact.at, Act.put, List.range_succ, World.more_drew, e6]
      have H6 := Lib.hid h6
      clear h6
      at_builtin
      refine wpList_ownK (w0 := w) rfl (.tmp 67) (.tmp 70) 22 _ _ _ _ [rc] rfl Tryz.underlying22 infoRq rfl (by decide) encRq_len encRq_one rfl (OwnAt.grew HST.out.r (by repeat (first | with_reducible exact Grew.refl _ | apply Grew.more | apply Grew.alloc | apply Grew.drew | apply Grew.drewN))) (HG.out.trans (by repeat (first | with_reducible exact Grew.refl _ | apply Grew.more | apply Grew.alloc | apply Grew.drew | apply Grew.drewN))) rfl (oneR_cells H6.out) (by show xs.length + 1 ≤ 1000000; omega) (by decide) (by simp) ?_
      intro v7 W8 hA
      obtain ⟨a7, k7, rfl⟩ := (OwnAt.rows hA.2.1 encRq_len).len
      have h8 : W8.heap[B]? = some (.cells (evC { Li.ev0 with kind := 1, recs := xs } (.slice ar xs.length cr) (.slice none 0 0)) 27) := (hA.2.2.2.1 B (heap_lt (grew_heap (show Grew wa (wa.more R9 n9) from by repeat (first | with_reducible exact Grew.refl _ | apply Grew.more | apply Grew.alloc | apply Grew.drew | apply Grew.drewN)) HST.out.h)) (OwnAt.other (OwnAt.grew HST.out.r (show Grew wa (wa.more R9 n9) from by repeat (first | with_reducible exact Grew.refl _ | apply Grew.more | apply Grew.alloc | apply Grew.drew | apply Grew.drewN))) (grew_heap (show Grew wa (wa.more R9 n9) from by repeat (first | with_reducible exact Grew.refl _ | apply Grew.more | apply Grew.alloc | apply Grew.drew | apply Grew.drewN)) HST.out.h) (by decide))).trans (grew_heap (show Grew wa (wa.more R9 n9) from by repeat (first | with_reducible exact Grew.refl _ | apply Grew.more | apply Grew.alloc | apply Grew.drew | apply Grew.drewN)) HST.out.h)
      have f3 := frozen_of (o := 3) h8
      have p8 := Pre.mk (heap_lt h8)
      have d8 := cell_of (o := 3) h8
      simp [evC] at d8
      have H8 := Lib.hid h8
      have HA7 := Lib.hid hA
      clear h8 hA
      go_wp2_with fail
      go_roundg (ws.length - (k + 1))
      case measure => omega
      case rel =>
        have hbk : ∀ q, q < W7.heap.size → q ≠ B → (W8.setCell ⟨B, 3, none⟩ (.slice a7 (xs ++ [rc]).length k7)).heap[q]? = W7.heap[q]? := fun q hq hne => by
          rw [set_other (fun e => hne e.symm), HA7.out.2.2.2.1 q (by rw [World.more_size]; have := HK.out.1; omega) (fun e => Nat.not_lt_of_le (HOB.out q e) hq)]
          exact (Keep.ofGrew (B := B) (show Grew wa (wa.more R9 n9) from by repeat (first | with_reducible exact Grew.refl _ | apply Grew.more | apply Grew.alloc | apply Grew.drew | apply Grew.drewN))).2 q (by have := HK.out.1; omega) hne |>.trans (HK.out.2 q hq hne)
        have hsz : W7.heap.size ≤ (W8.setCell ⟨B, 3, none⟩ (.slice a7 (xs ++ [rc]).length k7)).heap.size := by
          have h1 := HA7.out.2.2.1
          have h2 := HK.out.1
          rw [World.more_size] at h1
          rw [World.size_setCell]
          omega
        refine ⟨k + 1, by omega, by omega, by go_num, Lib.hid (HA7.out.1.set (Nat.le_of_lt HBZ.out) _), Lib.hid ⟨by simpa using hsz, fun q hq hne => by simpa using hbk q hq hne⟩, Lib.hid ⟨.slice a7 (xs.length + 1) k7, ⟨?_, ?_, OwnAt.nil _⟩, fun q hq => ?_⟩⟩
        · rw [HT.out, set_self H8.out]; rfl
        · rw [HT.out]
          have h9 := own_put (i := 3) (x := .slice a7 (xs.length + 1) k7) HA7.out.2.1 H8.out (by decide)
          simpa using h9
        · rcases HA7.out.2.2.2.2 q (by simpa using hq) with h | h
          · exact HOB.out q h
          · have := HK.out.1; rw [World.more_size] at h; omega
    · obtain rfl : k = ws.length := by omega
      have hst := HST.out
      rw [List.take_length] at hst
      have hz : wa.heap[w.heap.size]? = some (.cells #[.int .i64 0, .int .i64 0, .int .i64 0, .slice none 0 0, .string ⟨#[]⟩, .slice none 0 0, .int .i64 0] 27) := (HK.out.2 _ (heap_lt HZ7.out) (Nat.ne_of_lt HBZ.out)).trans HZ7.out
      have HLS := Lib.hid hst
      generalize ws.map (Li.recP gvL) = xs at *
      have g0 := cell_of (o := 0) hst.h
      have g1 := cell_of (o := 1) hst.h
      have g2 := cell_of (o := 2) hst.h
      have g3 := cell_of (o := 3) hst.h
      have g4 := cell_of (o := 4) hst.h
      have g5 := cell_of (o := 5) hst.h
      have g6 := cell_of (o := 6) hst.h
      have pB := Pre.mk (heap_lt hst.h)
      have pZ := Pre.mk (heap_lt hz)
      have z0 := cell_of (o := 0) hz
      have y0 := frozen_of (o := 0) hz
      have z1 := cell_of (o := 1) hz
      have y1 := frozen_of (o := 1) hz
      have z2 := cell_of (o := 2) hz
      have y2 := frozen_of (o := 2) hz
      have z3 := cell_of (o := 3) hz
      have y3 := frozen_of (o := 3) hz
      have z4 := cell_of (o := 4) hz
      have y4 := frozen_of (o := 4) hz
      have z5 := cell_of (o := 5) hz
      have y5 := frozen_of (o := 5) hz
      have z6 := cell_of (o := 6) hz
      have y6 := frozen_of (o := 6) hz
      simp [evC] at g0 g1 g2 g3 g4 g5 g6
      simp at z0 z1 z2 z3 z4 z5 z6
      have HZZ := Lib.hid hz
      clear hst hz
      go_wp2
      exact bodyPost_ret (res_read rfl (set7 HZZ.out _ _ _ _ _ _ _)) rfl ⟨_, _, rfl, own_set7 HLS.out.r HZZ.out (by decide), own_set7 HLS.out.k HZZ.out (by decide), grew_set7 HG.out⟩
set_option maxHeartbeats 16000000 in
theorem read_P (s nm rest : List UInt8) (k : Nat) (hs : s.length ≤ 100000) (hr : rest.length ≤ 100000) (w : World) (hV : EnvEv w) (hcut : Lib.cut s [32] = (nm, rest, true)) (hk : Li.kindOf nm = (k : Int)) (hk1 : k = 2) : Calls Tryz.prog 21 #[.string ⟨s.toArray⟩] w (ReadPost w { Li.ev0 with kind := 2, plan := (planR (Li.parseP rest).1).1 }) := by
  have HS := Lib.hid fun W (q : Grew w W) => split_any rest [32] (by omega) (by decide) W (hV.l.m.grew q)
  have HVE := Lib.hid hV
  have HPP := Lib.hid fun W (q : Grew w W) => parsePlan_any rest hr W (hV.l.grew q)
  have HPL := Lib.hid fun W v (h : StepsAt W v (Li.parseP rest).1) => plan16_any v _ W h (parsed_steps rest)
  have HC0 := fun W (q : Grew w W) => cut_any s [32] (by omega) W (hV.l.m.grew q)
  rw [hcut] at HC0
  simp only at HC0
  have HC := Lib.hid HC0
  have HKD := Lib.hid hk
  clear HC0 hcut hk
  go_enter Tryz.func21, Tryz.ntmps21
  go_wp2_with fail
  refine (HC.out _ (by repeat (first | with_reducible exact Grew.refl _ | apply Grew.more | apply Grew.alloc | apply Grew.drew | apply Grew.drewN))).mono ?_
  rintro e w1 ⟨rfl, R1, n1, rfl⟩
  go_wp2_with fail
  refine (verbs_any _).mono ?_
  rintro e w2 ⟨b9, rfl, hvb, hpb, R3, n3, rfl⟩
  have HVB := Lib.hid hvb
  clear hvb
  go_wp2_with fail
  refine (idxVerb_any b9 _ nm _ HVB.out hpb (cell_grew (cell_of (heap_new_at _ _ _ (by simp [go_sem])) (o := 0)) ⟨R3, n3, rfl⟩)).mono ?_
  rintro e w3 ⟨rfl, R4, n4, rfl⟩
  rw [HKD.out]
  clear HVB hpb HKD HC
  subst hk1
  go_wp2_with fail
  refine (HS.out _ (by repeat (first | with_reducible exact Grew.refl _ | apply Grew.more | apply Grew.alloc | apply Grew.drew | apply Grew.drewN))).mono ?_
  rintro e w4 ⟨v8, rfl, hv8, R5, n5, rfl⟩
  obtain ⟨a8, c8, rfl⟩ := (OwnAt.rows hv8 encS_len).len
  have HV8 := Lib.hid (OwnAt.low hv8 (show w.heap.size ≤ _ by simp [World.more_size, World.size_alloc]; omega))
  clear hv8 HS
  go_wp2_with fail
  refine (verbs_any _).mono ?_
  rintro e w5 ⟨b8, rfl, hvb8, hpb8, R6, n6, rfl⟩
  have hlt8 := (hvb8 2 (by omega)).2
  clear hvb8
  have HG7 : Hid (Grew w ((((((((w.alloc (.cells #[.int .i64 0, .int .i64 0, .int .i64 0, .slice none 0 0, .string ⟨#[]⟩, .slice none 0 0, .int .i64 0] 27)).more R1 n1).alloc (.cells #[.string ⟨nm.toArray⟩] 9)).more R3 n3).more R4 n4).alloc (.cells #[.int .i64 2, .int .i64 0, .int .i64 0, .slice none 0 0, .string ⟨#[]⟩, .slice none 0 0, .int .i64 0] 27)).more R5 n5).more R6 n6)) := Lib.hid (by repeat (first | with_reducible exact Grew.refl _ | apply Grew.more | apply Grew.alloc | apply Grew.drew | apply Grew.drewN))
  have HE7 : Hid (EvSt w.heap.size (w.heap.size + 1 + R1.size + 1 + R3.size + R4.size) ((((((((w.alloc (.cells #[.int .i64 0, .int .i64 0, .int .i64 0, .slice none 0 0, .string ⟨#[]⟩, .slice none 0 0, .int .i64 0] 27)).more R1 n1).alloc (.cells #[.string ⟨nm.toArray⟩] 9)).more R3 n3).more R4 n4).alloc (.cells #[.int .i64 2, .int .i64 0, .int .i64 0, .slice none 0 0, .string ⟨#[]⟩, .slice none 0 0, .int .i64 0] 27)).more R5 n5).more R6 n6) { Li.ev0 with kind := ((2 : Nat) : Int) } (.slice none 0 0) (.slice none 0 0)) := Lib.hid ⟨grew_heap (show Grew ((((((w.alloc (.cells #[.int .i64 0, .int .i64 0, .int .i64 0, .slice none 0 0, .string ⟨#[]⟩, .slice none 0 0, .int .i64 0] 27)).more R1 n1).alloc (.cells #[.string ⟨nm.toArray⟩] 9)).more R3 n3).more R4 n4).alloc (.cells #[.int .i64 2, .int .i64 0, .int .i64 0, .slice none 0 0, .string ⟨#[]⟩, .slice none 0 0, .int .i64 0] 27)) _ from ((Grew.refl _).more R5 n5).more R6 n6) (heap_new_at _ _ _ (by simp [World.more_size, World.size_alloc])), OwnAt.nil _, OwnAt.nil _⟩
  have HZ7 : Hid (((((((((w.alloc (.cells #[.int .i64 0, .int .i64 0, .int .i64 0, .slice none 0 0, .string ⟨#[]⟩, .slice none 0 0, .int .i64 0] 27)).more R1 n1).alloc (.cells #[.string ⟨nm.toArray⟩] 9)).more R3 n3).more R4 n4).alloc (.cells #[.int .i64 2, .int .i64 0, .int .i64 0, .slice none 0 0, .string ⟨#[]⟩, .slice none 0 0, .int .i64 0] 27)).more R5 n5).more R6 n6).heap[w.heap.size]? = some (.cells #[.int .i64 0, .int .i64 0, .int .i64 0, .slice none 0 0, .string ⟨#[]⟩, .slice none 0 0, .int .i64 0] 27)) := Lib.hid (grew_heap (show Grew (w.alloc (.cells #[.int .i64 0, .int .i64 0, .int .i64 0, .slice none 0 0, .string ⟨#[]⟩, .slice none 0 0, .int .i64 0] 27)) _ from by repeat (first | with_reducible exact Grew.refl _ | apply Grew.more | apply Grew.alloc | apply Grew.drew | apply Grew.drewN)) (heap_new_at _ _ _ rfl))
  have HO7 : Hid (OwnAt w.heap.size 9 1 encS ((((((((w.alloc (.cells #[.int .i64 0, .int .i64 0, .int .i64 0, .slice none 0 0, .string ⟨#[]⟩, .slice none 0 0, .int .i64 0] 27)).more R1 n1).alloc (.cells #[.string ⟨nm.toArray⟩] 9)).more R3 n3).more R4 n4).alloc (.cells #[.int .i64 2, .int .i64 0, .int .i64 0, .slice none 0 0, .string ⟨#[]⟩, .slice none 0 0, .int .i64 0] 27)).more R5 n5).more R6 n6) (.slice a8 (Lib.split rest [32]).length c8) (Lib.split rest [32])) := Lib.hid (OwnAt.grew HV8.out (by repeat (first | with_reducible exact Grew.refl _ | apply Grew.more | apply Grew.alloc | apply Grew.drew | apply Grew.drewN)))
  have HBZ : Hid (w.heap.size < w.heap.size + 1 + R1.size + 1 + R3.size + R4.size) := Lib.hid (by omega)
  clear HV8
  generalize ((((((((w.alloc (.cells #[.int .i64 0, .int .i64 0, .int .i64 0, .slice none 0 0, .string ⟨#[]⟩, .slice none 0 0, .int .i64 0] 27)).more R1 n1).alloc (.cells #[.string ⟨nm.toArray⟩] 9)).more R3 n3).more R4 n4).alloc (.cells #[.int .i64 2, .int .i64 0, .int .i64 0, .slice none 0 0, .string ⟨#[]⟩, .slice none 0 0, .int .i64 0] 27)).more R5 n5).more R6 n6) = W7 at *
  generalize w.heap.size + 1 + R1.size + 1 + R3.size + R4.size = B at *
  generalize Lib.split rest [32] = ws at *
  go_wp2_with fail
  clear hlt8 hpb8
  refine (HPP.out _ HG7.out).mono ?_
  rintro e w6 ⟨v12, rfl, hv12, R7, n7, rfl⟩
  have HV12 := Lib.hid hv12
  clear hv12
  go_wp2_with fail
  refine (HPL.out _ v12 HV12.out).mono ?_
  rintro e w7 ⟨rfl, R8, n8, rfl⟩
  have hE8 := HE7.out.grew (show Grew W7 ((W7.more R7 n7).more R8 n8) from by repeat (first | with_reducible exact Grew.refl _ | apply Grew.more | apply Grew.alloc | apply Grew.drew | apply Grew.drewN))
  have hZ8 := grew_heap (show Grew W7 ((W7.more R7 n7).more R8 n8) from by repeat (first | with_reducible exact Grew.refl _ | apply Grew.more | apply Grew.alloc | apply Grew.drew | apply Grew.drewN)) HZ7.out
  have HG8 : Hid (Grew w ((W7.more R7 n7).more R8 n8)) := Lib.hid (HG7.out.trans (by repeat (first | with_reducible exact Grew.refl _ | apply Grew.more | apply Grew.alloc | apply Grew.drew | apply Grew.drewN)))
  generalize ((W7.more R7 n7).more R8 n8) = W8 at *
  have q4 := cell_of (o := 4) hE8.h
  have f4 := frozen_of (o := 4) hE8.h
  have p4 := Pre.mk (heap_lt hE8.h)
  simp [evC] at q4
  have HE8 := Lib.hid hE8
  have HZ8 := Lib.hid hZ8
  clear hE8 hZ8
  generalize (planR (Li.parseP rest).1).1 = pb at *
  go_upto_region 23 with fail
  have hst : EvSt w.heap.size B (W8.setCell ⟨B, 4, none⟩ (str pb)) { Li.ev0 with kind := 2, plan := pb } (.slice none 0 0) (.slice none 0 0) := HE8.out.put rfl rfl rfl
  have hz : (W8.setCell ⟨B, 4, none⟩ (str pb)).heap[w.heap.size]? = some (.cells #[.int .i64 0, .int .i64 0, .int .i64 0, .slice none 0 0, .string ⟨#[]⟩, .slice none 0 0, .int .i64 0] 27) := (set_other (Nat.ne_of_gt HBZ.out)).trans HZ8.out
  have HG : Hid (Grew w (W8.setCell ⟨B, 4, none⟩ (str pb))) := Lib.hid (HG8.out.set (Nat.le_of_lt HBZ.out) _)
  have HLS := Lib.hid hst
  clear q4 f4 p4
  generalize (W8.setCell ⟨B, 4, none⟩ (str pb)) = W9 at *
  have g0 := cell_of (o := 0) hst.h
  have g1 := cell_of (o := 1) hst.h
  have g2 := cell_of (o := 2) hst.h
  have g3 := cell_of (o := 3) hst.h
  have g4 := cell_of (o := 4) hst.h
  have g5 := cell_of (o := 5) hst.h
  have g6 := cell_of (o := 6) hst.h
  have pB := Pre.mk (heap_lt hst.h)
  have pZ := Pre.mk (heap_lt hz)
  have z0 := cell_of (o := 0) hz
  have y0 := frozen_of (o := 0) hz
  have z1 := cell_of (o := 1) hz
  have y1 := frozen_of (o := 1) hz
  have z2 := cell_of (o := 2) hz
  have y2 := frozen_of (o := 2) hz
  have z3 := cell_of (o := 3) hz
  have y3 := frozen_of (o := 3) hz
  have z4 := cell_of (o := 4) hz
  have y4 := frozen_of (o := 4) hz
  have z5 := cell_of (o := 5) hz
  have y5 := frozen_of (o := 5) hz
  have z6 := cell_of (o := 6) hz
  have y6 := frozen_of (o := 6) hz
  simp [evC] at g0 g1 g2 g3 g4 g5 g6
  simp at z0 z1 z2 z3 z4 z5 z6
  have HZZ := Lib.hid hz
  clear hst hz
  go_wp2
  exact bodyPost_ret (res_read rfl (set7 HZZ.out _ _ _ _ _ _ _)) rfl ⟨_, _, rfl, own_set7 HLS.out.r HZZ.out (by decide), own_set7 HLS.out.k HZZ.out (by decide), grew_set7 HG.out⟩
end Go.Proofs.YtmnllmbchpebbaaGreatDoor

/-! lines: read, the events whose words are numbers. -/
namespace Go.Proofs.YtmnllmbchpebbaaGreatDoor
set_option linter.unusedSimpArgs false
set_option linter.unusedVariables false
open Go.RowKit Ga
set_option maxRecDepth 100000

/-- the event behind so many letters -/
def stE (k : Int) (lt : List UInt8) (ws : List (List UInt8)) : Nat → Li.Ev
  | 0 => { Li.ev0 with kind := k }
  | j + 1 => if j < ws.length then setE (stE k lt ws j) (lt.getD j 0).toNat (ws.getD j []) else stE k lt ws j
theorem letters_num {k : Nat} (h : 1 ≤ k ∧ k ≤ 13) (h1 : k ≠ 1) (h2 : k ≠ 2) : (∀ c ∈ lettersN k, c.toNat < 128 ∧ (c.toNat = 65 ∨ c.toNat = 66 ∨ c.toNat = 75 ∨ c.toNat = 67)) ∧ (lettersN k == [82]) = false ∧ (lettersN k == [80]) = false := by
  rcases (show k = 3 ∨ k = 4 ∨ k = 5 ∨ k = 6 ∨ k = 7 ∨ k = 8 ∨ k = 9 ∨ k = 10 ∨ k = 11 ∨ k = 12 ∨ k = 13 by omega) with rfl | rfl | rfl | rfl | rfl | rfl | rfl | rfl | rfl | rfl | rfl <;> decide +kernel
set_option maxHeartbeats 32000000 in
theorem read_D (s nm rest lt : List UInt8) (k : Nat) (hs : s.length ≤ 100000) (hr : rest.length ≤ 100000) (w : World) (hV : EnvEv w) (hcut : Lib.cut s [32] = (nm, rest, true)) (hk : Li.kindOf nm = (k : Int)) (hk1 : 1 ≤ k ∧ k ≤ 13) (hlt : lettersN k = lt) (hl : ∀ c ∈ lt, c.toNat < 128 ∧ (c.toNat = 65 ∨ c.toNat = 66 ∨ c.toNat = 75 ∨ c.toNat = 67)) (hR : (lt == [82]) = false) (hP : (lt == [80]) = false) : Calls Tryz.prog 21 #[.string ⟨s.toArray⟩] w (ReadPost w (stE k lt (Lib.split rest [32]) lt.length)) := by
  have HS := Lib.hid fun W (q : Grew w W) => split_any rest [32] (by omega) (by decide) W (hV.l.m.grew q)
  have HVE := Lib.hid hV
  have hwl := split_len rest [32] (by decide)
  have HSUB := Lib.hid fun x (hx : x ∈ Lib.split rest [32]) => Nat.le_trans (split_sub rest [32] x hx) hr
  have HLT := Lib.hid hlt
  have HL := Lib.hid hl
  have kd1 : decide ((k : Int) < 1) = false := by simp; omega
  have HK1 := Lib.hid hk1
  clear hlt hl
  have hk14 : k < 14 := by omega
  clear hk1
  have HC0 := fun W (q : Grew w W) => cut_any s [32] (by omega) W (hV.l.m.grew q)
  rw [hcut] at HC0
  simp only at HC0
  have HC := Lib.hid HC0
  have HKD := Lib.hid hk
  clear HC0 hcut hk
  go_enter Tryz.func21, Tryz.ntmps21
  go_wp2_with fail
  refine (HC.out _ (by repeat (first | with_reducible exact Grew.refl _ | apply Grew.more | apply Grew.alloc | apply Grew.drew | apply Grew.drewN))).mono ?_
  rintro e w1 ⟨rfl, R1, n1, rfl⟩
  go_wp2_with fail
  refine (verbs_any _).mono ?_
  rintro e w2 ⟨b9, rfl, hvb, hpb, R3, n3, rfl⟩
  have HVB := Lib.hid hvb
  clear hvb
  go_wp2_with fail
  refine (idxVerb_any b9 _ nm _ HVB.out hpb (cell_grew (cell_of (heap_new_at _ _ _ (by simp [go_sem])) (o := 0)) ⟨R3, n3, rfl⟩)).mono ?_
  rintro e w3 ⟨rfl, R4, n4, rfl⟩
  rw [HKD.out]
  clear HVB hpb HKD HC
  go_wp2_with fail
  refine (HS.out _ (by repeat (first | with_reducible exact Grew.refl _ | apply Grew.more | apply Grew.alloc | apply Grew.drew | apply Grew.drewN))).mono ?_
  rintro e w4 ⟨v8, rfl, hv8, R5, n5, rfl⟩
  obtain ⟨a8, c8, rfl⟩ := (OwnAt.rows hv8 encS_len).len
  have HV8 := Lib.hid (OwnAt.low hv8 (show w.heap.size ≤ _ by simp [World.more_size, World.size_alloc]; omega))
  clear hv8 HS
  go_wp2_with fail
  refine (verbs_any _).mono ?_
  rintro e w5 ⟨b8, rfl, hvb8, hpb8, R6, n6, rfl⟩
  have hlt8 := (hvb8 k hk14).2
  rw [HLT.out] at hlt8
  clear hvb8
  have HG7 : Hid (Grew w ((((((((w.alloc (.cells #[.int .i64 0, .int .i64 0, .int .i64 0, .slice none 0 0, .string ⟨#[]⟩, .slice none 0 0, .int .i64 0] 27)).more R1 n1).alloc (.cells #[.string ⟨nm.toArray⟩] 9)).more R3 n3).more R4 n4).alloc (.cells #[.int .i64 k, .int .i64 0, .int .i64 0, .slice none 0 0, .string ⟨#[]⟩, .slice none 0 0, .int .i64 0] 27)).more R5 n5).more R6 n6)) := Lib.hid (by repeat (first | with_reducible exact Grew.refl _ | apply Grew.more | apply Grew.alloc | apply Grew.drew | apply Grew.drewN))
  have HE7 : Hid (EvSt w.heap.size (w.heap.size + 1 + R1.size + 1 + R3.size + R4.size) ((((((((w.alloc (.cells #[.int .i64 0, .int .i64 0, .int .i64 0, .slice none 0 0, .string ⟨#[]⟩, .slice none 0 0, .int .i64 0] 27)).more R1 n1).alloc (.cells #[.string ⟨nm.toArray⟩] 9)).more R3 n3).more R4 n4).alloc (.cells #[.int .i64 k, .int .i64 0, .int .i64 0, .slice none 0 0, .string ⟨#[]⟩, .slice none 0 0, .int .i64 0] 27)).more R5 n5).more R6 n6) { Li.ev0 with kind := ((k : Nat) : Int) } (.slice none 0 0) (.slice none 0 0)) := Lib.hid ⟨grew_heap (show Grew ((((((w.alloc (.cells #[.int .i64 0, .int .i64 0, .int .i64 0, .slice none 0 0, .string ⟨#[]⟩, .slice none 0 0, .int .i64 0] 27)).more R1 n1).alloc (.cells #[.string ⟨nm.toArray⟩] 9)).more R3 n3).more R4 n4).alloc (.cells #[.int .i64 k, .int .i64 0, .int .i64 0, .slice none 0 0, .string ⟨#[]⟩, .slice none 0 0, .int .i64 0] 27)) _ from ((Grew.refl _).more R5 n5).more R6 n6) (heap_new_at _ _ _ (by simp [World.more_size, World.size_alloc])), OwnAt.nil _, OwnAt.nil _⟩
  have HZ7 : Hid (((((((((w.alloc (.cells #[.int .i64 0, .int .i64 0, .int .i64 0, .slice none 0 0, .string ⟨#[]⟩, .slice none 0 0, .int .i64 0] 27)).more R1 n1).alloc (.cells #[.string ⟨nm.toArray⟩] 9)).more R3 n3).more R4 n4).alloc (.cells #[.int .i64 k, .int .i64 0, .int .i64 0, .slice none 0 0, .string ⟨#[]⟩, .slice none 0 0, .int .i64 0] 27)).more R5 n5).more R6 n6).heap[w.heap.size]? = some (.cells #[.int .i64 0, .int .i64 0, .int .i64 0, .slice none 0 0, .string ⟨#[]⟩, .slice none 0 0, .int .i64 0] 27)) := Lib.hid (grew_heap (show Grew (w.alloc (.cells #[.int .i64 0, .int .i64 0, .int .i64 0, .slice none 0 0, .string ⟨#[]⟩, .slice none 0 0, .int .i64 0] 27)) _ from by repeat (first | with_reducible exact Grew.refl _ | apply Grew.more | apply Grew.alloc | apply Grew.drew | apply Grew.drewN)) (heap_new_at _ _ _ rfl))
  have HO7 : Hid (OwnAt w.heap.size 9 1 encS ((((((((w.alloc (.cells #[.int .i64 0, .int .i64 0, .int .i64 0, .slice none 0 0, .string ⟨#[]⟩, .slice none 0 0, .int .i64 0] 27)).more R1 n1).alloc (.cells #[.string ⟨nm.toArray⟩] 9)).more R3 n3).more R4 n4).alloc (.cells #[.int .i64 k, .int .i64 0, .int .i64 0, .slice none 0 0, .string ⟨#[]⟩, .slice none 0 0, .int .i64 0] 27)).more R5 n5).more R6 n6) (.slice a8 (Lib.split rest [32]).length c8) (Lib.split rest [32])) := Lib.hid (OwnAt.grew HV8.out (by repeat (first | with_reducible exact Grew.refl _ | apply Grew.more | apply Grew.alloc | apply Grew.drew | apply Grew.drewN)))
  have HBZ : Hid (w.heap.size < w.heap.size + 1 + R1.size + 1 + R3.size + R4.size) := Lib.hid (by omega)
  clear HV8
  generalize ((((((((w.alloc (.cells #[.int .i64 0, .int .i64 0, .int .i64 0, .slice none 0 0, .string ⟨#[]⟩, .slice none 0 0, .int .i64 0] 27)).more R1 n1).alloc (.cells #[.string ⟨nm.toArray⟩] 9)).more R3 n3).more R4 n4).alloc (.cells #[.int .i64 k, .int .i64 0, .int .i64 0, .slice none 0 0, .string ⟨#[]⟩, .slice none 0 0, .int .i64 0] 27)).more R5 n5).more R6 n6) = W7 at *
  generalize w.heap.size + 1 + R1.size + 1 + R3.size + R4.size = B at *
  generalize Lib.split rest [32] = ws at *
  go_wp2_with fail
  clear hlt8 hpb8 kd1 hR hP hk14
  have hw2 := hwl.2
  clear hwl
  have e0 : stE (k : Int) lt ws 0 = { Li.ev0 with kind := (k : Int) } := rfl
  have HSTE : Hid (∀ j, stE (k : Int) lt ws (j + 1) = if j < ws.length then setE (stE (k : Int) lt ws j) (lt.getD j 0).toNat (ws.getD j []) else stE (k : Int) lt ws j) := Lib.hid fun _ => rfl
  rw [← e0] at HE7
  clear e0
  generalize stE (k : Int) lt ws = st at *
  go_loopg [14] lt.length (fun gg s14 wr => ∃ j : Nat, j ≤ lt.length ∧ lt.length - j ≤ gg ∧ Hid (Grew w wr) ∧ Hid (Keep B W7 wr) ∧ Hid (wr.heap[W7.heap.size]? = some (.stringIter ⟨lt.toArray⟩ j)) ∧ Hid (∃ kv, EvSt w.heap.size B wr (st j) (.slice none 0 0) kv))
  case atStart =>
    exact ⟨0, by omega, by omega, Lib.hid (Grew.alloc HG7.out _), Lib.hid (Keep.ofGrew ((Grew.refl _).alloc _)), Lib.hid (heap_new_at _ _ _ rfl), Lib.hid ⟨_, HE7.out.grew ((Grew.refl _).alloc _)⟩⟩
  case round =>
    obtain ⟨j, hj, hgg, HG, HK, HI, HQ⟩ := hrel
    rename World => wa
    obtain ⟨kv, hst⟩ := HQ.out
    obtain ⟨ka, kc, ekv⟩ := (OwnAt.rows hst.k encBo_len).len
    subst ekv
    have hBi : W7.heap.size ≠ B := fun e => by have h1 := HI.out; rw [e, hst.h] at h1; cases h1
    have HBI := Lib.hid hBi
    clear hBi HQ
    by_cases hlt : j < lt.length
    · have hc : lt[j] ∈ lt := List.getElem_mem hlt
      have hnx := fun ty => Lib.run_next_ascii_at (P := Tryz.prog) wa W7.heap.size ⟨lt.toArray⟩ j ty HI.out hlt (HL.out _ hc).1
      have hnx2 : ∀ ty, (Instr.next (.pointer (some ⟨W7.heap.size, 0, none⟩)) true ty).run Tryz.prog wa = .ok (.tuple #[.bool true, .int .i64 j, .int .i32 (lt[j].toNat : Int)]) (wa.iterAt W7.heap.size ⟨lt.toArray⟩ (j + 1)) := hnx
      have hgi : Grew w (wa.iterAt W7.heap.size ⟨lt.toArray⟩ (j + 1)) := grew_iter HG.out (k := W7.heap.size) (HG7.out.below.size) ⟨lt.toArray⟩ (j + 1)
      have hki : Keep B W7 (wa.iterAt W7.heap.size ⟨lt.toArray⟩ (j + 1)) := ⟨by rw [Lib.iterAt_size]; exact HK.out.1, fun q hq hne => (Lib.iterAt_other wa W7.heap.size q ⟨lt.toArray⟩ (j + 1) (by omega)).trans (HK.out.2 q hq hne)⟩
      have hi9 : (wa.iterAt W7.heap.size ⟨lt.toArray⟩ (j + 1)).heap[W7.heap.size]? = some (.stringIter ⟨lt.toArray⟩ (j + 1)) := Lib.iterAt_heap _ W7.heap.size ⟨lt.toArray⟩ j (j + 1) HI.out
      have hs9 : EvSt w.heap.size B (wa.iterAt W7.heap.size ⟨lt.toArray⟩ (j + 1)) (st j) (.slice none 0 0) (.slice ka (st j).keep.length kc) := ⟨(Lib.iterAt_other wa W7.heap.size B ⟨lt.toArray⟩ (j + 1) (fun e => HBI.out e.symm)).trans hst.h, own_iter (p2 := j + 1) hst.r HI.out, own_iter (p2 := j + 1) hst.k HI.out⟩
      have HC4 := Lib.hid (HL.out _ hc).2
      have hgd : lt.getD j 0 = lt[j] := by rw [List.getD_eq_getElem?_getD, List.getElem?_eq_getElem hlt]; rfl
      have HST1 := Lib.hid (HSTE.out j)
      rw [hgd] at HST1
      have HG9 := Lib.hid hgi
      have HK9 := Lib.hid hki
      have HI9 := Lib.hid hi9
      have HS9 := Lib.hid hs9
      clear hnx hgi hki hi9 hs9 hc hst HG HK HI hgd
      generalize lt[j] = c at *
      generalize wa.iterAt W7.heap.size ⟨lt.toArray⟩ (j + 1) = wi at *
      have hms : lt.length - (j + 1) < lt.length - j := Nat.sub_lt_sub_left hlt (Nat.lt_succ_self j)
      have HMS := Lib.hid (Nat.lt_of_lt_of_le hms hgg)
      clear hms hgg
      by_cases hjw : j < ws.length
      · have hown := Keep.own HK9.out HO7.out (OwnAt.other HO7.out HE7.out.h (by decide))
        obtain ⟨b1, o1, c1, e1, p1, g1⟩ := strE_at (OwnAt.rows hown encS_len) hjw
        cases e1
        have hwd : ws.getD j [] = ws[j] := by rw [List.getD_eq_getElem?_getD, List.getElem?_eq_getElem hjw]; rfl
        have HX := Lib.hid (HSUB.out _ (List.getElem_mem hjw))
        rw [if_pos hjw, hwd] at HST1
        clear hown hwd
        generalize ws[j] = x at *
        generalize (c.toNat) = cn at *
        go_wp2_with fail
        refine (set_any w.heap.size B cn x HX.out wi (HVE.out.grew HG9.out) (st j) _ _ HS9.out HG9.out.below.size HC4.out).mono ?_
        rintro e w9 ⟨rfl, ⟨kv9, hst9⟩, hk9, hg9⟩
        have H1 := Lib.hid hst9
        have H2 := Lib.hid hk9
        have H3 := Lib.hid hg9
        clear hst9 hk9 hg9 g1 p1
        go_wp2_with fail
        go_roundg (lt.length - (j + 1))
        case measure => exact HMS.out
        case rel => exact ⟨j + 1, hlt, Nat.le_refl _, Lib.hid (H3.out w HG9.out (Nat.le_of_lt HBZ.out)), Lib.hid (HK9.out.trans H2.out), Lib.hid ((H2.out.2 _ (heap_lt HI9.out) HBI.out).trans HI9.out), Lib.hid ⟨kv9, by rw [HST1.out]; exact H1.out⟩⟩
      · rw [if_neg hjw] at HST1
        generalize (c.toNat) = cn at *
        go_wp2_with fail
        go_roundg (lt.length - (j + 1))
        case measure => exact HMS.out
        case rel => exact ⟨j + 1, hlt, Nat.le_refl _, HG9, HK9, HI9, Lib.hid ⟨_, by rw [HST1.out]; exact HS9.out⟩⟩
    · obtain rfl : j = lt.length := by omega
      have hnx : ∀ ty, (Instr.next (.pointer (some ⟨W7.heap.size, 0, none⟩)) true ty).run Tryz.prog wa = .ok (.tuple #[.bool false]) wa := fun ty => Lib.run_next_end_at (P := Tryz.prog) _ W7.heap.size ⟨lt.toArray⟩ lt.length ty HI.out (Nat.lt_irrefl _)
      have hz : wa.heap[w.heap.size]? = some (.cells #[.int .i64 0, .int .i64 0, .int .i64 0, .slice none 0 0, .string ⟨#[]⟩, .slice none 0 0, .int .i64 0] 27) := (HK.out.2 _ (heap_lt HZ7.out) (Nat.ne_of_lt HBZ.out)).trans HZ7.out
      have HLS := Lib.hid hst
      clear HK HI
      generalize st lt.length = ev at *
      have g0 := cell_of (o := 0) HLS.out.h
      have g1 := cell_of (o := 1) HLS.out.h
      have g2 := cell_of (o := 2) HLS.out.h
      have g3 := cell_of (o := 3) HLS.out.h
      have g4 := cell_of (o := 4) HLS.out.h
      have g5 := cell_of (o := 5) HLS.out.h
      have g6 := cell_of (o := 6) HLS.out.h
      have pB := Pre.mk (heap_lt HLS.out.h)
      have pZ := Pre.mk (heap_lt hz)
      have z0 := cell_of (o := 0) hz
      have y0 := frozen_of (o := 0) hz
      have z1 := cell_of (o := 1) hz
      have y1 := frozen_of (o := 1) hz
      have z2 := cell_of (o := 2) hz
      have y2 := frozen_of (o := 2) hz
      have z3 := cell_of (o := 3) hz
      have y3 := frozen_of (o := 3) hz
      have z4 := cell_of (o := 4) hz
      have y4 := frozen_of (o := 4) hz
      have z5 := cell_of (o := 5) hz
      have y5 := frozen_of (o := 5) hz
      have z6 := cell_of (o := 6) hz
      have y6 := frozen_of (o := 6) hz
      simp [evC] at g0 g1 g2 g3 g4 g5 g6
      simp at z0 z1 z2 z3 z4 z5 z6
      have HZZ := Lib.hid hz
      clear hst hz
      go_wp2
      exact bodyPost_ret (res_read rfl (set7 HZZ.out _ _ _ _ _ _ _)) rfl ⟨_, _, rfl, own_set7 HLS.out.r HZZ.out (by decide), own_set7 HLS.out.k HZZ.out (by decide), grew_set7 HG.out⟩
theorem read_any (s : List UInt8) (hs : s.length ≤ 100000) (w : World) (hV : EnvEv w) : Calls Tryz.prog 21 #[.string ⟨s.toArray⟩] w (ReadPost w (Li.readE planR gvL s)) := by
  obtain ⟨c1, c2⟩ := cut_len s [32]
  have hk := Li.kindOf_range (Lib.cut s [32]).1
  have hR : Li.readE planR gvL s = if Li.kindOf (Lib.cut s [32]).1 < 1 ∨ (Lib.cut s [32]).2.2 = false then { Li.ev0 with kind := Li.kindOf (Lib.cut s [32]).1 }
    else if Li.kindOf (Lib.cut s [32]).1 = 1 then { Li.ev0 with kind := 1, recs := (Lib.split (Lib.cut s [32]).2.1 [32]).map (Li.recP gvL) }
    else if Li.kindOf (Lib.cut s [32]).1 = 2 then { Li.ev0 with kind := 2, plan := (planR (Li.parseP (Lib.cut s [32]).2.1).1).1 }
    else if Li.kindOf (Lib.cut s [32]).1 = 8 then { Li.ev0 with kind := 8, a := Co.atoiVal ((Lib.split (Lib.cut s [32]).2.1 [32]).getD 0 []), b := if 1 < (Lib.split (Lib.cut s [32]).2.1 [32]).length then Co.atoiVal ((Lib.split (Lib.cut s [32]).2.1 [32]).getD 1 []) else 0 }
    else if Li.kindOf (Lib.cut s [32]).1 = 11 then { Li.ev0 with kind := 11, keep := Li.truthsP ((Lib.split (Lib.cut s [32]).2.1 [32]).getD 0 []), cut := if 1 < (Lib.split (Lib.cut s [32]).2.1 [32]).length then Co.atoiVal ((Lib.split (Lib.cut s [32]).2.1 [32]).getD 1 []) else 0 }
    else if Li.hasA1 (Li.kindOf (Lib.cut s [32]).1) then { Li.ev0 with kind := Li.kindOf (Lib.cut s [32]).1, a := Co.atoiVal ((Lib.split (Lib.cut s [32]).2.1 [32]).getD 0 []) }
    else { Li.ev0 with kind := Li.kindOf (Lib.cut s [32]).1 } := rfl
  obtain ⟨nm, rest, more, hcut⟩ : ∃ a b c, Lib.cut s [32] = (a, b, c) := ⟨_, _, _, rfl⟩
  rw [hcut] at hR hk c2
  simp only at hR hk c2
  have hw0 : 0 < (Lib.split rest [32]).length := (split_len rest [32] (by decide)).1
  by_cases h1 : Li.kindOf nm < 1 ∨ more = false
  · rw [hR, if_pos h1]
    exact read_none s nm rest more _ hs w hV hcut rfl h1
  rw [if_neg h1] at hR
  obtain rfl : more = true := by cases more; exact absurd (.inr rfl) h1; rfl
  have hr : rest.length ≤ 100000 := by omega
  obtain ⟨k, hkd⟩ : ∃ k : Nat, Li.kindOf nm = (k : Int) := ⟨(Li.kindOf nm).toNat, by omega⟩
  have hk13 : 1 ≤ k ∧ k ≤ 13 := by omega
  rw [hkd] at hR
  rw [hR]
  by_cases k1 : k = 1
  · rw [if_pos (by omega)]
    exact read_R s nm rest k hs hr w hV hcut hkd k1
  by_cases k2 : k = 2
  · rw [if_neg (by omega), if_pos (by omega)]
    exact read_P s nm rest k hs hr w hV hcut hkd k2
  rw [if_neg (by omega), if_neg (by omega)]
  obtain ⟨l1, l2, l3⟩ := letters_num hk13 k1 k2
  have h := read_D s nm rest (lettersN k) k hs hr w hV hcut hkd hk13 rfl l1 l2 l3
  have he : stE (k : Int) (lettersN k) (Lib.split rest [32]) (lettersN k).length = if (k : Int) = 8 then { Li.ev0 with kind := 8, a := Co.atoiVal ((Lib.split rest [32]).getD 0 []), b := if 1 < (Lib.split rest [32]).length then Co.atoiVal ((Lib.split rest [32]).getD 1 []) else 0 }
    else if (k : Int) = 11 then { Li.ev0 with kind := 11, keep := Li.truthsP ((Lib.split rest [32]).getD 0 []), cut := if 1 < (Lib.split rest [32]).length then Co.atoiVal ((Lib.split rest [32]).getD 1 []) else 0 }
    else if Li.hasA1 (k : Int) then { Li.ev0 with kind := (k : Int), a := Co.atoiVal ((Lib.split rest [32]).getD 0 []) }
    else { Li.ev0 with kind := (k : Int) } := by
    generalize Lib.split rest [32] = ws at *
    rcases (show k = 3 ∨ k = 4 ∨ k = 5 ∨ k = 6 ∨ k = 7 ∨ k = 8 ∨ k = 9 ∨ k = 10 ∨ k = 11 ∨ k = 12 ∨ k = 13 by omega) with rfl | rfl | rfl | rfl | rfl | rfl | rfl | rfl | rfl | rfl | rfl
    all_goals
      simp only [lettersN, lettersL, List.getD_cons_zero, List.getD_cons_succ, List.length_cons, List.length_nil, stE]
      simp [Li.hasA1, hw0, setE]
    all_goals
      try (split <;> rfl)
  rw [he] at h
  exact h
theorem readL_len (s : List UInt8) : (Li.readE planR gvL s).plan.length ≤ 100000 := by
  have hp : ∀ p : List Gr.Stp, (planR p).1.length ≤ 100000 := fun p => by
    by_cases h : Gr.OkPl fitsP p
    · rw [planR_ok h]; have := putPl_len h; simp only; omega
    · rw [planR_no h]; simp
  unfold Li.readE
  repeat' split
  all_goals first | exact hp _ | (show ([] : List UInt8).length ≤ 100000; decide)
end Go.Proofs.YtmnllmbchpebbaaGreatDoor
