import Derived.Test.YtpbohimddmploaaGreatCd48
import Derived.Test.YtpbohimddmploaaGreatCd47
import Derived.Test.YtpbohimddmploaaGreatCd37
import Derived.Test.YtpbohimddmploaaGreatCd6
set_option linter.unusedSimpArgs false
set_option linter.unusedVariables false
set_option maxRecDepth 100000
set_option maxHeartbeats 64000000
namespace Go.Proofs.YtpbohimddmploaaGreat
open Go.RowKit Ga

theorem str_at2 (W : World) (x y : List UInt8) (t : TypeId) {c : Array Value} {n cap : Nat} {v : Value} (hc : c = #[.string ⟨x.toArray⟩, .string ⟨y.toArray⟩]) (hv : v = .slice (some ⟨n, 0, none⟩) 2 cap) (hn : n = W.heap.size) : RowsAt 1 encS (W.alloc (.cells c t)) v [x, y] := by
  subst hc hv
  exact RowsAt.fresh (l := [x, y]) (ls := 2) (c := [.string ⟨x.toArray⟩, .string ⟨y.toArray⟩]) rfl (by simp [maxLen]) encS_len hn rfl
theorem sumFrame_any (s : List UInt8) (w : World) (hs : s.length ≤ 900000) : Calls Tryz.prog 98 #[.string ⟨s.toArray⟩] w fun e w' => ∃ f : List UInt8, f.length = s.length + 8 ∧ Gives (str f) w e w' := by
  have hsz : (s.length : Int) ≤ 9223372036854775807 := by omega
  have HS := Lib.hid hs
  have HF := Lib.hid fun n W => sumFour_any n W
  go_enter Tryz.func98, Tryz.ntmps98
  go_wp2_with (go_at_call 149; refine (HF.out _ _).mono ?_; rintro e w1 ⟨b, hb, rfl, R3, n3, rfl⟩)
  refine (sumOf_any _ [b, s] _ (str_at2 _ _ _ _ rfl rfl (by simp [go_sem])) (by have := HS.out; intro l hl; simp at hl; rcases hl with rfl | rfl <;> omega)).mono ?_
  rintro e w1 ⟨y, rfl, R4, n4, rfl⟩
  have HB := Lib.hid hb
  go_wp2_with (go_at_call 149; refine (HF.out _ _).mono ?_; rintro e w1 ⟨b2, hb2, rfl, R5, n5, rfl⟩; (have e1 := str_cat b b2); (have e2 := str_cat (b ++ b2) s); (have q1 : ¬ 9223372036854775807 < b.length + b2.length := by omega); (have q2 : ¬ 9223372036854775807 < (b ++ b2).length + s.length := by rw [List.length_append]; omega))
  go_ret
  exact ⟨b ++ (b2 ++ s), by simp; omega, rfl, by repeat (first | with_reducible exact Grew.refl _ | apply Grew.more | apply Grew.alloc | apply Grew.drew | apply Grew.drewN)⟩
theorem sumOpen_nil (w : World) : Calls Tryz.prog 139 #[.string ⟨#[]⟩] w (Gives (.tuple #[.string ⟨#[]⟩, .string ⟨#[]⟩, .int .i64 3]) w) := by
  go_enter Tryz.func139, Tryz.ntmps139
  go_wp2
  exact bodyPost_ret (v := .tuple #[.string ⟨#[]⟩, .string ⟨#[]⟩, .int .i64 3]) (by simp [results, Tryz.results139, go_sem]) rfl ⟨rfl, by repeat (first | with_reducible exact Grew.refl _ | apply Grew.more | apply Grew.alloc | apply Grew.drew | apply Grew.drewN)⟩
theorem logScan_nil (w : World) : Calls Tryz.prog 90 #[.string ⟨#[]⟩] w (Gives (.tuple #[.slice none 0 0, .int .i64 0]) w) := by
  go_enter Tryz.func90, Tryz.ntmps90
  go_wp2
  refine wp_scope_jumps1' 0 (fun _ _ => False) (fun _ _ => 0) rfl (fun _ _ h => h.elim) fun _ => ?_
  go_wp2
  refine wp_label ?_
  go_wp2_with (go_at_call 139; refine (sumOpen_nil _).mono ?_; rintro e w1 ⟨rfl, R3, n3, rfl⟩)
  go_ret2
  exact ⟨rfl, by repeat (first | with_reducible exact Grew.refl _ | apply Grew.more | apply Grew.alloc | apply Grew.drew | apply Grew.drewN)⟩
structure LogAt (base : Nat) (W : World) (y x : Nat) (av : Value) (ls : List (List UInt8)) : Prop where
  blk : W.heap[y]? = some (.cells #[.pointer (some ⟨x, 0, none⟩), av] 148)
  own : OwnAt base 9 1 encS W av ls
theorem logOpen_nil {W : World} {x : Nat} {cap : Int} (w0 : World) (h : DiskAt W x [] (.slice none 0 0) [] cap) (hg : Grew w0 W) (hx : w0.heap.size ≤ x) : Calls Tryz.prog 35 #[.pointer (some ⟨x, 0, none⟩)] W fun e W' => ∃ y, e = .returned (.tuple #[.pointer (some ⟨y, 0, none⟩), .int .i64 0]) ∧ w0.heap.size ≤ y ∧ LogAt w0.heap.size W' y x (.slice none 0 0) [] ∧ DiskAt W' x [] (.slice none 0 0) [] cap ∧ Leaves [95] W W' ∧ Grew w0 W' := by
  have HR := Lib.hid (diskRead_any h)
  have HS := Lib.hid fun W' (g : Grew W W') => diskSync_any w0 (h.grew g) (hg.trans g) hx
  clear h hg hx
  go_enter Tryz.func35, Tryz.ntmps35
  go_wp2_with (first
    | (go_at_call 89; refine HR.out.mono ?_; rintro e w1 ⟨rfl, R1, n1, rfl⟩)
    | (go_at_call 90; refine (logScan_nil _).mono ?_; rintro e w1 ⟨rfl, R2, n2, rfl⟩)
    | (go_at_call 92; refine (HS.out _ (by repeat (first | with_reducible exact Grew.refl _ | apply Grew.more | apply Grew.alloc | apply Grew.drew | apply Grew.drewN))).mono ?_; rintro e w1 ⟨rfl, hd, hl, hg⟩; (have HD := Lib.hid hd); (have HL := Lib.hid hl); (have HG := Lib.hid hg); clear hd hl hg))
  go_ret2
  exact ⟨_, rfl, HG.out.below.size, ⟨heap_new_at _ _ _ rfl, OwnAt.nil _⟩, HD.out.grew (by repeat (first | with_reducible exact Grew.refl _ | apply Grew.more | apply Grew.alloc | apply Grew.drew | apply Grew.drewN)), (Leaves.grew (by repeat (first | with_reducible exact Grew.refl _ | apply Grew.more | apply Grew.alloc | apply Grew.drew | apply Grew.drewN))).trans (HL.out.trans (Leaves.grew (by repeat (first | with_reducible exact Grew.refl _ | apply Grew.more | apply Grew.alloc | apply Grew.drew | apply Grew.drewN)))), HG.out.trans (by repeat (first | with_reducible exact Grew.refl _ | apply Grew.more | apply Grew.alloc | apply Grew.drew | apply Grew.drewN))⟩

def IsFr (n : Nat) (v : Value) (w : World) : Prop := ∃ f : List UInt8, v = str f ∧ f.length = n
theorem IsFr.st (n : Nat) : ∀ v w w', IsFr n v w → Grew w w' → IsFr n v w' := fun _ _ _ h _ => h
theorem logAppend_any {W : World} {y x : Nat} {av : Value} {ls : List (List UInt8)} {last : List UInt8} {cap : Int} (w0 : World) (s : List UInt8) (h : LogAt w0.heap.size W y x av ls) (hd : DiskAt W x last (.slice none 0 0) [] cap) (hg : Grew w0 W) (hx : w0.heap.size ≤ x) (hy : w0.heap.size ≤ y) (hc : 0 ≤ cap ∧ cap ≤ 16777216) (hroom : (s.length : Int) + 8 ≤ cap - last.length) (hl : last.length + s.length ≤ 900000) (hn : ls.length ≤ 1000) :
    Calls Tryz.prog 39 #[.pointer (some ⟨y, 0, none⟩), .string ⟨s.toArray⟩] W fun e W' => e = .returned (.int .i64 0) ∧ (∃ av', LogAt w0.heap.size W' y x av' (ls ++ [s])) ∧ (∃ last', DiskAt W' x last' (.slice none 0 0) [] cap ∧ last'.length = last.length + s.length + 8) ∧ Leaves [95, 148, 9] W W' ∧ Grew w0 W' := by
  have H := Lib.hid h
  have HD := Lib.hid hd
  have h0 := cell_of (o := 0) h.blk
  have h1 := cell_of (o := 1) h.blk
  simp at h0 h1
  have hb : Pre y W := heap_lt h.blk
  have hsz : (s.length : Int) ≤ 9223372036854775807 := by omega
  have hmost : ¬ ((1048576 : Int) < s.length) := by omega
  have HF := Lib.hid fun W => sumFrame_any s W (by omega)
  have HA := Lib.hid fun (f : List UInt8) (hf : f.length = s.length + 8) W' (g : Grew W W') => diskAppend_any w0 f (hd.grew g) (hg.trans g) hx hc (by intro e; rw [e] at hf; simp at hf) (by rw [hf]; omega) (by omega)
  have HG := Lib.hid hg
  have HX := Lib.hid hx
  have HY := Lib.hid hy
  have HL := Lib.hid hl
  have HN := Lib.hid hn
  clear h hd hg hx hy hc hroom hl hn
  go_enter Tryz.func39, Tryz.ntmps39
  go_wp2_with fail
  refine wp_region_seq 6 Tryz.mixed (by kernel_rfl) (by kernel_rfl) ?_
  iterate 5
    apply Seq.val
    focus
      rintro w1 u ⟨R1, n1, rfl⟩ hF
      simp [moreFacts, Fact.more, Oper.deps, Region.binds, List.filter_cons, World.more_drew] at hF
      simp [putFacts, Oper.deps, Region.binds, List.filter_cons, Region.dstOf, Fact.at, Act.put, World.more_drew]
      go_wp2
      exact ⟨by repeat (first | with_reducible exact Grew.refl _ | apply Grew.more | apply Grew.alloc | apply Grew.drew | apply Grew.drewN), rfl, _, _, rfl, rfl, rfl⟩
  apply Seq.of (IsFr (s.length + 8)) (IsFr.st _)
  focus
    rintro w1 u ⟨R1, n1, rfl⟩ hF
    simp [moreFacts, Fact.more, Oper.deps, Region.binds, List.filter_cons, World.more_drew] at hF
    simp [putFacts, Oper.deps, Region.binds, List.filter_cons, Region.dstOf, Fact.at, Act.put, World.more_drew]
    go_wp2_with (first
      | (go_at_call 98; refine (HF.out _).mono ?_; rintro e w2 ⟨f, hf, rfl, R3, n3, rfl⟩)
      )
    exact ⟨by repeat (first | with_reducible exact Grew.refl _ | apply Grew.more | apply Grew.alloc | apply Grew.drew | apply Grew.drewN), rfl, _, _, rfl, rfl, ⟨f, rfl, hf⟩⟩
  rintro u w1 ⟨R1, n1, rfl⟩ hF
  simp [moreFacts, apartFacts, Fact.more, Fact.isNew, List.range_succ, World.more_drew] at hF
  obtain ⟨f, hu, hf⟩ := hF
  simp [putFacts, Region.dstOf, Fact.at, Act.put, List.range_succ, World.more_drew]
  rw [hu]
  clear hu h0 h1 hb
  have HFL := Lib.hid hf
  clear hf
  go_wp2_with (first
    | (go_at_call 23; refine (HA.out f HFL.out _ (by repeat (first | with_reducible exact Grew.refl _ | apply Grew.more | apply Grew.alloc | apply Grew.drew | apply Grew.drewN))).mono ?_; rintro e wA ⟨rfl, ⟨pv, hdA⟩, hlA, hgA⟩; (have hl1 : Leaves [95] W wA := (Leaves.grew (by repeat (first | with_reducible exact Grew.refl _ | apply Grew.more | apply Grew.alloc | apply Grew.drew | apply Grew.drewN))).trans hlA); (have bA := hl1.at H.out.blk (by decide)); (have a0 := cell_of (o := 0) bA); simp at a0; (have pA := Pre.mk (heap_lt bA)); (have HDA := Lib.hid hdA); (have HLA := Lib.hid hl1); (have HGA := Lib.hid hgA); clear hdA hlA hgA hl1 bA)
    | (go_at_call 92; refine (diskSync_any w0 (HDA.out.grew (by repeat (first | with_reducible exact Grew.refl _ | apply Grew.more | apply Grew.alloc | apply Grew.drew | apply Grew.drewN))) (HGA.out.trans (by repeat (first | with_reducible exact Grew.refl _ | apply Grew.more | apply Grew.alloc | apply Grew.drew | apply Grew.drewN))) HX.out).mono ?_; rintro e wB ⟨rfl, hdB, hlB, hgB⟩; clear a0 pA; (have hl2 : Leaves [95] W wB := HLA.out.trans ((Leaves.grew (by repeat (first | with_reducible exact Grew.refl _ | apply Grew.more | apply Grew.alloc | apply Grew.drew | apply Grew.drewN))).trans hlB)); (have bB := hl2.at H.out.blk (by decide)); (have c1 := cell_of (o := 1) bB); simp at c1; (have HBB := Lib.hid bB); (have pB := Pre.mk (heap_lt bB)); (have HDB := Lib.hid hdB); (have HLB := Lib.hid hl2); (have HGB := Lib.hid hgB); clear hdB hlB hgB hl2 bB)
    | (at_builtin; go_loud (refine wpList_ownK (w0 := w0) rfl (.tmp 36) (.tmp 38) 88 _ _ _ _ [s] rfl Tryz.underlying88 infoStr rfl (by decide) encS_len encS_one rfl (OwnAt.grew (HLB.out.own H.out.own (by decide)) (by repeat (first | with_reducible exact Grew.refl _ | apply Grew.more | apply Grew.alloc | apply Grew.drew | apply Grew.drewN))) (HGB.out.trans (by repeat (first | with_reducible exact Grew.refl _ | apply Grew.more | apply Grew.alloc | apply Grew.drew | apply Grew.drewN))) rfl (str_at1 _ _ _ _ rfl (by simp [go_sem])) (by have := HN.out; simp; omega) (by decide) (by simp) ?_); intro v7 W7 hA; obtain ⟨b9, c9, rfl⟩ := own_some' hA.2.1 (by simp); (have b7 := app_blk (W := wB) hA (by repeat (first | with_reducible exact Grew.refl _ | apply Grew.more | apply Grew.alloc | apply Grew.drew | apply Grew.drewN)) HBB.out ((HLB.out.own H.out.own (by decide)).other HBB.out (by decide))); (have HL7 := Lib.hid (Leaves.app (T := [95, 148, 9]) ((HLB.out.mono (by simp)).trans (Leaves.grew (by repeat (first | with_reducible exact Grew.refl _ | apply Grew.more | apply Grew.alloc | apply Grew.drew | apply Grew.drewN)))) (OwnAt.grew (HLB.out.own H.out.own (by decide)) (by repeat (first | with_reducible exact Grew.refl _ | apply Grew.more | apply Grew.alloc | apply Grew.drew | apply Grew.drewN))) hA (by simp))); (have HS7 := Lib.hid (Leaves.app (T := [9]) (W := wB) (Leaves.grew (by repeat (first | with_reducible exact Grew.refl _ | apply Grew.more | apply Grew.alloc | apply Grew.drew | apply Grew.drewN))) (OwnAt.grew (HLB.out.own H.out.own (by decide)) (by repeat (first | with_reducible exact Grew.refl _ | apply Grew.more | apply Grew.alloc | apply Grew.drew | apply Grew.drewN))) hA (by simp))); (have HA7 := Lib.hid hA); (have B7 := Lib.hid b7); (have c7 := cell_of (o := 1) b7); (have f7 := frozen_of (o := 1) b7); (have p7 := Pre.mk (heap_lt b7)); simp at c7; clear hA b7))
  go_ret
  have e7 := set_blk (o := 1) (v := .slice (some ⟨b9, 0, none⟩) (ls.length + 1) c9) B7.out rfl
  have hl7 : Leaves [148] W7 (W7.setCell ⟨y, 1, none⟩ (.slice (some ⟨b9, 0, none⟩) (ls.length + 1) c9)) := (Leaves.refl _ _).set B7.out (by simp)
  have ho := HA7.out.2.1
  rw [List.length_append] at ho
  exact ⟨rfl, ⟨_, e7, hl7.own ho (by decide)⟩, ⟨_, ((HDB.out.leaves HS7.out (by decide)).leaves hl7 (by decide)), by simp [HFL.out]; omega⟩, HL7.out.trans (hl7.mono (by simp)), Grew.set HA7.out.1 HY.out _⟩
theorem logLen_any {W : World} {base y x : Nat} {av : Value} {ls : List (List UInt8)} (h : LogAt base W y x av ls) : Calls Tryz.prog 36 #[.pointer (some ⟨y, 0, none⟩)] W (Gives (.int .i64 ls.length) W) := by
  have h1 := cell_of (o := 1) h.blk
  simp at h1
  obtain ⟨a, cap, rfl, hn, -⟩ := (OwnAt.rows h.own encS_len).open1
  clear h
  go_enter Tryz.func36, Tryz.ntmps36
  go_wp2
  go_ret
  refine ⟨rfl, ?_⟩
  repeat (first | with_reducible exact Grew.refl _ | apply Grew.more | apply Grew.alloc | apply Grew.drew | apply Grew.drewN)
theorem cloneStr_any {W : World} {base : Nat} {v : Value} {ls : List (List UInt8)} (h : OwnAt base 9 1 encS W v ls) (hn : ls.length ≤ 1000000) : Calls Tryz.prog 99 #[v] W fun e W' => ∃ v', e = .returned v' ∧ OwnAt W.heap.size 9 1 encS W' v' ls ∧ Grew W W' := by
  rcases h.form with ⟨rfl, rfl⟩ | ⟨b, cap, rfl, -, -, -⟩
  · refine (Tryz.slices_Clone_string_nil 0 0 W).mono ?_
    rintro e W' ⟨rfl, rfl⟩
    exact ⟨_, rfl, OwnAt.nil _, Grew.refl _⟩
  · have hr := h.rows encS_len
    have hc : ∀ j, j < (ls.map fun l => (⟨l.toArray⟩ : ByteArray)).length → W.cell? ⟨b, 0 + j, none⟩ = some (.string ((ls.map fun l => (⟨l.toArray⟩ : ByteArray)).getD j ByteArray.empty)) := by
      intro j hj
      rw [List.length_map] at hj
      obtain ⟨a, cap', hv, -, hx⟩ := hr
      obtain ⟨b', off, hab, hx⟩ := hx (by intro e; subst e; simp at hj)
      cases hv
      cases hab
      have := hx j ls[j] (List.getElem?_eq_getElem hj) 0 (.string ⟨ls[j].toArray⟩) rfl
      rw [List.getD_eq_getElem?_getD, List.getElem?_map, List.getElem?_eq_getElem hj]
      simpa using this
    refine (Tryz.slices_Clone_string b 0 ls.length cap (ls.map fun l => (⟨l.toArray⟩ : ByteArray)) W (by simp) (by omega) hc).mono ?_
    rintro e W' ⟨v', rfl, h1, -, h2⟩
    refine ⟨v', rfl, ?_, Grew.ofBelow h2⟩
    unfold OwnAt
    rw [flatMap_encS]
    have e2 : ((ls.map fun l => (⟨l.toArray⟩ : ByteArray)).take ls.length).map Value.string = ls.map fun x => Value.string ⟨x.toArray⟩ := by
      rw [List.take_of_length_le (by simp), List.map_map]
      rfl
    rw [e2] at h1
    exact h1
theorem logAll_any {W : World} {base y x : Nat} {av : Value} {ls : List (List UInt8)} (h : LogAt base W y x av ls) (hn : ls.length ≤ 1000000) : Calls Tryz.prog 41 #[.pointer (some ⟨y, 0, none⟩)] W fun e W' => ∃ v, e = .returned v ∧ OwnAt W.heap.size 9 1 encS W' v ls ∧ Grew W W' := by
  have h1 := cell_of (o := 1) h.blk
  simp at h1
  have HC := Lib.hid (cloneStr_any h.own hn)
  clear h
  go_enter Tryz.func41, Tryz.ntmps41
  go_wp2_with (go_at_call 99; refine HC.out.mono ?_; rintro e w1 ⟨v, rfl, ho, R3, n3, rfl⟩; (have HO := Lib.hid ho); clear ho)
  go_ret
  exact ⟨v, rfl, HO.out, by repeat (first | with_reducible exact Grew.refl _ | apply Grew.more | apply Grew.alloc | apply Grew.drew | apply Grew.drewN)⟩

structure OkH (m : Gr.Mf) : Prop where
  r : Gr.RightM fitsP m
  s : Small m.graph
  p : ∀ s ∈ m.plan, s.nd.frm.length ≤ 100 ∧ s.nd.prog.length ≤ 1000
  o : m.out.length ≤ 3000
  h8 : ∀ n ∈ m.graph, n.route.length = 8
  l : (Gr.putM putI m).length ≤ 100000
theorem getM_back {m : Gr.Mf} (hr : Gr.RightM fitsP m) (h8 : ∀ n ∈ m.graph, n.route.length = 8) : getMB (Gr.putM putI m) = (m, 0) := by
  have h1 := (Gr.man_item codecI).put m [] (hr.okM fits_nil (fun p hp => safe_fits hp) h8 (fun l hl => putI_len l hl))
  rw [List.append_nil] at h1
  unfold getMB
  rw [h1]
  simp only
  rw [show endE (([] : List UInt8), (0 : Int)) true = 0 from rfl, if_neg (by simp), if_pos (rightB_iff.2 hr)]
theorem MfOwn.low {base : Nat} {w : World} {c : MfC} {m : Gr.Mf} (h : MfOwn base w c m) : MfOwn 0 w c m := by
  obtain ⟨lc, h1, h2⟩ := h.g
  obtain ⟨lp, h3, h4⟩ := h.p
  have key : ∀ {c : NdC} {n : Gr.Nd}, OwnsNd base w c n → OwnsNd 0 w c n := fun h => ⟨OwnAt.low h.1 (Nat.zero_le _), OwnAt.low h.2 (Nat.zero_le _)⟩
  exact ⟨h.epoch, h.plans, OwnAt.low h.o (Nat.zero_le _), ⟨lc, OwnAt.low h1 (Nat.zero_le _), Rel.mono (fun _ _ h => ⟨h.1, key h.2⟩) h2⟩, OwnAt.low h.e (Nat.zero_le _), OwnAt.low h.x (Nat.zero_le _), ⟨lp, OwnAt.low h3 (Nat.zero_le _), Rel.mono (fun _ _ h => ⟨h.1, key h.2⟩) h4⟩⟩
theorem MfOwn.grew {base : Nat} {w w' : World} {c : MfC} {m : Gr.Mf} (h : MfOwn base w c m) (g : Grew w w') : MfOwn base w' c m := h.leaves (T := []) (Leaves.grew g) (by simp [NoData])
def IsMf (m : Gr.Mf) (v : Value) (w : World) : Prop := ∃ c : MfC, v = .agg #[.int .i64 c.epoch, .int .i64 c.plans, .slice c.ao c.no c.co, .slice c.ag c.ng c.cg, .slice c.ae c.ne c.ce, .slice c.ax c.nx c.cx, .slice c.ap c.np c.cp] ∧ MfOwn 0 w c m
theorem IsMf.st (m : Gr.Mf) : ∀ v w w', IsMf m v w → Grew w w' → IsMf m v w' := fun _ _ _ ⟨c, h1, h2⟩ g => ⟨c, h1, h2.grew g⟩
theorem coOwn_any (c : MfC) (m : Gr.Mf) (w : World) (h : MfIs w c m) (ok : OkH m) : Calls Tryz.prog 52 #[.agg #[.int .i64 c.epoch, .int .i64 c.plans, .slice c.ao c.no c.co, .slice c.ag c.ng c.cg, .slice c.ae c.ne c.ce, .slice c.ax c.nx c.cx, .slice c.ap c.np c.cp]] w fun e w' => ∃ c' : MfC, e = .returned (.agg #[.int .i64 c'.epoch, .int .i64 c'.plans, .slice c'.ao c'.no c'.co, .slice c'.ag c'.ng c'.cg, .slice c'.ae c'.ne c'.ce, .slice c'.ax c'.nx c'.cx, .slice c'.ap c'.np c'.cp]) ∧ MfOwn 0 w' c' m ∧ Grew w w' := by
  have HP := Lib.hid fun W (g : Grew w W) => packMan_ok c m W (h.grew g) ok.s ok.p ok.o ok.r
  have HB := Lib.hid (getM_back ok.r ok.h8)
  have HG := Lib.hid fun W => getManO_any (Gr.putM putI m) W ok.l
  rw [HB.out] at HG
  generalize Gr.putM putI m = s at *
  obtain ⟨ep, pl, ao, no, co, ag, ng, cg, ae, ne, ce, ax, nx, cx, ap, np, cp⟩ := c
  simp only at *
  clear h ok HB
  go_enter Tryz.func52, Tryz.ntmps52
  go_wp2_with (first
    | (go_at_call 38; refine (HP.out _ (by repeat (first | with_reducible exact Grew.refl _ | apply Grew.more | apply Grew.alloc | apply Grew.drew | apply Grew.drewN))).mono ?_; rintro e w1 ⟨rfl, R1, n1, rfl⟩)
    | (go_at_call 42; refine (HG.out _).mono ?_; rintro e w2 ⟨⟨ep2, pl2, ao2, no2, co2, ag2, ng2, cg2, ae2, ne2, ce2, ax2, nx2, cx2, ap2, np2, cp2⟩, rfl, hm, R2, n2, rfl⟩; (have HM := Lib.hid hm); clear hm))
  refine bodyPost_ret (v := .agg #[.int .i64 ep2, .int .i64 pl2, .slice ao2 no2 co2, .slice ag2 ng2 cg2, .slice ae2 ne2 ce2, .slice ax2 nx2 cx2, .slice ap2 np2 cp2]) (by simp [results, Tryz.results52, go_sem]) rfl ⟨⟨ep2, pl2, ao2, no2, co2, ag2, ng2, cg2, ae2, ne2, ce2, ax2, nx2, cx2, ap2, np2, cp2⟩, rfl, ?_, by repeat (first | with_reducible exact Grew.refl _ | apply Grew.more | apply Grew.alloc | apply Grew.drew | apply Grew.drewN)⟩
  exact (((Twin.new 51 _ _ _).more R1 n1).more R2 n2).own HM.out.low (by simp [NoData]) |>.grew (by repeat (first | with_reducible exact Grew.refl _ | apply Grew.more | apply Grew.alloc | apply Grew.drew | apply Grew.drewN))

def encMh (c : MfC) : List Value := [.int .i64 c.epoch, .int .i64 c.plans, .slice c.ao c.no c.co, .slice c.ag c.ng c.cg, .slice c.ae c.ne c.ce, .slice c.ax c.nx c.cx, .slice c.ap c.np c.cp]
theorem encMh_len (c : MfC) : (encMh c).length = 7 := rfl
theorem encMh_one (c : MfC) : ∀ u ∈ encMh c, u.oneCell' = true := by intro u hu; simp [encMh] at hu; rcases hu with rfl | rfl | rfl | rfl | rfl | rfl | rfl <;> rfl
def HistAt (base : Nat) (W : World) (hv : Value) (ms : List Gr.Mf) : Prop := ∃ cs : List MfC, OwnAt base 51 7 encMh W hv cs ∧ Rel (MfOwn 0 W) cs ms
theorem HistAt.leaves {T : List TypeId} {W W' : World} {base : Nat} {hv : Value} {ms : List Gr.Mf} (h : HistAt base W hv ms) (g : Leaves T W W') (hT : NoData T) (hM : 51 ∉ T) : HistAt base W' hv ms := by
  obtain ⟨cs, h1, h2⟩ := h
  exact ⟨cs, g.own h1 hM, Rel.mono (fun _ _ q => q.leaves g hT) h2⟩
theorem HistAt.grew {W W' : World} {base : Nat} {hv : Value} {ms : List Gr.Mf} (h : HistAt base W hv ms) (g : Grew W W') : HistAt base W' hv ms := h.leaves (T := []) (Leaves.grew g) (by simp [NoData]) (by simp)
theorem HistAt.at {W : World} {base : Nat} {hv : Value} {ms : List Gr.Mf} (h : HistAt base W hv ms) : ∃ a cap, hv = .slice a ms.length cap ∧ ms.length ≤ 9223372036854775807 ∧ ∀ k (hk : k < ms.length), ∃ b, a = some ⟨b, 0, none⟩ ∧ Pre b W ∧ ∃ c : MfC, MfOwn 0 W c ms[k] ∧ W.cell? ⟨b, k * 7, none⟩ = some (.int .i64 c.epoch) ∧ W.cell? ⟨b, k * 7 + 1, none⟩ = some (.int .i64 c.plans) ∧ W.cell? ⟨b, k * 7 + 2, none⟩ = some (.slice c.ao c.no c.co) ∧ W.cell? ⟨b, k * 7 + 3, none⟩ = some (.slice c.ag c.ng c.cg) ∧ W.cell? ⟨b, k * 7 + 4, none⟩ = some (.slice c.ae c.ne c.ce) ∧ W.cell? ⟨b, k * 7 + 5, none⟩ = some (.slice c.ax c.nx c.cx) ∧ W.cell? ⟨b, k * 7 + 6, none⟩ = some (.slice c.ap c.np c.cp) := by
  obtain ⟨cs, h1, h2⟩ := h
  have hl := Rel.len h2
  obtain ⟨a, cap, e, hm, hx⟩ := OwnAt.rows h1 encMh_len
  rw [hl] at e hm
  refine ⟨a, cap, e, by unfold maxLen at hm; omega, fun k hk => ?_⟩
  have hkc : k < cs.length := by omega
  obtain ⟨b, off, hab, hc⟩ := hx (by intro q; rw [q] at hkc; simp at hkc)
  have h0 : off = 0 := by
    rcases h1.form with ⟨q, q2⟩ | ⟨b2, cap2, q, -⟩
    · rw [q2] at hkc; simp at hkc
    · rw [e, hab] at q; have q1 := (Value.slice.inj q).1; cases q1; rfl
  subst h0
  have hg := List.getElem?_eq_getElem hkc
  have f := fun j u hu => hc k _ hg j u hu
  simp only [Nat.zero_add] at f
  exact ⟨b, hab, Pre.ofCell (f 0 _ rfl), cs[k], Rel.get h2 k _ _ hg (List.getElem?_eq_getElem hk), f 0 _ rfl, f 1 _ rfl, f 2 _ rfl, f 3 _ rfl, f 4 _ rfl, f 5 _ rfl, f 6 _ rfl⟩
theorem coManifest_any {W : World} {z base : Nat} {cs : Array Value} {hv : Value} {ms : List Gr.Mf} {m : Gr.Mf} (hz : W.heap[z]? = some (.cells cs 87)) (h2 : cs[2]? = some hv) (h : HistAt base W hv (ms ++ [m])) (ok : OkH m) : Calls Tryz.prog 19 #[.pointer (some ⟨z, 0, none⟩)] W fun e w' => ∃ c' : MfC, e = .returned (.agg #[.int .i64 c'.epoch, .int .i64 c'.plans, .slice c'.ao c'.no c'.co, .slice c'.ag c'.ng c'.cg, .slice c'.ae c'.ne c'.ce, .slice c'.ax c'.nx c'.cx, .slice c'.ap c'.np c'.cp]) ∧ MfOwn 0 w' c' m ∧ Grew W w' := by
  have c2 := (cell_of (o := 2) hz).trans h2
  have hb : Pre z W := heap_lt hz
  obtain ⟨a, cap, rfl, hn, hx⟩ := h.at
  obtain ⟨b, rfl, hb2, c, hc, g0, g1, g2, g3, g4, g5, g6⟩ := hx ms.length (by simp)
  rw [List.getElem_concat_length rfl] at hc
  have HO := Lib.hid fun W' (g : Grew W W') => coOwn_any c m W' (hc.is.grew g) ok
  rw [List.length_append, List.length_cons, List.length_nil] at *
  simp only [Nat.zero_add] at *
  generalize ms.length = n at *
  have hn1 : (n : Int) < 9223372036854775807 := by omega
  have hn2 : (n : Int) < (n : Int) + 1 := by omega
  have hn3 : (0 : Int) ≤ n := by omega
  obtain ⟨ep, pl, ao, no, co, ag, ng, cg, ae, ne, ce, ax, nx, cx, ap, np, cp⟩ := c
  simp only at *
  clear h hx hc ok hz h2
  go_enter Tryz.func19, Tryz.ntmps19
  go_wp2_with fail
  refine wp_region_seq 13 Tryz.mixed (by kernel_rfl) (by kernel_rfl) ?_
  iterate 12
    apply Seq.val
    focus
      rintro w1 u ⟨R1, n1, rfl⟩ hF
      simp [moreFacts, Fact.more, Oper.deps, Region.binds, List.filter_cons, World.more_drew] at hF
      simp [putFacts, Oper.deps, Region.binds, List.filter_cons, Region.dstOf, Fact.at, Act.put, World.more_drew]
      go_wp2
      exact ⟨by repeat (first | with_reducible exact Grew.refl _ | apply Grew.more | apply Grew.alloc | apply Grew.drew | apply Grew.drewN), rfl, _, _, rfl, rfl, rfl⟩
  apply Seq.of (IsMf m) (IsMf.st _)
  focus
    rintro w1 u ⟨R1, n1, rfl⟩ hF
    simp [moreFacts, Fact.more, Oper.deps, Region.binds, List.filter_cons, World.more_drew] at hF
    simp [putFacts, Oper.deps, Region.binds, List.filter_cons, Region.dstOf, Fact.at, Act.put, World.more_drew]
    go_wp2_with (first
      | (go_at_call 52; refine (HO.out _ (by repeat (first | with_reducible exact Grew.refl _ | apply Grew.more | apply Grew.alloc | apply Grew.drew | apply Grew.drewN))).mono ?_; rintro e w2 ⟨c2, rfl, hm, R3, n3, rfl⟩)
      )
    exact ⟨by repeat (first | with_reducible exact Grew.refl _ | apply Grew.more | apply Grew.alloc | apply Grew.drew | apply Grew.drewN), rfl, _, _, rfl, rfl, ⟨c2, rfl, hm⟩⟩
  rintro u w1 ⟨R1, n1, rfl⟩ hF
  simp [moreFacts, apartFacts, Fact.more, Fact.isNew, List.range_succ, World.more_drew] at hF
  obtain ⟨⟨ep2, pl2, ao2, no2, co2, ag2, ng2, cg2, ae2, ne2, ce2, ax2, nx2, cx2, ap2, np2, cp2⟩, hu, hm⟩ := hF
  simp only at hu
  simp [putFacts, Region.dstOf, Fact.at, Act.put, List.range_succ, World.more_drew]
  rw [hu]
  have HM := Lib.hid hm
  clear hu hm
  go_wp2_with fail
  refine bodyPost_ret (v := .agg #[.int .i64 ep2, .int .i64 pl2, .slice ao2 no2 co2, .slice ag2 ng2 cg2, .slice ae2 ne2 ce2, .slice ax2 nx2 cx2, .slice ap2 np2 cp2]) (by simp [results, Tryz.results19, go_sem]) rfl ⟨⟨ep2, pl2, ao2, no2, co2, ag2, ng2, cg2, ae2, ne2, ce2, ax2, nx2, cx2, ap2, np2, cp2⟩, rfl, ?_, by repeat (first | with_reducible exact Grew.refl _ | apply Grew.more | apply Grew.alloc | apply Grew.drew | apply Grew.drewN)⟩
  exact ((Twin.new 51 _ _ _).more R1 n1).own HM.out (by simp [NoData])

abbrev SlC := Option Addr × Nat × Nat
abbrev SlC.v (x : SlC) : Value := .slice x.1 x.2.1 x.2.2
def encSl (x : SlC) : List Value := [x.v]
theorem encSl_len (c : SlC) : (encSl c).length = 1 := rfl
theorem encSl_one (c : SlC) : ∀ u ∈ encSl c, u.oneCell' = true := by intro u hu; simp [encSl] at hu; subst hu; rfl
def WaitAt (W : World) (x : SlC) (p : List Gr.Stp) : Prop := PlOwn 0 W x.v p ∧ ∀ s ∈ p, smallS s
def QueueAt (base : Nat) (W : World) (qv : Value) (ps : List (List Gr.Stp)) : Prop := ∃ cs : List SlC, OwnAt base 35 1 encSl W qv cs ∧ Rel (WaitAt W) cs ps
theorem QueueAt.leaves {T : List TypeId} {W W' : World} {base : Nat} {qv : Value} {ps : List (List Gr.Stp)} (h : QueueAt base W qv ps) (g : Leaves T W W') (hT : NoData T) (hM : 35 ∉ T) : QueueAt base W' qv ps := by
  obtain ⟨cs, h1, h2⟩ := h
  exact ⟨cs, g.own h1 hM, Rel.mono (fun _ _ q => ⟨q.1.leaves g hT, q.2⟩) h2⟩
theorem QueueAt.grew {W W' : World} {base : Nat} {qv : Value} {ps : List (List Gr.Stp)} (h : QueueAt base W qv ps) (g : Grew W W') : QueueAt base W' qv ps := h.leaves (T := []) (Leaves.grew g) (by simp [NoData]) (by simp)
theorem QueueAt.at {W : World} {base : Nat} {qv : Value} {ps : List (List Gr.Stp)} (h : QueueAt base W qv ps) : ∃ a cap, qv = .slice a ps.length cap ∧ ps.length ≤ 9223372036854775807 ∧ ∀ k (hk : k < ps.length), ∃ b, a = some ⟨b, 0, none⟩ ∧ Pre b W ∧ ∃ x : SlC, WaitAt W x ps[k] ∧ W.cell? ⟨b, k, none⟩ = some x.v := by
  obtain ⟨cs, h1, h2⟩ := h
  have hl := Rel.len h2
  obtain ⟨a, cap, e, hm, hx⟩ := OwnAt.rows h1 encSl_len
  rw [hl] at e hm
  refine ⟨a, cap, e, by unfold maxLen at hm; omega, fun k hk => ?_⟩
  have hkc : k < cs.length := by omega
  obtain ⟨b, off, hab, hc⟩ := hx (by intro q; rw [q] at hkc; simp at hkc)
  have h0 : off = 0 := by
    rcases h1.form with ⟨q, q2⟩ | ⟨b2, cap2, q, -⟩
    · rw [q2] at hkc; simp at hkc
    · rw [e, hab] at q; have q1 := (Value.slice.inj q).1; cases q1; rfl
  subst h0
  have hg := List.getElem?_eq_getElem hkc
  have f := hc k _ hg 0 _ rfl
  simp only [Nat.zero_add, Nat.mul_one, Nat.add_zero] at f
  exact ⟨b, hab, Pre.ofCell f, cs[k], Rel.get h2 k _ _ hg (List.getElem?_eq_getElem hk), f⟩
theorem coField3 (c : MfC) (w : World) : (Instr.field 51 (.agg #[.int .i64 c.epoch, .int .i64 c.plans, .slice c.ao c.no c.co, .slice c.ag c.ng c.cg, .slice c.ae c.ne c.ce, .slice c.ax c.nx c.cx, .slice c.ap c.np c.cp]) 3).run Tryz.prog w = .ok (.slice c.ag c.ng c.cg) w := by kernel_rfl
theorem ahead_succ {g : List Gr.Nd} {ps : List (List Gr.Stp)} {k : Nat} (hk : k < ps.length) : Gr.aheadG checkR g (ps.take (k + 1)) = Gr.nextG checkR (Gr.aheadG checkR g (ps.take k)) ps[k] := by
  rw [List.take_succ_eq_append_getElem hk, Gr.aheadG_snoc]
theorem coAhead_any {W : World} {z base bq : Nat} {cs : Array Value} {hv qv : Value} {ms : List Gr.Mf} {m : Gr.Mf} {ps : List (List Gr.Stp)} (hz : W.heap[z]? = some (.cells cs 87)) (h2 : cs[2]? = some hv) (h3 : cs[3]? = some qv) (h : HistAt base W hv (ms ++ [m])) (ok : OkH m) (hq : QueueAt bq W qv ps) : Calls Tryz.prog 48 #[.pointer (some ⟨z, 0, none⟩)] W fun e w' => ∃ v l, e = .returned v ∧ NodesAt w' v l ∧ Small l ∧ l.Perm (Gr.aheadG checkR m.graph ps) ∧ Grew W w' := by
  have HM := Lib.hid (coManifest_any hz h2 h ok)
  have c3 := (cell_of (o := 3) hz).trans h3
  have hb : Pre z W := heap_lt hz
  have HQ := Lib.hid hq
  have HS := Lib.hid ok.s
  obtain ⟨a, cap, rfl, hn, -⟩ := hq.at
  clear hz h2 h3 h hq ok
  have hfld := coField3
  go_enter Tryz.func48, Tryz.ntmps48
  go_wp2_with (go_at_call 19; refine HM.out.mono ?_; rintro e w1 ⟨c, rfl, hm, R1, n1, rfl⟩; (have HMO := Lib.hid hm); clear hm)
  go_loopg [3, 17] ps.length (fun gg s3 s17 wr => ∃ k : Nat, k ≤ ps.length ∧ ps.length - k ≤ gg ∧ s17 = .int .i64 k ∧ Hid (Grew W wr) ∧ Hid (∃ l, NodesAt wr s3 l ∧ Small l ∧ l.Perm (Gr.aheadG checkR m.graph (ps.take k))))
  case atStart => exact ⟨0, by omega, by omega, rfl, Lib.hid (by repeat (first | with_reducible exact Grew.refl _ | apply Grew.more | apply Grew.alloc | apply Grew.drew | apply Grew.drewN)), Lib.hid ⟨m.graph, HMO.out.is.g.grew (by repeat (first | with_reducible exact Grew.refl _ | apply Grew.more | apply Grew.alloc | apply Grew.drew | apply Grew.drewN)), HS.out, List.Perm.refl _⟩⟩
  case round =>
    obtain ⟨k, hk, hgg, rfl, HG, HL⟩ := hrel
    rename World => wa
    clear hfld
    by_cases hlt : k < ps.length
    · obtain ⟨a', cap', e, -, hx⟩ := (HQ.out.grew HG.out).at
      cases e
      obtain ⟨b, rfl, hb2, ⟨pa, pn, pc⟩, ⟨hw, hs⟩, hc⟩ := hx k hlt
      simp only [SlC.v] at hw hc
      have hk2 : (k : Int) < ps.length := by omega
      have HAS := Lib.hid (ahead_succ (g := m.graph) hlt)
      obtain ⟨l, hl1, hl2, hl3⟩ := HL.out
      have HAP := Lib.hid fun W' (g : Grew wa W') => planApply_any _ _ l ps[k] W' (hl1.grew g) hl2 (hw.at.grew g) hs
      obtain ⟨r, hr⟩ : ∃ r, Gr.applyE checkR l ps[k] = r := ⟨_, rfl⟩
      have hgo : Gr.goes checkR (Gr.aheadG checkR m.graph (ps.take k)) ps[k] = decide (r.1 = 0) := by rw [← Gr.goes_perm chkR hl3, ← hr]; rfl
      have hnx := Gr.nextG_perm chkR hl3 ps[k]
      have hgl : Gr.goes checkR l ps[k] = decide (r.1 = 0) := by rw [← hr]; rfl
      unfold Gr.nextG at hnx
      rw [hgl, hr] at hnx
      unfold Gr.nextG at HAS
      rw [hr] at HAP
      have HNX := Lib.hid hnx
      have HL2 := Lib.hid hl2
      have HL1 := Lib.hid hl1
      clear hx hw hs hl1 hl2 hl3 hnx HL hgl hr
      obtain ⟨er, ir, gr⟩ := r
      simp only at *
      by_cases hr0 : er = 0
      · subst hr0
        have HR0 := Lib.hid (rfl : (0 : Int) = 0)
        clear hgo
        go_wp2_with (go_at_call 16; refine (HAP.out _ (by repeat (first | with_reducible exact Grew.refl _ | apply Grew.more | apply Grew.alloc | apply Grew.drew | apply Grew.drewN))).mono ?_; rintro e w2 ⟨⟨R2, n2, rfl⟩, h9⟩; rcases h9 with ⟨hne, -⟩ | ⟨-, v9, lc9, l9, rfl, ho9, hi9, hp9, -, hs9⟩; exact absurd rfl hne; (have H9 := Lib.hid (hi9.at ho9)); (have HP9 := Lib.hid hp9); (have HS9 := Lib.hid hs9); clear ho9 hi9 hp9 hs9)
        go_roundg (ps.length - (k + 1))
        case measure => omega
        case rel => exact ⟨k + 1, by omega, by omega, by go_num, Lib.hid (HG.out.trans (by repeat (first | with_reducible exact Grew.refl _ | apply Grew.more | apply Grew.alloc | apply Grew.drew | apply Grew.drewN))), Lib.hid ⟨l9, H9.out.grew (by repeat (first | with_reducible exact Grew.refl _ | apply Grew.more | apply Grew.alloc | apply Grew.drew | apply Grew.drewN)), HS9.out, by rw [HAS.out]; exact HP9.out.trans (by simpa using HNX.out)⟩⟩
      · have hne : (er == 0) = false := by rw [beq_eq_false_iff_ne]; exact hr0
        have HR0 := Lib.hid hr0
        clear hgo hr0
        go_wp2_with (go_at_call 16; refine (HAP.out _ (by repeat (first | with_reducible exact Grew.refl _ | apply Grew.more | apply Grew.alloc | apply Grew.drew | apply Grew.drewN))).mono ?_; rintro e w2 ⟨⟨R2, n2, rfl⟩, h9⟩; rcases h9 with ⟨-, rfl⟩ | ⟨h0, -⟩; rotate_left; exact absurd h0 HR0.out)
        go_roundg (ps.length - (k + 1))
        case measure => omega
        case rel => exact ⟨k + 1, by omega, by omega, by go_num, Lib.hid (HG.out.trans (by repeat (first | with_reducible exact Grew.refl _ | apply Grew.more | apply Grew.alloc | apply Grew.drew | apply Grew.drewN))), Lib.hid ⟨l, HL1.out.grew (by repeat (first | with_reducible exact Grew.refl _ | apply Grew.more | apply Grew.alloc | apply Grew.drew | apply Grew.drewN)), HL2.out, by rw [HAS.out]; simpa [HR0.out] using HNX.out⟩⟩
    · obtain rfl : k = ps.length := by omega
      rw [List.take_length] at HL
      go_wp2
      go_ret
      obtain ⟨l, h1, h2, h3⟩ := HL.out
      exact ⟨_, l, rfl, h1.grew (by repeat (first | with_reducible exact Grew.refl _ | apply Grew.more | apply Grew.alloc | apply Grew.drew | apply Grew.drewN)), h2, h3, HG.out.trans (by repeat (first | with_reducible exact Grew.refl _ | apply Grew.more | apply Grew.alloc | apply Grew.drew | apply Grew.drewN))⟩
end Go.Proofs.YtpbohimddmploaaGreat
