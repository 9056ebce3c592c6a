import Derived.Test.YtipgfjihdglocaaGreatOpB
import Derived.Test.YtipgfjihdglocaaGreatCw37
import Derived.Test.YtipgfjihdglocaaGreatCw9
import Derived.Test.YtipgfjihdglocaaGreatCw29
/-! coord.Open at any bytes. -/
namespace Go.Proofs.YtipgfjihdglocaaGreat
set_option linter.unusedSimpArgs false
set_option linter.unusedVariables false
open Go.RowKit Ga
set_option maxRecDepth 100000

theorem sinkNewO_any (w : World) : Calls Tryz.prog 38 #[] w fun e w' => ∃ bk mp : Nat, e = .returned (.pointer (some ⟨bk, 0, none⟩)) ∧ w'.heap[bk]? = some (.cells #[.slice none 0 0, .map (some mp), .int .i64 0] 155) ∧ MapAt intS w' mp 0 [] ∧ w.heap.size ≤ bk ∧ w.heap.size ≤ mp ∧ Grew w w' := by
  have hmm := @run_makeMap Tryz.prog
  go_enter Tryz.func38, Tryz.ntmps38
  go_wp2
  go_ret
  refine ⟨_, _, rfl, heap_new_at _ _ _ (by simp [World.size_alloc]), (MapAt.made intS w).grew (by repeat (first | with_reducible exact Grew.refl _ | apply Grew.more | apply Grew.alloc | apply Grew.drew | apply Grew.drewN)), ?_, ?_, by repeat (first | with_reducible exact Grew.refl _ | apply Grew.more | apply Grew.alloc | apply Grew.drew | apply Grew.drewN)⟩
  · simp [World.size_alloc]
  · exact Nat.le_refl _
/-- a record: what it is, if it is a manifest, is right -/
def RecOk (t : List UInt8) : Prop := t.length ≤ 100000 ∧ ∀ m, getMB t = (m, 0) → OkH m ∧ m.out.length ≤ 150
/-- manifests that follow one another -/
structure GoodH (hs : List Gr.Mf) (ep : Int) : Prop where
  up : hs.Pairwise fun a b => a.epoch < b.epoch
  le : ∀ m ∈ hs, m.epoch ≤ ep
  fst : ∀ m, hs.head? = some m → m.epoch = 0
  out : ∀ m ∈ hs, m.out.length ≤ 150
  nil : hs = [] → ep = 0
  lst : ∀ ms p, hs = ms ++ [p] → p.epoch = ep
theorem GoodH.next {hs : List Gr.Mf} {ep : Int} {M : Gr.Mf} (h : GoodH hs ep) (hf : Fol hs M) (ho : M.out.length ≤ 150) (h0 : 0 ≤ M.epoch) : GoodH (hs ++ [M]) M.epoch ∧ (ep < M.epoch ∨ (ep = 0 ∧ M.epoch = 0 ∧ M.out = [])) := by
  rcases hf with ⟨rfl, h1, h2⟩ | ⟨ms, p, rfl, h1⟩
  · refine ⟨⟨List.pairwise_singleton _ _, fun m hm => ?_, fun m hm => ?_, fun m hm => ?_, fun e => ?_, fun ms p e => ?_⟩, .inr ⟨h.nil rfl, h1, h2⟩⟩
    · rw [List.mem_singleton.1 hm]; exact Int.le_refl _
    · cases hm; exact h1
    · rw [List.mem_singleton.1 hm]; exact ho
    · cases e
    · have := List.append_inj_right' e rfl
      cases this; rfl
  · have hp := h.lst ms p rfl
    refine ⟨⟨List.pairwise_append.2 ⟨h.up, List.pairwise_singleton _ _, fun a ha b hb => ?_⟩, fun m hm => ?_, fun m hm => ?_, fun m hm => ?_, fun e => ?_, fun ms' p' e => ?_⟩, .inl (by omega)⟩
    · rw [List.mem_singleton.1 hb]
      have := h.le a ha
      omega
    · rcases List.mem_append.1 hm with hm | hm
      · have := h.le m hm; omega
      · rw [List.mem_singleton.1 hm]; exact Int.le_refl _
    · refine h.fst m ?_
      cases ms with
      | nil => exact hm
      | cons a b => exact hm
    · rcases List.mem_append.1 hm with hm | hm
      · exact h.out m hm
      · rw [List.mem_singleton.1 hm]; exact ho
    · simp at e
    · have := List.append_inj_right' e rfl
      cases this; rfl
theorem GoodH.zero : GoodH [] 0 := ⟨List.Pairwise.nil, (fun m h => by cases h), (fun m h => by cases h), (fun m h => by cases h), (fun _ => rfl), (fun ms p e => by simp at e)⟩
theorem GoodH.lines {hs : List Gr.Mf} {ep : Int} (h : GoodH hs ep) : (hs.flatMap (·.out)).length ≤ hs.length * 150 := by
  have := h.out
  clear h
  induction hs with
  | nil => simp
  | cons a l ih =>
    rw [List.flatMap_cons, List.length_append, List.length_cons]
    have h1 := this a (List.mem_cons_self ..)
    have h2 := ih fun m hm => this m (List.mem_cons_of_mem _ hm)
    omega
/-- a coordinator, or that the records are none's -/
def OpenPost (w0 : World) (e : Ending) (W' : World) : Prop := (e = .returned (.tuple #[.pointer none, .int .i64 4]) ∧ Grew w0 W') ∨ ∃ (z bk lg mp n : Nat) (hs : List Gr.Mf) (last ep : Int), e = .returned (.tuple #[.pointer (some ⟨z, 0, none⟩), .int .i64 0]) ∧ OpSt w0 W' z bk lg mp n hs (hs.flatMap (·.out)) last ep ∧ GoodH hs ep ∧ hs ≠ [] ∧ hs.length ≤ 3000
theorem OpenPost.no {w0 W' : World} {e : Ending} (h : e = .returned (.tuple #[.pointer none, .int .i64 4])) (g : Grew w0 W') : OpenPost w0 e W' := .inl ⟨h, g⟩
theorem OpenPost.yes {w0 W' : World} {e : Ending} {z bk lg mp n : Nat} {hs : List Gr.Mf} {last ep : Int} (h : e = .returned (.tuple #[.pointer (some ⟨z, 0, none⟩), .int .i64 0])) (h1 : OpSt w0 W' z bk lg mp n hs (hs.flatMap (·.out)) last ep) (h2 : GoodH hs ep) (h3 : hs ≠ []) (h4 : hs.length ≤ 3000) : OpenPost w0 e W' := .inr ⟨z, bk, lg, mp, n, hs, last, ep, h, h1, h2, h3, h4⟩
theorem coFollows_any {w0 W : World} {z bk lg mp n : Nat} {hs : List Gr.Mf} {ls : List Gr.Ln} {M : Gr.Mf} {last e0 : Int} {c : MfC} (h : OpSt w0 W z bk lg mp n hs ls last e0) (hm : MfOwn 0 W c M) (ok : OkH M) (hms : hs.length ≤ 100000) :
    Calls Tryz.prog 41 #[.pointer (some ⟨z, 0, none⟩), .agg #[.int .i64 c.epoch, .int .i64 c.plans, .slice c.ao c.no c.co, .slice c.ag c.ng c.cg, .slice c.ae c.ne c.ce, .slice c.ax c.nx c.cx, .slice c.ap c.np c.cp]] W (FolPost hs M W) := by
  rcases List.eq_nil_or_concat hs with rfl | ⟨ms, p, rfl⟩
  · exact coFollows_first h hm ok
  · rw [List.concat_eq_append] at h hms ⊢
    exact coFollows_next h hm ok (by rw [List.length_append] at hms; omega)
theorem MfOwn.lower {a b : Nat} {W : World} {c : MfC} {m : Gr.Mf} (h : MfOwn a W c m) (hb : b ≤ a) : MfOwn b W c m := by
  obtain ⟨lc, h1, h2⟩ := h.g
  obtain ⟨lp, h3, h4⟩ := h.p
  exact ⟨h.epoch, h.plans, OwnAt.low h.o hb, ⟨lc, OwnAt.low h1 hb, Rel.mono (fun _ _ q => ⟨q.1, ⟨OwnAt.low q.2.1 hb, OwnAt.low q.2.2 hb⟩⟩) h2⟩, OwnAt.low h.e hb, OwnAt.low h.x hb, ⟨lp, OwnAt.low h3 hb, Rel.mono (fun _ _ q => ⟨q.1, ⟨OwnAt.low q.2.1 hb, OwnAt.low q.2.2 hb⟩⟩) h4⟩⟩
theorem not_false9 : ∀ {b : Bool}, (!b) = false → b = true
  | true, _ => rfl
theorem wp_genW {c : Code} {a : Act} {W : World} {Q : Exit → Act → World → Prop} (p q : World → Prop) (h1 : p W) (h2 : q W) (k : ∀ w, p w → q w → Code.wp Tryz.prog c Q a w) : Code.wp Tryz.prog c Q a W := k W h1 h2
set_option maxHeartbeats 32000000 in
theorem coOpen_any {w0 W : World} {x : Nat} {pv : Value} {ps : List (List UInt8)} {v : Value} {g : List Gr.Nd} (hd : DiskAt W x [] pv ps 1048576) (hv : ∀ W', Leaves [91] W W' → Grew w0 W' → NodesAt W' v g) (hs : Small g) (hr : Gr.RightR g) (h8 : ∀ n ∈ g, n.route.length = 8) (hg : Grew w0 W) (hx : w0.heap.size ≤ x) (hl : ps.flatten.length ≤ 3000) :
    Calls Tryz.prog 8 #[.pointer (some ⟨x, 0, none⟩), v] W (OpenPost w0) := by
  have HLO := Lib.hid (logOpen_any w0 hd hg hx (by rw [List.nil_append]; omega))
  rw [List.nil_append] at HLO
  have hsl := first_len hr h8
  have HOK := Lib.hid (first_okH hr hs h8)
  have HV := Lib.hid hv
  have HFI := Lib.hid fun W' (hn : NodesAt W' v g) => first_any v g W' hn hs
  have HRR := Lib.hid hr
  have HX := Lib.hid hx
  have HPM := Lib.hid fun (c : MfC) W' (h : MfIs W' c (firstM g)) => packMan_ok c (firstM g) W' h HOK.out.s HOK.out.p HOK.out.o HOK.out.r
  have HGB := Lib.hid (getM_back HOK.out.r HOK.out.h8)
  obtain ⟨s, hse⟩ : ∃ s, Gr.putM putI (firstM g) = s := ⟨_, rfl⟩
  rw [hse] at hsl HPM HGB
  have HSL := Lib.hid hsl
  have HPL := Lib.hid hl
  have HF0 : Hid ((firstM g).out = []) := Lib.hid rfl
  clear hse hsl hl hd hv hs hr h8 hg hx
  generalize ps.flatten.length = ln at *
  go_enter Tryz.func8, Tryz.ntmps8
  go_upto_region 4 with (go_at_call 33; refine HLO.out.mono ?_; rintro e wA ⟨y, av, rs, ld, rfl, hy, hla, ⟨hl1, hl2⟩, hda, hld, hlv, hga⟩; (have HY := Lib.hid hy); (have HLA := Lib.hid hla); (have HL1 := Lib.hid hl1); (have HL2 := Lib.hid hl2); (have HDA := Lib.hid hda); (have HLD := Lib.hid hld); (have HLV := Lib.hid hlv); (have HGA := Lib.hid hga); clear hy hla hl1 hl2 hda hld hlv hga)
  by_cases h0 : rs = []
  case' pos =>
    subst h0
    go_upto_region 12 with (first
      | (go_at_call 34; refine (logLen_any (HLA.out)).mono ?_; rintro e w1 ⟨rfl, R1, n1, rfl⟩)
      | (go_at_call 35; refine (HFI.out _ (HV.out _ (HLV.out.trans (Leaves.grew (by repeat (first | with_reducible exact Grew.refl _ | apply Grew.more | apply Grew.alloc | apply Grew.drew | apply Grew.drewN)))) (HGA.out.trans (by repeat (first | with_reducible exact Grew.refl _ | apply Grew.more | apply Grew.alloc | apply Grew.drew | apply Grew.drewN))))).mono ?_; rintro e w2 ⟨h9, -, R2, n2, rfl⟩; obtain ⟨ao, co, ag, cg, rfl, hi9, hn9⟩ := h9 HRR.out; (have HI9 := Lib.hid hi9); (have HN9 := Lib.hid hn9); clear h9 hi9 hn9)
      | (go_at_call 36; refine (HPM.out ⟨0, 0, ao, (parOf g).toNat, co, ag, (Gr.normG g).length, cg, none, 0, 0, none, 0, 0, none, 0, 0⟩ _ ⟨rfl, rfl, HI9.out.grew (by repeat (first | with_reducible exact Grew.refl _ | apply Grew.more | apply Grew.alloc | apply Grew.drew | apply Grew.drewN)), HN9.out.grew (by repeat (first | with_reducible exact Grew.refl _ | apply Grew.more | apply Grew.alloc | apply Grew.drew | apply Grew.drewN)), RowsAt.nil, RowsAt.nil, StepsAt.nil _⟩).mono ?_; rintro e w3 ⟨rfl, R3, n3, rfl⟩)
      | (go_at_call 37; refine (logAppend_any w0 s (⟨grew_heap (by repeat (first | with_reducible exact Grew.refl _ | apply Grew.more | apply Grew.alloc | apply Grew.drew | apply Grew.drewN)) HLA.out.blk, HLA.out.own.grew (by repeat (first | with_reducible exact Grew.refl _ | apply Grew.more | apply Grew.alloc | apply Grew.drew | apply Grew.drewN))⟩) (HDA.out.grew (by repeat (first | with_reducible exact Grew.refl _ | apply Grew.more | apply Grew.alloc | apply Grew.drew | apply Grew.drewN))) (HGA.out.trans (by repeat (first | with_reducible exact Grew.refl _ | apply Grew.more | apply Grew.alloc | apply Grew.drew | apply Grew.drewN))) HX.out HY.out (by decide) (by have := HSL.out; have := HLD.out; have := HPL.out; omega) (by have := HSL.out; have := HLD.out; have := HPL.out; omega) (by simp)).mono ?_; rintro e wB ⟨rfl, ⟨av2, hlb⟩, -, -, hgb⟩; (have HLG0 := Lib.hid hlb); (have HGG0 := Lib.hid hgb); clear hlb hgb))
    have HLG : Hid (∃ rs2 : List (List UInt8), LogAt w0.heap.size wB y x av2 rs2 ∧ rs2 ≠ [] ∧ rs2.length ≤ 3000 ∧ ∀ t ∈ rs2, RecOk t) := Lib.hid ⟨[] ++ [s], HLG0.out, by simp, by simp, fun t ht => by
      have e : t = s := by simpa using ht
      subst e
      refine ⟨by have := HSL.out; omega, fun m hm => ?_⟩
      rw [HGB.out] at hm
      cases hm
      exact ⟨HOK.out, by rw [HF0.out]; simp⟩⟩
    have HGG := HGG0
    clear HLG0 HGG0 HI9 HN9
    rename World => wq
  case' neg =>
    have hn0 : ((rs.length : Int) == 0) = false := by
      rw [beq_eq_false_iff_ne]
      have := List.length_pos_iff.2 h0
      omega
    have HLG : Hid (∃ rs2 : List (List UInt8), LogAt w0.heap.size wA y x av rs2 ∧ rs2 ≠ [] ∧ rs2.length ≤ 3000 ∧ ∀ t ∈ rs2, RecOk t) := Lib.hid ⟨rs, HLA.out, h0, by have := HL1.out; have := HPL.out; omega, fun t ht => by
      have h1 := HL2.out t ht
      have h2 := HPL.out
      exact ⟨by omega, fun m hm => getMB_ok hm (by omega)⟩⟩
    have HGG := HGA
    clear h0
    go_upto_region 12 with (go_at_call 34; refine (logLen_any (HLA.out)).mono ?_; rintro e w1 ⟨rfl, R1, n1, rfl⟩)
    rename World => wq
  all_goals
    obtain ⟨rs2, hlg, hne, hrl, hrk⟩ := HLG.out
    have HLG2 := Lib.hid hlg
    have HNE := Lib.hid hne
    have HRL := Lib.hid hrl
    have HRK := Lib.hid hrk
    clear hlg hne hrl hrk HLG
    go_wp2_with (first
      | (go_at_call 38; refine (sinkNewO_any _).mono ?_; rintro e w4 ⟨bk, mp, rfl, hbk, hm0, hb1, hb2, R4, n4, rfl⟩; (have HBK := Lib.hid hbk); (have HM0 := Lib.hid hm0); (have HB1 := Lib.hid hb1); (have HB2 := Lib.hid hb2); clear hbk hm0 hb1 hb2)
      | (go_at_call 39; refine (logAll_any (⟨grew_heap (by repeat (first | with_reducible exact Grew.refl _ | apply Grew.more | apply Grew.alloc | apply Grew.drew | apply Grew.drewN)) HLG2.out.blk, HLG2.out.own.grew (by repeat (first | with_reducible exact Grew.refl _ | apply Grew.more | apply Grew.alloc | apply Grew.drew | apply Grew.drewN))⟩ : LogAt w0.heap.size _ y x _ rs2) (by have := HRL.out; omega)).mono ?_; rintro e w5 ⟨v5, rfl, ho5, R5, n5, rfl⟩; obtain ⟨b5, c5, rfl⟩ := own_some' ho5 (List.length_pos_iff.2 HNE.out); (have HO5 := Lib.hid ho5); clear ho5))
    first
      | (obtain ⟨z, hz⟩ : ∃ z, wq.heap.size + R1.size + R4.size = z := ⟨_, rfl⟩; rw [hz])
      | (obtain ⟨z, hz⟩ : ∃ z, wq.heap.size + R4.size = z := ⟨_, rfl⟩; rw [hz])
    refine wp_genW (fun WL => OpSt w0 WL z bk y mp 0 [] [] 0 0) (fun WL => OwnAt 0 9 1 encS WL (.slice (some ⟨b5, 0, none⟩) rs2.length c5) rs2) ?_ ?_ ?_
    · refine ⟨⟨.slice none 0 0, .slice none 0 0, [], ?_, OwnAt.nil _, trivial, ⟨grew_heap (by repeat (first | with_reducible exact Grew.refl _ | apply Grew.more | apply Grew.alloc | apply Grew.drew | apply Grew.drewN)) HBK.out, OwnAt.nil _, ⟨[], HM0.out.grew (by repeat (first | with_reducible exact Grew.refl _ | apply Grew.more | apply Grew.alloc | apply Grew.drew | apply Grew.drewN)), (fun x h => by cases h)⟩, Nat.le_trans (HGG.out.trans (by repeat (first | with_reducible exact Grew.refl _ | apply Grew.more | apply Grew.alloc | apply Grew.drew | apply Grew.drewN) : Grew wq _)).below.size HB1.out, Nat.le_trans (HGG.out.trans (by repeat (first | with_reducible exact Grew.refl _ | apply Grew.more | apply Grew.alloc | apply Grew.drew | apply Grew.drewN) : Grew wq _)).below.size HB2.out⟩, (fun b h => by cases h)⟩, (fun m h => by cases h), ?_, HGG.out.trans (by repeat (first | with_reducible exact Grew.refl _ | apply Grew.more | apply Grew.alloc | apply Grew.drew | apply Grew.drewN))⟩
      · rw [← hz]
        first
          | exact grew_heap (Grew.more (Grew.refl ((wq.more R4 n4).alloc (.cells #[.pointer (some ⟨bk, 0, none⟩), .pointer (some ⟨y, 0, none⟩), .slice none 0 0, .slice none 0 0, .pointer none, .bool false, .int .i64 0, .int .i64 0] 83))) R5 n5) (heap_new_at _ _ _ (by simp [World.more_size]))
          | exact grew_heap (Grew.more (Grew.refl (((wq.more R1 n1).more R4 n4).alloc (.cells #[.pointer (some ⟨bk, 0, none⟩), .pointer (some ⟨y, 0, none⟩), .slice none 0 0, .slice none 0 0, .pointer none, .bool false, .int .i64 0, .int .i64 0] 83))) R5 n5) (heap_new_at _ _ _ (by simp [World.more_size]))
      · rw [← hz]
        have := HGG.out.below.size
        omega
    · exact OwnAt.low (OwnAt.grew HO5.out (by repeat (first | with_reducible exact Grew.refl _ | apply Grew.more | apply Grew.alloc | apply Grew.drew | apply Grew.drewN))) (Nat.zero_le _)
    · intro WL hst hown
      have HST := Lib.hid hst
      have HOW := Lib.hid hown
      clear hst hown hz HBK HM0 HB1 HB2 HO5 HGG HLG2 HPM HFI HV HLO HDA HLA HLV HGA HGB HF0
      go_loopg [55] rs2.length (fun gg s55 wr => ∃ (k n : Nat) (hs : List Gr.Mf) (last ep : Int), (k ≤ rs2.length ∧ rs2.length - k ≤ gg) ∧ s55 = .int .i64 k ∧ Hid (OpSt w0 wr z bk y mp n hs (hs.flatMap (·.out)) last ep) ∧ Hid (GoodH hs ep ∧ (n ≤ k ∧ hs.length = k) ∧ (0 ≤ last ∧ last ≤ 2147483647)) ∧ Hid (OwnAt 0 9 1 encS wr (.slice (some ⟨b5, 0, none⟩) rs2.length c5) rs2))
      case atStart => exact ⟨0, 0, [], 0, 0, ⟨by omega, by omega⟩, rfl, Lib.hid (HST.out.grew (by repeat (first | with_reducible exact Grew.refl _ | apply Grew.more | apply Grew.alloc | apply Grew.drew | apply Grew.drewN))), Lib.hid ⟨GoodH.zero, ⟨Nat.le_refl _, rfl⟩, by decide⟩, Lib.hid (HOW.out.grew (by repeat (first | with_reducible exact Grew.refl _ | apply Grew.more | apply Grew.alloc | apply Grew.drew | apply Grew.drewN)))⟩
      case round =>
        obtain ⟨k, n, hs, last, ep, ⟨hk, hgg⟩, rfl, HS, HN, HR⟩ := hrel
        rename World => wa
        have hr3 : rs2.length ≤ 3000 := HRL.out
        by_cases hlt : k < rs2.length
        · have hk2 : (k : Int) < rs2.length := by omega
          obtain ⟨a6, c6, e6, -, hx⟩ := OwnAt.rows HR.out encS_len
          cases e6
          obtain ⟨b6, off, e7, hx⟩ := hx (fun e => by rw [e] at hlt; cases hlt)
          cases e7
          have hc5 := hx k rs2[k] (List.getElem?_eq_getElem hlt) 0 _ rfl
          rw [Nat.mul_one, Nat.add_zero, Nat.zero_add] at hc5
          have hp5 := Pre.ofCell hc5
          obtain ⟨hr1, hr2⟩ := HRK.out rs2[k] (List.getElem_mem hlt)
          have HGM := Lib.hid fun W' => getManO_any rs2[k] W' hr1
          obtain ⟨⟨m, er⟩, hme⟩ : ∃ r, getMB rs2[k] = r := ⟨_, rfl⟩
          rw [hme] at HGM
          have HOM : Hid (er = 0 → OkH m ∧ m.out.length ≤ 150) := Lib.hid fun h => hr2 m (by rw [hme, h])
          clear hx hr1 hr2 hme
          generalize rs2[k] = t at *
          by_cases he : er = 0
          · subst he
            obtain ⟨hom, hol⟩ := HOM.out rfl
            have HO := Lib.hid hom
            have HL := Lib.hid hol
            have hn := HN.out
            have HK : Hid (k ≤ 3000) := Lib.hid (by omega)
            clear HOM hom hol hn
            go_upto_region 17 with (go_at_call 40; refine (HGM.out _).mono ?_; rintro e w6 ⟨⟨ep2, pl2, ao2, no2, co2, ag2, ng2, cg2, ae2, ne2, ce2, ax2, nx2, cx2, ap2, np2, cp2⟩, rfl, hm, R6, n6, rfl⟩; (have HM : Hid (MfOwn wa.heap.size _ _ _) := Lib.hid (MfOwn.lower hm (Grew.below (by repeat (first | with_reducible exact Grew.refl _ | apply Grew.more | apply Grew.alloc | apply Grew.drew | apply Grew.drewN) : Grew wa _)).size)); clear hm)
            go_wp2_with (go_at_call 41; refine (coFollows_any (c := ⟨ep2, pl2, ao2, no2, co2, ag2, ng2, cg2, ae2, ne2, ce2, ax2, nx2, cx2, ap2, np2, cp2⟩) (HS.out.grew (by repeat (first | with_reducible exact Grew.refl _ | apply Grew.more | apply Grew.alloc | apply Grew.drew | apply Grew.drewN))) ((MfOwn.low HM.out).grew (by repeat (first | with_reducible exact Grew.refl _ | apply Grew.more | apply Grew.alloc | apply Grew.drew | apply Grew.drewN))) HO.out (by have := HN.out; have := HK.out; omega)).mono ?_; rintro e w7 ⟨bo, ⟨rfl, R7, n7, rfl⟩, hbo⟩; (have HBO := Lib.hid hbo); clear hbo)
            · refine bodyPost_ret (v := .tuple #[.pointer none, .int .i64 4]) (by simp [results, Tryz.results8, go_sem]) rfl ?_
              exact .no rfl (HS.out.g.trans (by repeat (first | with_reducible exact Grew.refl _ | apply Grew.more | apply Grew.alloc | apply Grew.drew | apply Grew.drewN)))
            · have hfo := HBO.out (not_false9 (by assumption))
              obtain ⟨hg1, hc1⟩ := HN.out.1.next hfo HL.out HO.out.r.ep.1
              have HG1 := Lib.hid hg1
              have hlen := HN.out.1.lines
              have hn2 := HN.out.2
              have hk9 := HK.out
              have HHO := Lib.hid fun W' (q : Grew wa W') (hm : MfOwn wa.heap.size W' ⟨ep2, pl2, ao2, no2, co2, ag2, ng2, cg2, ae2, ne2, ce2, ax2, nx2, cx2, ap2, np2, cp2⟩ m) => coHolds_any (c := ⟨ep2, pl2, ao2, no2, co2, ag2, ng2, cg2, ae2, ne2, ce2, ax2, nx2, cx2, ap2, np2, cp2⟩) HS.out q hm HO.out (by omega) (by omega) (by omega) hc1 (by unfold inOk; omega)
              clear hfo hg1 hc1 hlen hn2 hk9
              refine (HHO.out _ (by repeat (first | with_reducible exact Grew.refl _ | apply Grew.more | apply Grew.alloc | apply Grew.drew | apply Grew.drewN)) (HM.out.grew (by repeat (first | with_reducible exact Grew.refl _ | apply Grew.more | apply Grew.alloc | apply Grew.drew | apply Grew.drewN)))).mono ?_
              rintro e w8 ⟨rfl, n', hn', hst, hcl⟩
              have HST8 := Lib.hid hst
              have HCL8 := Lib.hid hcl
              have HN8 := Lib.hid hn'
              clear hst hcl hn'
              go_wp2_with fail
              go_roundg (rs2.length - (k + 1))
              case measure => omega
              case rel => exact ⟨k + 1, n', hs ++ [m], _, _, ⟨by omega, by omega⟩, by go_num, Lib.hid (by rw [List.flatMap_append, List.flatMap_cons, List.flatMap_nil, List.append_nil]; exact HST8.out.grew (by repeat (first | with_reducible exact Grew.refl _ | apply Grew.more | apply Grew.alloc | apply Grew.drew | apply Grew.drewN))), Lib.hid ⟨HG1.out, ⟨by have := HN8.out; have := HN.out.2.1; omega, by rw [List.length_append, HN.out.2.1.2]; rfl⟩, by have := HN.out.2.2; have := HO.out.r.ep; omega⟩, Lib.hid (OwnAt.grew (HCL8.out.own (HR.out.grew (by repeat (first | with_reducible exact Grew.refl _ | apply Grew.more | apply Grew.alloc | apply Grew.drew | apply Grew.drewN))) (by decide)) (by repeat (first | with_reducible exact Grew.refl _ | apply Grew.more | apply Grew.alloc | apply Grew.drew | apply Grew.drewN)))⟩
          · have hne : (er == 0) = false := by rw [beq_eq_false_iff_ne]; exact he
            have he3 : ¬ 0 = er := fun e => he e.symm
            clear HOM
            go_wp2_with (go_at_call 40; refine (HGM.out _).mono ?_; rintro e w6 ⟨⟨ep2, pl2, ao2, no2, co2, ag2, ng2, cg2, ae2, ne2, ce2, ax2, nx2, cx2, ap2, np2, cp2⟩, rfl, -, R6, n6, rfl⟩)
            refine bodyPost_ret (v := .tuple #[.pointer none, .int .i64 4]) (by simp [results, Tryz.results8, go_sem]) rfl ?_
            exact .no rfl (HS.out.g.trans (by repeat (first | with_reducible exact Grew.refl _ | apply Grew.more | apply Grew.alloc | apply Grew.drew | apply Grew.drewN)))
        · obtain rfl : k = rs2.length := by omega
          have hn := HN.out
          clear hn
          go_wp2_with fail
          refine bodyPost_ret (v := .tuple #[.pointer (some ⟨z, 0, none⟩), .int .i64 0]) (by simp [results, Tryz.results8, go_sem]) rfl ?_
          exact .yes rfl (HS.out.grew (by repeat (first | with_reducible exact Grew.refl _ | apply Grew.more | apply Grew.alloc | apply Grew.drew | apply Grew.drewN))) HN.out.1 (fun e => by have := HN.out.2.1.2; rw [e] at this; have := List.length_pos_iff.2 HNE.out; simp at *; omega) (by have := HN.out.2.1.2; omega)
end Go.Proofs.YtipgfjihdglocaaGreat
/-! History, Out, Queue, Refused; what isn't there; a piece that may be empty. -/
namespace Go.Proofs.YtipgfjihdglocaaGreat
set_option linter.unusedSimpArgs false
set_option linter.unusedVariables false
open Go.RowKit Ga
set_option maxRecDepth 100000

section
variable {w0 W : World} {z bk lg mp n : Nat} {hs : List Gr.Mf} {ls : List Gr.Ln} {last ep : Int}
theorem coQueueO_any (h : OpSt w0 W z bk lg mp n hs ls last ep) : Calls Tryz.prog 14 #[.pointer (some ⟨z, 0, none⟩)] W (Gives (.int .i64 0) W) := by
  obtain ⟨hv, lv, cs, h1, -⟩ := h.st
  have c3 := cell_of (o := 3) h1
  simp at c3
  clear h h1
  go_enter Tryz.func14, Tryz.ntmps14
  go_wp2
  go_ret
  refine ⟨rfl, ?_⟩
  repeat (first | with_reducible exact Grew.refl _ | apply Grew.more | apply Grew.alloc | apply Grew.drew | apply Grew.drewN)
theorem coRefusedO_any (h : OpSt w0 W z bk lg mp n hs ls last ep) : Calls Tryz.prog 23 #[.pointer (some ⟨z, 0, none⟩)] W (Gives (.int .i64 0) W) := by
  obtain ⟨hv, lv, cs, h1, -⟩ := h.st
  have c7 := cell_of (o := 7) h1
  simp at c7
  clear h h1
  go_enter Tryz.func23, Tryz.ntmps23
  go_wp2
  go_ret
  refine ⟨rfl, ?_⟩
  repeat (first | with_reducible exact Grew.refl _ | apply Grew.more | apply Grew.alloc | apply Grew.drew | apply Grew.drewN)
set_option maxHeartbeats 4000000 in
theorem cloneLn_any {base : Nat} {v : Value} {xs : List Gr.Ln} (h : OwnAt base 122 5 encLn W v xs) (hn : xs.length ≤ 900000) : Calls Tryz.prog 128 #[v] W fun e W' => ∃ a c, e = .returned (.slice a xs.length c) ∧ Grew W W' := by
  rcases h.form with ⟨rfl, rfl⟩ | ⟨b, cap, rfl, -, -, -⟩
  · have hq : ∀ W : World, (binOp BinOp.eql 45 (.slice none 0 0) (.slice none 0 0)).run Tryz.prog W = .ok (.bool true) W := fun W => by kernel_rfl
    clear h
    go_enter Tryz.func128, Tryz.ntmps128
    go_wp2
    go_ret
    exact ⟨none, 0, rfl, by repeat (first | with_reducible exact Grew.refl _ | apply Grew.more | apply Grew.alloc | apply Grew.drew | apply Grew.drewN)⟩
  · have hq : ∀ W : World, (binOp BinOp.eql 45 (.slice (some ⟨b, 0, none⟩) xs.length cap) (.slice none 0 0)).run Tryz.prog W = .ok (.bool false) W := fun W => by kernel_rfl
    have H := Lib.hid (h.rows encLn_len)
    have HN := Lib.hid hn
    clear h hn
    go_enter Tryz.func128, Tryz.ntmps128
    go_wp2_with (at_builtin; go_loud (refine wpList_ownM (w0 := W) rfl (.tmp 5) (.tmp 6) 45 _ _ _ xs rfl Tryz.underlying45 infoLn rfl (by decide) encLn_len encLn_one rfl (OwnAt.lit _ _ rfl (Nat.le_refl _)) (by repeat (first | with_reducible exact Grew.refl _ | apply Grew.more | apply Grew.alloc | apply Grew.drew | apply Grew.drewN)) rfl (H.out.grew (by repeat (first | with_reducible exact Grew.refl _ | apply Grew.more | apply Grew.alloc | apply Grew.drew | apply Grew.drewN))) (.inr ⟨_, cap, rfl⟩) (by have := HN.out; simp; omega) (by decide) ?_); intro v7 R7 N7 hA _; (obtain ⟨a7, c7, rfl⟩ := (OwnAt.rows hA encLn_len).len); clear hA)
    go_ret
    exact ⟨a7, c7, by simp, by repeat (first | with_reducible exact Grew.refl _ | apply Grew.more | apply Grew.alloc | apply Grew.drew | apply Grew.drewN)⟩
set_option maxHeartbeats 4000000 in
theorem coOut_any (h : OpSt w0 W z bk lg mp n hs ls last ep) (hn : ls.length ≤ 900000) : Calls Tryz.prog 25 #[.pointer (some ⟨z, 0, none⟩)] W fun e W' => ∃ a c, e = .returned (.slice a ls.length c) ∧ Grew W W' := by
  obtain ⟨hv, lv, cs, h1, -, -, h4, -⟩ := h.st
  have c0 := cell_of (o := 0) h1
  have b0 := cell_of (o := 0) h4.blk
  simp at c0 b0
  have HC := Lib.hid fun W' (g : Grew W W') => cloneLn_any (h4.own.grew g) hn
  obtain ⟨al, cl, hlv⟩ := (OwnAt.rows h4.own encLn_len).len
  subst hlv
  have pz : Pre z W := heap_lt h1
  have pb : Pre bk W := heap_lt h4.blk
  have HLN : Hid (Calls Tryz.prog 68 #[.pointer (some ⟨bk, 0, none⟩)] W fun e W' => ∃ a c, e = .returned (.slice a ls.length c) ∧ Grew W W') := Lib.hid (by
    clear h h1 h4 c0
    go_enter Tryz.func68, Tryz.ntmps68
    go_wp2_with (go_at_call 128; refine (HC.out _ (by repeat (first | with_reducible exact Grew.refl _ | apply Grew.more | apply Grew.alloc | apply Grew.drew | apply Grew.drewN))).mono ?_; rintro e w1 ⟨a1, c1, rfl, R1, n1, rfl⟩)
    go_ret
    exact ⟨_, _, rfl, by repeat (first | with_reducible exact Grew.refl _ | apply Grew.more | apply Grew.alloc | apply Grew.drew | apply Grew.drewN)⟩)
  clear h h1 h4 b0 HC
  go_enter Tryz.func25, Tryz.ntmps25
  go_wp2_with (go_at_call 68; refine HLN.out.mono ?_; rintro e w1 ⟨a1, c1, rfl, R1, n1, rfl⟩)
  go_ret
  exact ⟨_, _, rfl, by repeat (first | with_reducible exact Grew.refl _ | apply Grew.more | apply Grew.alloc | apply Grew.drew | apply Grew.drewN)⟩
set_option maxHeartbeats 16000000 in
theorem coHistory_any (h : OpSt w0 W z bk lg mp n hs ls last ep) (hn : hs.length ≤ 100000) : Calls Tryz.prog 22 #[.pointer (some ⟨z, 0, none⟩)] W fun e W' => ∃ (v : Value) (cs : List MfC), e = .returned v ∧ OwnAt W.heap.size 47 7 encMh W' v cs ∧ Rel (fun c m => MfOwn 0 W' c m) cs hs ∧ Grew W W' := by
  obtain ⟨hv, lv, cs, h1, ho, hr, -, -⟩ := h.st
  have hrl := Rel.len hr
  obtain ⟨ah, ch, hvx⟩ := (OwnAt.rows ho encMh_len).len
  subst hvx
  rw [hrl] at ho
  have c2 := cell_of (o := 2) h1
  rw [hrl] at c2
  simp at c2
  have pz : Pre z W := heap_lt h1
  have HO := Lib.hid ho
  have HR := Lib.hid hr
  have HOK := Lib.hid h.ok
  have HRL := Lib.hid hrl
  have HN := Lib.hid hn
  have hnz : (hs.length : Int) ≤ 9223372036854775807 := by omega
  clear h h1 ho hr hrl hn
  go_enter Tryz.func22, Tryz.ntmps22
  go_wp2_with fail
  go_loopg [3, 13] hs.length (fun gg s3 s13 wr => ∃ k : Nat, (k ≤ hs.length ∧ hs.length - k ≤ gg) ∧ s13 = .int .i64 k ∧ Hid (Grew W wr) ∧ Hid (∃ cs' : List MfC, OwnAt W.heap.size 47 7 encMh wr s3 cs' ∧ Rel (fun c m => MfOwn 0 wr c m) cs' (hs.take k)))
  case atStart => exact ⟨0, ⟨by omega, by omega⟩, rfl, Lib.hid (by repeat (first | with_reducible exact Grew.refl _ | apply Grew.more | apply Grew.alloc | apply Grew.drew | apply Grew.drewN)), Lib.hid ⟨[], OwnAt.nil _, trivial⟩⟩
  case round =>
    obtain ⟨k, ⟨hk, hgg⟩, rfl, HG, HC⟩ := hrel
    rename World => wa
    by_cases hlt : k < hs.length
    · have hk2 : (k : Int) < hs.length := by omega
      have hkc : k < cs.length := by rw [HRL.out]; exact hlt
      obtain ⟨a6, c6, e6, -, hx⟩ := OwnAt.rows (HO.out.grew HG.out) encMh_len
      have q1 := (Value.slice.inj e6).1
      clear e6
      subst q1
      obtain ⟨b6, off, e7, hx2⟩ := hx (fun e => by rw [e] at hkc; cases hkc)
      clear hx
      subst e7
      have hj := fun j u => hx2 k cs[k] (List.getElem?_eq_getElem hkc) j u
      have hmk : MfOwn 0 W cs[k] hs[k] := Rel.get HR.out k _ _ (List.getElem?_eq_getElem hkc) (List.getElem?_eq_getElem hlt)
      have hok := HOK.out hs[k] (List.getElem_mem hlt)
      have HTK := Lib.hid (List.take_succ_eq_append_getElem hlt)
      obtain ⟨⟨ep1, pl, ao, no, co, ag, ng, cg, ae, ne, ce, ax, nx, cx, ap, np, cp⟩, hcx⟩ : ∃ c, cs[k] = c := ⟨_, rfl⟩
      rw [hcx] at hj hmk
      have d0 : wa.cell? ⟨b6, off + k * 7, none⟩ = some (.int .i64 ep1) := hj 0 _ rfl
      have d1 : wa.cell? ⟨b6, off + k * 7 + 1, none⟩ = some (.int .i64 pl) := hj 1 _ rfl
      have d2 : wa.cell? ⟨b6, off + k * 7 + 2, none⟩ = some (.slice ao no co) := hj 2 _ rfl
      have d3 : wa.cell? ⟨b6, off + k * 7 + 3, none⟩ = some (.slice ag ng cg) := hj 3 _ rfl
      have d4 : wa.cell? ⟨b6, off + k * 7 + 4, none⟩ = some (.slice ae ne ce) := hj 4 _ rfl
      have d5 : wa.cell? ⟨b6, off + k * 7 + 5, none⟩ = some (.slice ax nx cx) := hj 5 _ rfl
      have d6 : wa.cell? ⟨b6, off + k * 7 + 6, none⟩ = some (.slice ap np cp) := hj 6 _ rfl
      have pd := Pre.ofCell d0
      have HM := Lib.hid hmk
      have HOM := Lib.hid hok
      clear hj hx2 hmk hok hcx hkc
      obtain ⟨cs', hoc, hrc⟩ := HC.out
      have hcl := Rel.len hrc
      rw [List.length_take, Nat.min_eq_left hk] at hcl
      have HOC := Lib.hid hoc
      have HRC := Lib.hid hrc
      have HCL := Lib.hid hcl
      clear hoc hrc hcl HC
      go_wp2_with (first
        | (go_at_call 49; refine (coOwn_any ⟨ep1, pl, ao, no, co, ag, ng, cg, ae, ne, ce, ax, nx, cx, ap, np, cp⟩ hs[k] _ ((HM.out.grew (HG.out.trans (by repeat (first | with_reducible exact Grew.refl _ | apply Grew.more | apply Grew.alloc | apply Grew.drew | apply Grew.drewN)))).is) HOM.out).mono ?_; rintro e w9 ⟨c9, rfl, hm9, R9, n9, rfl⟩; (have HM9 := Lib.hid hm9); clear hm9)
        | (at_builtin; go_loud (refine wpList_ownK (w0 := W) rfl (.tmp 17) (.tmp 20) 60 _ _ _ _ [c9] rfl Tryz.underlying60 infoMh rfl (by decide) encMh_len encMh_one rfl (HOC.out.grew (by repeat (first | with_reducible exact Grew.refl _ | apply Grew.more | apply Grew.alloc | apply Grew.drew | apply Grew.drewN))) (HG.out.trans (by repeat (first | with_reducible exact Grew.refl _ | apply Grew.more | apply Grew.alloc | apply Grew.drew | apply Grew.drewN))) rfl (mh_at _ _ _ _ rfl (by simp [go_sem])) (by have := HCL.out; have := HN.out; simp; omega) (by decide) (by simp) ?_); intro v8 W8 hA; obtain ⟨Wp, hA, hWp, hm8⟩ : ∃ Wp, Appended W 47 7 encMh Wp _ (cs' ++ [c9]) v8 W8 ∧ Grew wa Wp ∧ MfOwn 0 Wp c9 hs[k] := ⟨_, hA, by repeat (first | with_reducible exact Grew.refl _ | apply Grew.more | apply Grew.alloc | apply Grew.drew | apply Grew.drewN), HM9.out.grew (by repeat (first | with_reducible exact Grew.refl _ | apply Grew.more | apply Grew.alloc | apply Grew.drew | apply Grew.drewN))⟩; (have HA := Lib.hid hA); (have HWP := Lib.hid hWp); (have HM8 := Lib.hid hm8); clear hA hWp hm8))
      go_roundg (hs.length - (k + 1))
      case measure => omega
      case rel =>
        have hl8 : Leaves [47] Wp W8 := Leaves.app (Leaves.refl _ _) (HOC.out.grew HWP.out) HA.out (by simp)
        have hT : NoData [47] := by simp [NoData]
        refine ⟨k + 1, ⟨by omega, by omega⟩, by go_num, Lib.hid (HA.out.1.trans (by repeat (first | with_reducible exact Grew.refl _ | apply Grew.more | apply Grew.alloc | apply Grew.drew | apply Grew.drewN))), Lib.hid ⟨cs' ++ [c9], OwnAt.grew HA.out.2.1 (by repeat (first | with_reducible exact Grew.refl _ | apply Grew.more | apply Grew.alloc | apply Grew.drew | apply Grew.drewN)), ?_⟩⟩
        rw [HTK.out]
        exact Rel.snoc (Rel.mono (fun _ _ q => ((q.grew HWP.out).leaves hl8 hT).grew (by repeat (first | with_reducible exact Grew.refl _ | apply Grew.more | apply Grew.alloc | apply Grew.drew | apply Grew.drewN))) HRC.out) ((HM8.out.leaves hl8 hT).grew (by repeat (first | with_reducible exact Grew.refl _ | apply Grew.more | apply Grew.alloc | apply Grew.drew | apply Grew.drewN)))
    · obtain rfl : k = hs.length := by omega
      obtain ⟨cs', hoc, hrc⟩ := HC.out
      rw [List.take_length] at hrc
      obtain ⟨a9, c9, h9⟩ := (OwnAt.rows hoc encMh_len).len
      subst h9
      have HOC := Lib.hid hoc
      have HRC := Lib.hid hrc
      clear hoc hrc HC
      go_wp2_with fail
      go_ret
      exact ⟨_, cs', rfl, HOC.out.grew (by repeat (first | with_reducible exact Grew.refl _ | apply Grew.more | apply Grew.alloc | apply Grew.drew | apply Grew.drewN)), Rel.mono (fun _ _ q => q.grew (by repeat (first | with_reducible exact Grew.refl _ | apply Grew.more | apply Grew.alloc | apply Grew.drew | apply Grew.drewN))) HRC.out, HG.out.trans (by repeat (first | with_reducible exact Grew.refl _ | apply Grew.more | apply Grew.alloc | apply Grew.drew | apply Grew.drewN))⟩
end
end Go.Proofs.YtipgfjihdglocaaGreat
/-! What isn't there; a piece that may be empty. -/
namespace Go.Proofs.YtipgfjihdglocaaGreat
set_option linter.unusedSimpArgs false
set_option linter.unusedVariables false
open Go.RowKit Ga
set_option maxRecDepth 100000

theorem coBegin_nil (w : World) : Calls Tryz.prog 13 #[.pointer none] w (Gives (.tuple #[.int .i64 0, .bool false, .int .i64 1]) w) := by
  go_enter Tryz.func13, Tryz.ntmps13
  go_wp2
  exact bodyPost_ret (v := .tuple #[.int .i64 0, .bool false, .int .i64 1]) (by simp [results, Tryz.results13, go_sem]) rfl ⟨rfl, by repeat (first | with_reducible exact Grew.refl _ | apply Grew.more | apply Grew.alloc | apply Grew.drew | apply Grew.drewN)⟩
theorem coSubmit_nil (s : List UInt8) (w : World) : Calls Tryz.prog 12 #[.pointer none, .string ⟨s.toArray⟩] w (Gives (.int .i64 1) w) := by
  go_enter Tryz.func12, Tryz.ntmps12
  go_wp2
  go_ret
  refine ⟨rfl, ?_⟩
  repeat (first | with_reducible exact Grew.refl _ | apply Grew.more | apply Grew.alloc | apply Grew.drew | apply Grew.drewN)
theorem coAck_nil (w : World) : Calls Tryz.prog 17 #[.pointer none, .agg #[.int .i64 0, .int .i64 0, .int .i64 0, .slice none 0 0, .slice none 0 0, .int .i64 0]] w (Gives (.int .i64 1) w) := by
  go_enter Tryz.func17, Tryz.ntmps17
  go_wp2
  go_ret
  refine ⟨rfl, ?_⟩
  repeat (first | with_reducible exact Grew.refl _ | apply Grew.more | apply Grew.alloc | apply Grew.drew | apply Grew.drewN)
theorem coReady_nil (w : World) : Calls Tryz.prog 27 #[.pointer none] w (Gives (.bool false) w) := by
  go_enter Tryz.func27, Tryz.ntmps27
  go_wp2
  go_ret
  refine ⟨rfl, ?_⟩
  repeat (first | with_reducible exact Grew.refl _ | apply Grew.more | apply Grew.alloc | apply Grew.drew | apply Grew.drewN)
theorem coAbort_nil (w : World) : Calls Tryz.prog 15 #[.pointer none] w (Gives (.bool false) w) := by
  go_enter Tryz.func15, Tryz.ntmps15
  go_wp2
  go_ret
  refine ⟨rfl, ?_⟩
  repeat (first | with_reducible exact Grew.refl _ | apply Grew.more | apply Grew.alloc | apply Grew.drew | apply Grew.drewN)
theorem coQueue_nil (w : World) : Calls Tryz.prog 14 #[.pointer none] w (Gives (.int .i64 0) w) := by
  go_enter Tryz.func14, Tryz.ntmps14
  go_wp2
  go_ret
  refine ⟨rfl, ?_⟩
  repeat (first | with_reducible exact Grew.refl _ | apply Grew.more | apply Grew.alloc | apply Grew.drew | apply Grew.drewN)
theorem coRefused_nil (w : World) : Calls Tryz.prog 23 #[.pointer none] w (Gives (.int .i64 0) w) := by
  go_enter Tryz.func23, Tryz.ntmps23
  go_wp2
  go_ret
  refine ⟨rfl, ?_⟩
  repeat (first | with_reducible exact Grew.refl _ | apply Grew.more | apply Grew.alloc | apply Grew.drew | apply Grew.drewN)
theorem coHistory_nil (w : World) : Calls Tryz.prog 22 #[.pointer none] w (Gives (.slice none 0 0) w) := by
  go_enter Tryz.func22, Tryz.ntmps22
  go_wp2
  go_ret
  refine ⟨rfl, ?_⟩
  repeat (first | with_reducible exact Grew.refl _ | apply Grew.more | apply Grew.alloc | apply Grew.drew | apply Grew.drewN)
theorem coOut_nil (w : World) : Calls Tryz.prog 25 #[.pointer none] w (Gives (.slice none 0 0) w) := by
  go_enter Tryz.func25, Tryz.ntmps25
  go_wp2
  go_ret
  refine ⟨rfl, ?_⟩
  repeat (first | with_reducible exact Grew.refl _ | apply Grew.more | apply Grew.alloc | apply Grew.drew | apply Grew.drewN)
theorem coCommit_nil (w : World) : Calls Tryz.prog 18 #[.pointer none] w (Gives (.tuple #[.agg #[.int .i64 0, .int .i64 0, .slice none 0 0, .slice none 0 0, .slice none 0 0, .slice none 0 0, .slice none 0 0], .int .i64 1]) w) := by
  go_enter Tryz.func18, Tryz.ntmps18
  go_wp2
  refine bodyPost_ret (v := .tuple #[.agg #[.int .i64 0, .int .i64 0, .slice none 0 0, .slice none 0 0, .slice none 0 0, .slice none 0 0, .slice none 0 0], .int .i64 1]) (by simp [results, Tryz.results18, go_sem]) rfl ⟨rfl, by repeat (first | with_reducible exact Grew.refl _ | apply Grew.more | apply Grew.alloc | apply Grew.drew | apply Grew.drewN)⟩
set_option maxHeartbeats 4000000 in
theorem diskAppendO_any {W : World} {x : Nat} {cap : Int} (w0 : World) (s : List UInt8) (h : DiskAt W x [] (.slice none 0 0) [] cap) (hg : Grew w0 W) (hx : w0.heap.size ≤ x) (hc : 3000 ≤ cap ∧ cap ≤ 16777216) (hs : s.length ≤ 3000) :
    Calls Tryz.prog 20 #[.pointer (some ⟨x, 0, none⟩), .string ⟨s.toArray⟩] W fun e W' => e = .returned (.int .i64 0) ∧ (∃ pv ps, DiskAt W' x [] pv ps cap ∧ ps.flatten.length ≤ 3000) ∧ Grew w0 W' := by
  cases s with
  | cons a r =>
    refine (diskAppend_any w0 (a :: r) h hg hx ⟨by omega, hc.2⟩ (by simp) (by simp at hs ⊢; omega) (by simp at hs ⊢; omega)).mono ?_
    rintro e W' ⟨rfl, ⟨pv, h1⟩, -, h2⟩
    exact ⟨rfl, ⟨pv, [a :: r], h1, by simpa using hs⟩, h2⟩
  | nil =>
    have HW := Lib.hid (diskWrong_any h)
    have HR := Lib.hid fun W' (g : Grew W W') => diskRoom_any (h.grew g) ⟨by omega, hc.2⟩
    have HB := Lib.hid fun W' (g : Grew W W') => diskBurn_any (h.grew g)
    rw [List.flatten_nil, List.append_nil] at HR
    have H := Lib.hid h
    have HG := Lib.hid hg
    have hroom2 : ¬ (cap - (([] : List UInt8).length : Int) < 0) := by simp; omega
    have hroom3 : ¬ cap < 0 := by omega
    clear h hg hx hs
    show Calls Tryz.prog _ #[_, .string ⟨#[]⟩] W _
    go_enter Tryz.func20, Tryz.ntmps20
    go_wp2_with (first
      | (go_at_call 57; refine HW.out.mono ?_; rintro e w1 ⟨rfl, R1, n1, rfl⟩)
      | (go_at_call 58; refine (HR.out _ (by repeat (first | with_reducible exact Grew.refl _ | apply Grew.more | apply Grew.alloc | apply Grew.drew | apply Grew.drewN))).mono ?_; rintro e w1 ⟨rfl, R2, n2, rfl⟩)
      | (go_at_call 59; refine (HB.out _ (by repeat (first | with_reducible exact Grew.refl _ | apply Grew.more | apply Grew.alloc | apply Grew.drew | apply Grew.drewN))).mono ?_; rintro e w1 ⟨rfl, R3, n3, rfl⟩))
    go_ret
    exact ⟨rfl, ⟨_, [], H.out.grew (by repeat (first | with_reducible exact Grew.refl _ | apply Grew.more | apply Grew.alloc | apply Grew.drew | apply Grew.drewN)), by simp⟩, HG.out.trans (by repeat (first | with_reducible exact Grew.refl _ | apply Grew.more | apply Grew.alloc | apply Grew.drew | apply Grew.drewN))⟩
end Go.Proofs.YtipgfjihdglocaaGreat
/-! graph.Pass at two parts. -/
namespace Go.Proofs.YtipgfjihdglocaaGreat
set_option linter.unusedSimpArgs false
set_option linter.unusedVariables false
open Go.RowKit Ga
set_option maxRecDepth 100000

/-- the groups that are dealt, the rest at 0 -/
def routeP (g : Nat) : List Int := [0, if 1 < g then 1 else 0, 0, if 3 < g then 1 else 0, 0, if 5 < g then 1 else 0, 0, if 7 < g then 1 else 0]
theorem routeP_len (g : Nat) : (routeP g).length = 8 := rfl
def passL2 : List Gr.Nd := [⟨0, 0, [], [], 2, [0, 1, 0, 1, 0, 1, 0, 1]⟩, ⟨1, 2, [0], [], 2, [0, 1, 0, 1, 0, 1, 0, 1]⟩]
theorem pass2_right : Gr.RightR passL2 := by
  refine ⟨by decide, ?_, by decide, ?_⟩
  · intro i n h
    match i with
    | 0 =>
      cases h
      refine ⟨by decide, by decide, rfl, by decide, by decide, by decide, by decide, by decide, by decide, by decide, by decide, by decide, by decide, by decide, by decide, ?_⟩
      intro k f hk
      cases hk
    | 1 =>
      cases h
      refine ⟨by decide, by decide, rfl, by decide, by decide, by decide, by decide, by decide, by decide, by decide, by decide, by decide, by decide, by decide, by decide, ?_⟩
      intro k f hk
      match k with
      | 0 =>
        cases hk
        exact ⟨⟨0, _, rfl, rfl, by decide⟩, by simp⟩
      | k + 1 => cases hk
    | i + 2 => cases h
  · intro n hn
    simp only [passL2, List.mem_cons, List.not_mem_nil, or_false] at hn
    rcases hn with rfl | rfl <;> rfl
theorem pass2_small : Small passL2 := by unfold Small; decide
theorem pass2_r8 : ∀ n ∈ passL2, n.route.length = 8 := by decide
set_option maxHeartbeats 8000000 in
/-- .. in memory of the call's own -/
theorem pass2O_any (w : World) : Calls Tryz.prog 21 #[.int .i64 2] w fun e w' => ∃ v lc, e = .returned v ∧ NodesOwn 0 w' v lc ∧ NodesIn 0 w' lc passL2 ∧ Grew w w' := by
  go_enter Tryz.func21, Tryz.ntmps21
  go_wp2
  have hm1 : max (2 : Int) 1 = 2 := rfl
  have hm2 : min (2 : Int) 3 = 2 := rfl
  simp only [hm1, hm2]
  go_loopg [11] 8 (fun gg s11 wr => ∃ g : Nat, g ≤ 8 ∧ 8 - g ≤ gg ∧ s11 = .int .i64 g ∧ wr.heap[w.heap.size]? = some (.cells (nodeArr 0 0 (.slice none 0 0) (.slice none 0 0) 2 (routeP g)) 52) ∧ Hid (Grew w wr))
  case atStart =>
    refine ⟨0, by omega, by omega, rfl, ?_, Lib.hid ?_⟩
    · have hna : nodeArr 0 0 (.slice none 0 0) (.slice none 0 0) 2 (routeP 0) = #[.int .i64 0, .int .i64 0, .slice none 0 0, .slice none 0 0, .int .i64 2, .int .i64 0, .int .i64 0, .int .i64 0, .int .i64 0, .int .i64 0, .int .i64 0, .int .i64 0, .int .i64 0] := by
        rfl
      rw [hna]
      exact heap_new_at w _ _ rfl
    · repeat (first | exact (Grew.refl _).alloc _ | refine Grew.set ?_ (Nat.le_refl _) _)
  case round =>
    obtain ⟨g, hg8, hgg, rfl, hbx, HGR⟩ := hrel
    have hp := Pre.mk (heap_lt hbx)
    have HBX := Lib.hid hbx
    by_cases hlt : g < 8
    · have hset : (routeP g).set g ((g % 2 : Nat) : Int) = routeP (g + 1) ∧ Int.tmod (g : Int) 2 = ((g % 2 : Nat) : Int) := by
        have : g = 0 ∨ g = 1 ∨ g = 2 ∨ g = 3 ∨ g = 4 ∨ g = 5 ∨ g = 6 ∨ g = 7 := by omega
        rcases this with rfl | rfl | rfl | rfl | rfl | rfl | rfl | rfl <;> exact ⟨rfl, rfl⟩
      have hc5 := cell_of (o := 5 + g) hbx
      rw [nodeArr_get _ _ _ _ _ _ g (by rw [routeP_len]; omega)] at hc5
      have hf5 := frozen_of (o := 5 + g) hbx
      have HSET := Lib.hid hset
      have hne : (2 : Int) ≠ 0 := by decide
      have htm := hset.2
      clear hset hbx
      go_wp2
      go_roundg (8 - (g + 1))
      case measure => omega
      case rel =>
        refine ⟨g + 1, by omega, by omega, by go_num, ?_, Lib.hid (HGR.out.set (Nat.le_refl _) _)⟩
        rw [← HSET.out.1, ← nodeArr_set]
        exact set_self HBX.out
    · obtain rfl : g = 8 := by omega
      have a0 := cell_of (o := 0) hbx
      have a1 := cell_of (o := 1) hbx
      have a2 := cell_of (o := 2) hbx
      have a3 := cell_of (o := 3) hbx
      have a4 := cell_of (o := 4) hbx
      have a5 := cell_of (o := 5) hbx
      have a6 := cell_of (o := 6) hbx
      have a7 := cell_of (o := 7) hbx
      have a8 := cell_of (o := 8) hbx
      have a9 := cell_of (o := 9) hbx
      have a10 := cell_of (o := 10) hbx
      have a11 := cell_of (o := 11) hbx
      have a12 := cell_of (o := 12) hbx
      simp [nodeArr, routeP] at a0 a1 a2 a3 a4 a5 a6 a7 a8 a9 a10 a11 a12
      clear hbx
      go_wp2
      go_ret
      refine ⟨_, [⟨0, 0, none, 0, 0, none, 0, 0, 2, 0, 1, 0, 1, 0, 1, 0, 1⟩, ⟨1, 2, some ⟨wr.heap.size + 1, 0, none⟩, 1, 1, none, 0, 0, 2, 0, 1, 0, 1, 0, 1, 0, 1⟩], rfl, OwnAt.fresh rfl rfl rfl (by simp [maxLen]) encNd_len (by simp [World.size_alloc]) (Nat.zero_le _) rfl, ?_, HGR.out.trans (by repeat (first | with_reducible exact Grew.refl _ | apply Grew.more | apply Grew.alloc | apply Grew.drew | apply Grew.drewN))⟩
      have hi : OwnAt 0 3 1 encN (((wr.alloc (.cells #[.int .i64 1, .int .i64 2, .slice (some ⟨wr.heap.size + 1, 0, none⟩) 1 1, .slice none 0 0, .int .i64 2, .int .i64 0, .int .i64 1, .int .i64 0, .int .i64 1, .int .i64 0, .int .i64 1, .int .i64 0, .int .i64 1] 52))).alloc (.cells #[.int .i64 0] 3)) (.slice (some ⟨wr.heap.size + 1, 0, none⟩) 1 1) [0] := OwnAt.fresh (c := [.int .i64 0]) rfl rfl rfl (by decide) encN_len (by simp [World.size_alloc]) (Nat.zero_le _) rfl
      exact ⟨⟨⟨rfl, rfl, RowsAt.nil, RowsAt.nil, rfl, rfl, Nat.zero_le _⟩, OwnAt.nil _, OwnAt.nil _⟩, ⟨⟨rfl, rfl, (OwnAt.grew hi ((Grew.refl _).alloc _)).rows encN_len, RowsAt.nil, rfl, rfl, Nat.le_refl _⟩, OwnAt.grew hi ((Grew.refl _).alloc _), OwnAt.nil _⟩, trivial⟩
end Go.Proofs.YtipgfjihdglocaaGreat
