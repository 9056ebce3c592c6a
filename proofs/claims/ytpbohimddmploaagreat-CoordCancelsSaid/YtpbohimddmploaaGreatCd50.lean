import Derived.Test.YtpbohimddmploaaGreatCd49
import Derived.Test.YtpbohimddmploaaGreatCd43
import Derived.Test.YtpbohimddmploaaGreatCd34
import Derived.Test.YtpbohimddmploaaGreatCd38
set_option linter.unusedSimpArgs false
set_option linter.unusedVariables false
set_option maxRecDepth 100000
set_option maxHeartbeats 64000000
namespace Go.Proofs.YtpbohimddmploaaGreat
open Go.RowKit Ga

structure CoAt (w0 W : World) (z bk lg : Nat) (ms : List Gr.Mf) (m : Gr.Mf) (ps : List (List Gr.Stp)) (uv : Value) (pl : Bool) (last ref : Int) : Prop where
  blk : ∃ hv qv, W.heap[z]? = some (.cells #[.pointer (some ⟨bk, 0, none⟩), .pointer (some ⟨lg, 0, none⟩), hv, qv, uv, .bool pl, .int .i64 last, .int .i64 ref] 87) ∧ HistAt w0.heap.size W hv (ms ++ [m]) ∧ QueueAt w0.heap.size W qv ps
  ok : OkH m
  n : ps.length ≤ 1000
  z0 : w0.heap.size ≤ z
  g : Grew w0 W
theorem CoAt.grew {w0 W W' : World} {z bk lg : Nat} {ms : List Gr.Mf} {m : Gr.Mf} {ps : List (List Gr.Stp)} {uv : Value} {pl : Bool} {last ref : Int} (h : CoAt w0 W z bk lg ms m ps uv pl last ref) (g : Grew W W') : CoAt w0 W' z bk lg ms m ps uv pl last ref := by
  obtain ⟨hv, qv, h1, h2, h3⟩ := h.blk
  exact ⟨⟨hv, qv, grew_heap g h1, h2.grew g, h3.grew g⟩, h.ok, h.n, h.z0, h.g.trans g⟩
theorem plan_smallS {s : List UInt8} {q : List Gr.Stp} (h : Gr.getPl getL s = (q, 0)) : ∀ x ∈ q, smallS x := by
  obtain ⟨⟨-, -, h1⟩, -, h2⟩ := Gr.getPl_can codecI h
  intro x hx
  have h3 := h1 x hx
  have h4 := h3.2
  rw [h2 x hx] at h4
  have h5 : Co.fitsI x.nd.prog = true := h4.p
  exact ⟨by have := h4.m; omega, by have := (Co.fits_parts h5).1; omega⟩
theorem PlOwn.low {base : Nat} {w : World} {v : Value} {p : List Gr.Stp} (h : PlOwn base w v p) : PlOwn 0 w v p := by
  obtain ⟨lp, h3, h4⟩ := h
  exact ⟨lp, OwnAt.low h3 (Nat.zero_le _), Rel.mono (fun _ _ h => ⟨h.1, ⟨OwnAt.low h.2.1 (Nat.zero_le _), OwnAt.low h.2.2 (Nat.zero_le _)⟩⟩) h4⟩
theorem PlOwn.form {base : Nat} {w : World} {v : Value} {p : List Gr.Stp} (h : PlOwn base w v p) : ∃ a n c, v = .slice a n c := by
  obtain ⟨a, c, e⟩ := h.at.openC
  exact ⟨_, _, _, e.1⟩
theorem PlOwn.grew {base : Nat} {w w' : World} {v : Value} {p : List Gr.Stp} (h : PlOwn base w v p) (g : Grew w w') : PlOwn base w' v p := h.leaves (T := []) (Leaves.grew g) (by simp [NoData])
noncomputable def subE (g : List Gr.Nd) (ps : List (List Gr.Stp)) (s : List UInt8) : Int :=
  if (Gr.getPl getL s).2 ≠ 0 then (Gr.getPl getL s).2 else if 4 ≤ ps.length then 7 else (Gr.applyE checkR (Gr.aheadG checkR g ps) (Gr.getPl getL s).1).1
theorem infoSl : (Tryz.prog.info? 35).map (fun i => (i.zero, i.size, i.bytes)) = some (some (.slice none 0 0), 1, 24) := by kernel_rfl
theorem sl_at (W : World) (x : SlC) (t : TypeId) (b : Nat) {c : Array Value} (hc : c = #[x.v]) (hb : b = W.heap.size) : ∀ j u, (([x] : List SlC).flatMap encSl)[j]? = some u → (W.alloc (.cells c t)).cell? ⟨b, j, none⟩ = some u := by
  subst hc
  intro j u hu
  rw [new_cells W _ t b hb j]
  simpa [encSl] using hu
theorem apply_ahead {g : List Gr.Nd} {p : List Gr.Stp} {er : Int} (he : (Gr.applyE checkR g p).1 = er) {v vp : Value} {l : List Gr.Nd} {W : World} (hv : NodesAt W v l) (hs : Small l) (hl : l.Perm g) (hp : StepsAt W vp p) (hps : ∀ s ∈ p, smallS s) : Calls Tryz.prog 16 #[v, vp] W fun e w' => Grew W w' ∧ ((er ≠ 0 ∧ ∃ i : Int, e = .returned (.tuple #[.slice none 0 0, .int .i64 i, .int .i64 er])) ∨ (er = 0 ∧ ∃ v', e = .returned (.tuple #[v', .int .i64 0, .int .i64 0]))) := by
  refine (planApply_any v vp l p W hv hs hp hps).mono ?_
  have e1 := (Gr.applyE_perm chkR p hl).1
  rw [he] at e1
  rintro e w' ⟨h1, ⟨h2, h3⟩ | ⟨h2, v', lc, l', h3, -⟩⟩
  · rw [e1] at h2 h3
    exact ⟨h1, .inl ⟨h2, _, h3⟩⟩
  · rw [e1] at h2
    exact ⟨h1, .inr ⟨h2, v', h3⟩⟩
def QKeep (z : Nat) (W W' : World) : Prop := ∀ qv, W.cell? ⟨z, 3, none⟩ = some qv → W.heap.size ≤ W'.heap.size ∧ (∀ b, b < W.heap.size → b ≠ z → qv.ownBlock ≠ some b → W'.heap[b]? = W.heap[b]?) ∧ ∃ qv', W'.cell? ⟨z, 3, none⟩ = some qv' ∧ ∀ b, qv'.ownBlock = some b → qv.ownBlock = some b ∨ W.heap.size ≤ b
theorem QKeep.grew {z : Nat} {W W' : World} (g : Grew W W') : QKeep z W W' := fun qv hq => ⟨g.below.size, fun b hb _ _ => g.below.block b hb, qv, cell_grew hq g, fun b hb => .inl hb⟩
theorem coSubmit_any {w0 W : World} {z bk lg : Nat} {ms : List Gr.Mf} {m : Gr.Mf} {ps : List (List Gr.Stp)} {uv : Value} {pl : Bool} {last ref : Int} (s : List UInt8) (h : CoAt w0 W z bk lg ms m ps uv pl last ref) (hs : s.length ≤ 100000) :
    Calls Tryz.prog 12 #[.pointer (some ⟨z, 0, none⟩), .string ⟨s.toArray⟩] W fun e W' => e = .returned (.int .i64 (subE m.graph ps s)) ∧ CoAt w0 W' z bk lg ms m (if subE m.graph ps s = 0 then ps ++ [(Gr.getPl getL s).1] else ps) uv pl last ref ∧ Leaves [87, 35] W W' ∧ QKeep z W W' := by
  have HG := Lib.hid (getPlan_own s W hs)
  obtain ⟨⟨p, er⟩, hp⟩ : ∃ r, Gr.getPl getL s = r := ⟨_, rfl⟩
  have HPS := Lib.hid fun (q : er = 0) => plan_smallS (s := s) (q := p) (by rw [hp, q])
  unfold subE
  rw [hp] at HG ⊢
  simp only at HG ⊢
  clear hp
  have H := Lib.hid h
  obtain ⟨hv, qv, h1, h2, h3⟩ := h.blk
  have hb : Pre z W := heap_lt h1
  have c3 := cell_of (o := 3) h1
  have f3 := frozen_of (o := 3) h1
  simp at c3
  obtain ⟨aq, cq, rfl, hn, -⟩ := h3.at
  have hn2 := h.n
  by_cases he : er ≠ 0
  · rw [if_pos he, if_neg he]
    have hne : (er != 0) = true := by rw [bne_iff_ne]; exact he
    clear he h h1 h2 h3 c3 f3
    go_enter Tryz.func12, Tryz.ntmps12
    go_wp2_with (go_at_call 46; refine HG.out.mono ?_; rintro e w1 ⟨v1, rfl, -, R1, n1, rfl⟩)
    go_ret
    exact ⟨rfl, H.out.grew (by repeat (first | with_reducible exact Grew.refl _ | apply Grew.more | apply Grew.alloc | apply Grew.drew | apply Grew.drewN)), Leaves.grew (by repeat (first | with_reducible exact Grew.refl _ | apply Grew.more | apply Grew.alloc | apply Grew.drew | apply Grew.drewN)), QKeep.grew (by repeat (first | with_reducible exact Grew.refl _ | apply Grew.more | apply Grew.alloc | apply Grew.drew | apply Grew.drewN))⟩
  · obtain rfl : er = 0 := by simpa using he
    have HP := Lib.hid (HPS.out rfl)
    rw [if_neg he]
    by_cases h4 : 4 ≤ ps.length
    · rw [if_pos h4, if_neg (by decide)]
      have h4' : (4 : Int) ≤ ps.length := by omega
      clear he h h1 h2 h3 f3 h4
      go_enter Tryz.func12, Tryz.ntmps12
      go_wp2_with (go_at_call 46; refine HG.out.mono ?_; rintro e w1 ⟨v1, rfl, -, R1, n1, rfl⟩)
      go_ret
      exact ⟨rfl, H.out.grew (by repeat (first | with_reducible exact Grew.refl _ | apply Grew.more | apply Grew.alloc | apply Grew.drew | apply Grew.drewN)), Leaves.grew (by repeat (first | with_reducible exact Grew.refl _ | apply Grew.more | apply Grew.alloc | apply Grew.drew | apply Grew.drewN)), QKeep.grew (by repeat (first | with_reducible exact Grew.refl _ | apply Grew.more | apply Grew.alloc | apply Grew.drew | apply Grew.drewN))⟩
    · rw [if_neg h4]
      have h4' : ¬ (4 : Int) ≤ ps.length := by omega
      have HA := Lib.hid fun W' (g : Grew W W') => coAhead_any (grew_heap g h1) rfl rfl (h2.grew g) h.ok (h3.grew g)
      obtain ⟨e2, he2⟩ : ∃ r, (Gr.applyE checkR (Gr.aheadG checkR m.graph ps) p).1 = r := ⟨_, rfl⟩
      rw [he2]
      have HAP := Lib.hid fun v vp l W' hv hs hl hp => apply_ahead (v := v) (vp := vp) (l := l) (W := W') he2 hv hs hl hp HP.out
      by_cases hz2 : e2 = 0
      case neg =>
        rw [if_neg hz2]
        have hne : (e2 != 0) = true := by rw [bne_iff_ne]; exact hz2
        have HZ := Lib.hid hz2
        clear he h h1 h2 h3 f3 h4 he2 hz2
        go_enter Tryz.func12, Tryz.ntmps12
        go_wp2_with (first
          | (go_at_call 46; refine HG.out.mono ?_; rintro e w1 ⟨v1, rfl, ho1, R1, n1, rfl⟩; (have HO1 := Lib.hid ho1.low); clear ho1)
          | (go_at_call 48; refine (HA.out _ (by repeat (first | with_reducible exact Grew.refl _ | apply Grew.more | apply Grew.alloc | apply Grew.drew | apply Grew.drewN))).mono ?_; rintro e w2 ⟨v2, l2, rfl, hn2, hs2, hp2, R2, n2, rfl⟩; (have HN2 := Lib.hid hn2); (have HS2 := Lib.hid hs2); (have HP2 := Lib.hid hp2); clear hn2 hs2 hp2)
          | (go_at_call 16; refine (HAP.out _ _ _ _ (HN2.out.grew (by repeat (first | with_reducible exact Grew.refl _ | apply Grew.more | apply Grew.alloc | apply Grew.drew | apply Grew.drewN))) HS2.out HP2.out (HO1.out.at.grew (by repeat (first | with_reducible exact Grew.refl _ | apply Grew.more | apply Grew.alloc | apply Grew.drew | apply Grew.drewN)))).mono ?_; rintro e w3 ⟨⟨R3, n3, rfl⟩, ⟨-, i3, rfl⟩ | ⟨h0, -⟩⟩; rotate_left; exact absurd h0 HZ.out))
        go_ret
        exact ⟨rfl, H.out.grew (by repeat (first | with_reducible exact Grew.refl _ | apply Grew.more | apply Grew.alloc | apply Grew.drew | apply Grew.drewN)), Leaves.grew (by repeat (first | with_reducible exact Grew.refl _ | apply Grew.more | apply Grew.alloc | apply Grew.drew | apply Grew.drewN)), QKeep.grew (by repeat (first | with_reducible exact Grew.refl _ | apply Grew.more | apply Grew.alloc | apply Grew.drew | apply Grew.drewN))⟩
      case pos =>
        subst hz2
        rw [if_pos rfl]
        have HB := Lib.hid h1
        have H2 := Lib.hid h2
        have H3 := Lib.hid h3
        have HN := Lib.hid hn2
        clear he h h1 h2 h3 h4 he2 hn2
        go_enter Tryz.func12, Tryz.ntmps12
        go_wp2_with (first
          | (go_at_call 46; refine HG.out.mono ?_; rintro e w1 ⟨v1, rfl, ho1, R1, n1, rfl⟩; (have HO1 := Lib.hid ho1.low); obtain ⟨pa, pn, pc, rfl⟩ := ho1.form; clear ho1)
          | (go_at_call 48; refine (HA.out _ (by repeat (first | with_reducible exact Grew.refl _ | apply Grew.more | apply Grew.alloc | apply Grew.drew | apply Grew.drewN))).mono ?_; rintro e w2 ⟨v2, l2, rfl, hn2, hs2, hp2, R2, n2, rfl⟩; (have HN2 := Lib.hid hn2); (have HS2 := Lib.hid hs2); (have HP2 := Lib.hid hp2); clear hn2 hs2 hp2)
          | (go_at_call 16; refine (HAP.out _ _ _ _ (HN2.out.grew (by repeat (first | with_reducible exact Grew.refl _ | apply Grew.more | apply Grew.alloc | apply Grew.drew | apply Grew.drewN))) HS2.out HP2.out (HO1.out.at.grew (by repeat (first | with_reducible exact Grew.refl _ | apply Grew.more | apply Grew.alloc | apply Grew.drew | apply Grew.drewN)))).mono ?_; rintro e w3 ⟨⟨R3, n3, rfl⟩, ⟨h0, -⟩ | ⟨-, v3, rfl⟩⟩; exact absurd rfl h0)
          | (at_builtin; go_loud (obtain ⟨qs, ho, hr⟩ := H3.out; refine wpList_ownK (w0 := w0) rfl (.tmp 43) (.tmp 45) 23 _ _ _ _ [(pa, pn, pc)] rfl Tryz.underlying23 infoSl rfl (by decide) encSl_len encSl_one rfl (OwnAt.grew ho (by repeat (first | with_reducible exact Grew.refl _ | apply Grew.more | apply Grew.alloc | apply Grew.drew | apply Grew.drewN))) (H.out.g.trans (by repeat (first | with_reducible exact Grew.refl _ | apply Grew.more | apply Grew.alloc | apply Grew.drew | apply Grew.drewN))) rfl (sl_at _ _ _ _ rfl (by simp [go_sem])) (by have := HN.out; have := Rel.len hr; simp; omega) (by decide) (by simp) ?_); intro v7 W7 hA; obtain ⟨b9, c9, rfl⟩ := own_some' hA.2.1 (by simp); (have b7 := app_blk (W := W) hA (by repeat (first | with_reducible exact Grew.refl _ | apply Grew.more | apply Grew.alloc | apply Grew.drew | apply Grew.drewN)) HB.out (ho.other HB.out (by decide))); (have HL7 := Lib.hid (Leaves.app (T := [87, 35]) (W := W) (Leaves.grew (by repeat (first | with_reducible exact Grew.refl _ | apply Grew.more | apply Grew.alloc | apply Grew.drew | apply Grew.drewN))) (OwnAt.grew ho (by repeat (first | with_reducible exact Grew.refl _ | apply Grew.more | apply Grew.alloc | apply Grew.drew | apply Grew.drewN))) hA (by simp))); (have HS7 := Lib.hid (Leaves.app (T := [35]) (W := W) (Leaves.grew (by repeat (first | with_reducible exact Grew.refl _ | apply Grew.more | apply Grew.alloc | apply Grew.drew | apply Grew.drewN))) (OwnAt.grew ho (by repeat (first | with_reducible exact Grew.refl _ | apply Grew.more | apply Grew.alloc | apply Grew.drew | apply Grew.drewN))) hA (by simp))); (have HW7 := Lib.hid (Leaves.app (T := [35]) (W := W.more R1 n1) (Leaves.grew (by repeat (first | with_reducible exact Grew.refl _ | apply Grew.more | apply Grew.alloc | apply Grew.drew | apply Grew.drewN))) (OwnAt.grew ho (by repeat (first | with_reducible exact Grew.refl _ | apply Grew.more | apply Grew.alloc | apply Grew.drew | apply Grew.drewN))) hA (by simp))); (have HK7 : Hid (W.heap.size ≤ W7.heap.size ∧ (∀ b, b < W.heap.size → Value.ownBlock (.slice aq ps.length cq) ≠ some b → W7.heap[b]? = W.heap[b]?) ∧ ∀ b, Value.ownBlock (.slice (some ⟨b9, 0, none⟩) (qs.length + 1) c9) = some b → Value.ownBlock (.slice aq ps.length cq) = some b ∨ W.heap.size ≤ b) := Lib.hid ⟨Nat.le_trans (Grew.below (by repeat (first | with_reducible exact Grew.refl _ | apply Grew.more | apply Grew.alloc | apply Grew.drew | apply Grew.drewN) : Grew W _)).size hA.2.2.1, fun b hb hn => (hA.2.2.2.1 b (Nat.lt_of_lt_of_le hb (Grew.below (by repeat (first | with_reducible exact Grew.refl _ | apply Grew.more | apply Grew.alloc | apply Grew.drew | apply Grew.drewN) : Grew W _)).size) hn).trans ((Grew.below (by repeat (first | with_reducible exact Grew.refl _ | apply Grew.more | apply Grew.alloc | apply Grew.drew | apply Grew.drewN) : Grew W _)).block b hb), fun b hb => (hA.2.2.2.2 b hb).imp id fun h => Nat.le_trans (Grew.below (by repeat (first | with_reducible exact Grew.refl _ | apply Grew.more | apply Grew.alloc | apply Grew.drew | apply Grew.drewN) : Grew W _)).size h⟩); (have HR7 := Lib.hid hr); (have HA7 := Lib.hid hA); (have B7 := Lib.hid b7); (have c7 := cell_of (o := 3) b7); (have f7 := frozen_of (o := 3) b7); (have p7 := Pre.mk (heap_lt b7)); simp at c7; clear hA b7 ho hr))
        go_ret
        have e7 := set_blk (o := 3) (v := .slice (some ⟨b9, 0, none⟩) (qs.length + 1) c9) B7.out rfl
        have hl7 : Leaves [87] W7 (W7.setCell ⟨z, 3, none⟩ (.slice (some ⟨b9, 0, none⟩) (qs.length + 1) c9)) := (Leaves.refl _ _).set B7.out (by simp)
        have hL := (HL7.out.trans (hl7.mono (T' := [87, 35]) (by simp)))
        have ho := HA7.out.2.1
        rw [List.length_append] at ho
        have hT : NoData [87, 35] := by simp [NoData]
        have hp7 := (HO1.out.leaves HW7.out (by simp [NoData])).leaves hl7 (by simp [NoData])
        refine ⟨rfl, ⟨⟨_, _, e7, H2.out.leaves hL hT (by simp), _, hl7.own ho (by decide), Rel.snoc (Rel.mono (fun _ _ q => ⟨q.1.leaves hL hT, q.2⟩) HR7.out) ⟨hp7, HP.out⟩⟩, H.out.ok, by have := HN.out; simp; omega, H.out.z0, Grew.set HA7.out.1 H.out.z0 _⟩, hL, fun qv hq => ?_⟩
        have c3 := cell_of (o := 3) HB.out
        rw [hq] at c3
        cases c3
        obtain ⟨k1, k2, k3⟩ := HK7.out
        refine ⟨by rw [World.size_setCell]; exact k1, fun b hb hn ho => (set_other fun e => hn e.symm).trans (k2 b hb ho), _, cell_of e7, k3⟩

def IsNd (g : List Gr.Nd) (v : Value) (w : World) : Prop := NodesAt w v g
theorem IsNd.st (g : List Gr.Nd) : ∀ v w w', IsNd g v w → Grew w w' → IsNd g v w' := fun _ _ _ h g => NodesAt.grew h g
structure GaAt (W : World) (x b n : Nat) (g : List Gr.Nd) (ep : Int) (m : List (Who × AkC)) : Prop where
  ga : GatherAt W x b n g ep m
  ow : ∃ v lc, W.heap[x]? = some (.cells #[v, .int .i64 ep, .map (some b)] 176) ∧ NodesOwn 0 W v lc ∧ NodesIn 0 W lc g
theorem MapAt.leaves {κ ν : Type} {S : MSpec κ ν} {T : List TypeId} {W W' : World} {b n : Nat} {m : List (κ × ν)} (h : MapAt S W b n m) (g : Leaves T W W') : MapAt S W' b n m := by
  refine h.same ?_
  obtain ⟨D, ⟨es, c, h1, -⟩, -⟩ := h
  rw [h1]
  exact g b _ h1 fun c t f e => by cases e
theorem GaAt.leaves {T : List TypeId} {W W' : World} {x b n : Nat} {g : List Gr.Nd} {ep : Int} {m : List (Who × AkC)} (h : GaAt W x b n g ep m) (q : Leaves T W W') (hT : NoData T) (hG : 176 ∉ T) : GaAt W' x b n g ep m := by
  obtain ⟨v, lc, h1, h2, h3⟩ := h.ow
  have h1' := q.at h1 hG
  have h2' : NodesOwn 0 W' v lc := q.own h2 hT.2.2.1
  have h3' := q.nodes h3 hT.1 hT.2.1
  exact ⟨⟨⟨v, h1', h3'.at h2'⟩, h.ga.map.leaves q, h.ga.small, h.ga.len, h.ga.so, h.ga.right⟩, v, lc, h1', h2', h3'⟩
theorem GaAt.grew {W W' : World} {x b n : Nat} {g : List Gr.Nd} {ep : Int} {m : List (Who × AkC)} (h : GaAt W x b n g ep m) (q : Grew W W') : GaAt W' x b n g ep m := h.leaves (T := []) (Leaves.grew q) (by simp [NoData]) (by simp)
def IsGa (base : Nat) (g : List Gr.Nd) (ep : Int) (v : Value) (w : World) : Prop := ∃ x b : Nat, v = .pointer (some ⟨x, 0, none⟩) ∧ GaAt w x b 0 g ep [] ∧ base ≤ x ∧ base ≤ b
def IsGt (base : Nat) (g : List Gr.Nd) (ep : Int) (v : Value) (w : World) : Prop := ∃ x b : Nat, v = .tuple #[.pointer (some ⟨x, 0, none⟩), .int .i64 0] ∧ GaAt w x b 0 g ep [] ∧ base ≤ x ∧ base ≤ b
theorem IsGa.st (base : Nat) (g : List Gr.Nd) (ep : Int) : ∀ v w w', IsGa base g ep v w → Grew w w' → IsGa base g ep v w' := fun _ _ _ ⟨x, b, h1, h2, h3⟩ q => ⟨x, b, h1, h2.grew q, h3⟩
theorem IsGt.st (base : Nat) (g : List Gr.Nd) (ep : Int) : ∀ v w w', IsGt base g ep v w → Grew w w' → IsGt base g ep v w' := fun _ _ _ ⟨x, b, h1, h2, h3⟩ q => ⟨x, b, h1, h2.grew q, h3⟩
theorem coBegin_any {w0 W : World} {z bk lg : Nat} {ms : List Gr.Mf} {m : Gr.Mf} {ps : List (List Gr.Stp)} {pl : Bool} {last ref : Int} (h : CoAt w0 W z bk lg ms m ps (.pointer none) pl last ref) (hl : 0 ≤ last ∧ last ≤ 2000000000) :
    Calls Tryz.prog 13 #[.pointer (some ⟨z, 0, none⟩)] W fun e W' => e = .returned (.tuple #[.int .i64 (last + 1), .bool (decide (0 < ps.length)), .int .i64 0]) ∧ ∃ x b, CoAt w0 W' z bk lg ms m ps (.pointer (some ⟨x, 0, none⟩)) (decide (0 < ps.length)) (last + 1) ref ∧ GaAt W' x b 0 (Gr.normG m.graph) (last + 1) [] ∧ w0.heap.size ≤ x ∧ w0.heap.size ≤ b ∧ Leaves [87] W W' := by
  have H := Lib.hid h
  obtain ⟨hv, qv, h1, h2, h3⟩ := h.blk
  have hb : Pre z W := heap_lt h1
  have c3 := cell_of (o := 3) h1
  have c4 := cell_of (o := 4) h1
  have c5 := cell_of (o := 5) h1
  have c6 := cell_of (o := 6) h1
  have f4 := frozen_of (o := 4) h1
  have f5 := frozen_of (o := 5) h1
  have f6 := frozen_of (o := 6) h1
  simp at c3 c4 c5 c6
  have HM := Lib.hid fun W' (g : Grew W W') => coManifest_any (grew_heap g h1) rfl (h2.grew g) h.ok
  have HN := Lib.hid fun v W' (hn : NodesAt W' v m.graph) => newO_any v m.graph (last + 1) W' hn h.ok.s h.ok.r.gr (by omega) (by omega)
  obtain ⟨aq, cq, rfl, hn, -⟩ := h3.at
  have hfld := coField3
  have hl1 : last + 1 ≤ 9223372036854775807 := by omega
  have hl2 : -9223372036854775808 ≤ last + 1 := by omega
  have HB := Lib.hid h1
  have HB2 := Lib.hid h2
  have HB3 := Lib.hid h3
  clear h h1 h2 h3 hl
  go_enter Tryz.func13, Tryz.ntmps13
  go_wp2_with fail
  refine wp_region_seq 14 Tryz.mixed (by kernel_rfl) (by kernel_rfl) ?_
  iterate 1
    apply Seq.val
    focus
      rintro w1 u ⟨R1, n1, rfl⟩ hF
      simp [moreFacts, Fact.more, Oper.deps, Region.binds, List.filter_cons, World.more_drew] at hF
      simp [putFacts, Oper.deps, Region.binds, List.filter_cons, Region.dstOf, Fact.at, Act.put, World.more_drew]
      go_wp2
      exact ⟨by repeat (first | with_reducible exact Grew.refl _ | apply Grew.more | apply Grew.alloc | apply Grew.drew | apply Grew.drewN), rfl, _, _, rfl, rfl, rfl⟩
  apply Seq.of (IsMf m) (IsMf.st _)
  focus
    rintro w1 u ⟨R1, n1, rfl⟩ hF
    simp [moreFacts, Fact.more, Oper.deps, Region.binds, List.filter_cons, World.more_drew] at hF
    simp [putFacts, Oper.deps, Region.binds, List.filter_cons, Region.dstOf, Fact.at, Act.put, World.more_drew]
    go_wp2_with (first
      | (go_at_call 19; refine (HM.out _ (by repeat (first | with_reducible exact Grew.refl _ | apply Grew.more | apply Grew.alloc | apply Grew.drew | apply Grew.drewN))).mono ?_; rintro e w2 ⟨c2, rfl, hm, R3, n3, rfl⟩)
      )
    exact ⟨by repeat (first | with_reducible exact Grew.refl _ | apply Grew.more | apply Grew.alloc | apply Grew.drew | apply Grew.drewN), rfl, _, _, rfl, rfl, ⟨c2, rfl, hm⟩⟩
  apply Seq.of (IsNd m.graph) (IsNd.st _)
  focus
    rintro w1 u ⟨R1, n1, rfl⟩ hF
    simp [moreFacts, Fact.more, Oper.deps, Region.binds, List.filter_cons, World.more_drew] at hF
    simp [putFacts, Oper.deps, Region.binds, List.filter_cons, Region.dstOf, Fact.at, Act.put, World.more_drew]
    obtain ⟨c2, hu, hm⟩ := hF; rw [hu]
    go_wp2_with fail
    exact ⟨by repeat (first | with_reducible exact Grew.refl _ | apply Grew.more | apply Grew.alloc | apply Grew.drew | apply Grew.drewN), rfl, _, _, rfl, rfl, hm.is.g⟩
  iterate 5
    apply Seq.val
    focus
      rintro w1 u ⟨R1, n1, rfl⟩ hF
      simp [moreFacts, Fact.more, Oper.deps, Region.binds, List.filter_cons, World.more_drew] at hF
      simp [putFacts, Oper.deps, Region.binds, List.filter_cons, Region.dstOf, Fact.at, Act.put, World.more_drew]
      go_wp2
      exact ⟨by repeat (first | with_reducible exact Grew.refl _ | apply Grew.more | apply Grew.alloc | apply Grew.drew | apply Grew.drewN), rfl, _, _, rfl, rfl, rfl⟩
  apply Seq.of (IsGt w0.heap.size (Gr.normG m.graph) (last + 1)) (IsGt.st _ _ _)
  focus
    rintro w1 u ⟨R1, n1, rfl⟩ hF
    simp [moreFacts, Fact.more, Oper.deps, Region.binds, List.filter_cons, World.more_drew] at hF
    simp [putFacts, Oper.deps, Region.binds, List.filter_cons, Region.dstOf, Fact.at, Act.put, World.more_drew]
    (have HF := Lib.hid hF); clear hF
    go_wp2_with (first
      | (go_at_call 49; refine (HN.out _ _ HF.out.1).mono ?_; rintro e w2 ⟨x9, b9, rfl, ⟨v9, lc9, q1, q2, q3⟩, hga, hx8, hb8, R3, n3, rfl⟩; (have hg9 : GaAt _ x9 b9 0 _ _ _ := ⟨hga, v9, lc9, q1, OwnAt.low q2 (Nat.zero_le _), Rel.mono (fun _ _ h => ⟨h.1, ⟨OwnAt.low h.2.1 (Nat.zero_le _), OwnAt.low h.2.2 (Nat.zero_le _)⟩⟩) q3⟩); (have hx9 := Nat.le_trans (H.out.g.trans (by repeat (first | with_reducible exact Grew.refl _ | apply Grew.more | apply Grew.alloc | apply Grew.drew | apply Grew.drewN) : Grew W (W.more R1 n1))).below.size hx8); (have hb9 := Nat.le_trans (H.out.g.trans (by repeat (first | with_reducible exact Grew.refl _ | apply Grew.more | apply Grew.alloc | apply Grew.drew | apply Grew.drewN) : Grew W (W.more R1 n1))).below.size hb8))
      )
    exact ⟨by repeat (first | with_reducible exact Grew.refl _ | apply Grew.more | apply Grew.alloc | apply Grew.drew | apply Grew.drewN), rfl, _, _, rfl, rfl, ⟨x9, b9, rfl, hg9, hx9, hb9⟩⟩
  apply Seq.of (IsGt w0.heap.size (Gr.normG m.graph) (last + 1)) (IsGt.st _ _ _)
  focus
    rintro w1 u ⟨R1, n1, rfl⟩ hF
    simp [moreFacts, Fact.more, Oper.deps, Region.binds, List.filter_cons, World.more_drew] at hF
    simp [putFacts, Oper.deps, Region.binds, List.filter_cons, Region.dstOf, Fact.at, Act.put, World.more_drew]
    obtain ⟨x9, b9, hu, hg9, hx9, hb9⟩ := hF; rw [hu]
    go_wp2_with fail
    exact ⟨by repeat (first | with_reducible exact Grew.refl _ | apply Grew.more | apply Grew.alloc | apply Grew.drew | apply Grew.drewN), rfl, _, _, rfl, rfl, ⟨x9, b9, rfl, hg9, hx9, hb9⟩⟩
  apply Seq.of (IsGa w0.heap.size (Gr.normG m.graph) (last + 1)) (IsGa.st _ _ _)
  focus
    rintro w1 u ⟨R1, n1, rfl⟩ hF
    simp [moreFacts, Fact.more, Oper.deps, Region.binds, List.filter_cons, World.more_drew] at hF
    simp [putFacts, Oper.deps, Region.binds, List.filter_cons, Region.dstOf, Fact.at, Act.put, World.more_drew]
    obtain ⟨x9, b9, hu, hg9, hx9, hb9⟩ := hF; rw [hu]
    go_wp2_with fail
    exact ⟨by repeat (first | with_reducible exact Grew.refl _ | apply Grew.more | apply Grew.alloc | apply Grew.drew | apply Grew.drewN), rfl, _, _, rfl, rfl, ⟨x9, b9, rfl, hg9, hx9, hb9⟩⟩
  apply Seq.val
  focus
    rintro w1 u ⟨R1, n1, rfl⟩ hF
    simp [moreFacts, Fact.more, Oper.deps, Region.binds, List.filter_cons, World.more_drew] at hF
    simp [putFacts, Oper.deps, Region.binds, List.filter_cons, Region.dstOf, Fact.at, Act.put, World.more_drew]
    obtain ⟨x9, b9, hu, hg9, hx9, hb9⟩ := hF; rw [hu]
    go_wp2_with fail
    exact ⟨by repeat (first | with_reducible exact Grew.refl _ | apply Grew.more | apply Grew.alloc | apply Grew.drew | apply Grew.drewN), rfl, _, _, rfl, rfl, rfl⟩
  apply Seq.of (IsGa w0.heap.size (Gr.normG m.graph) (last + 1)) (IsGa.st _ _ _)
  focus
    rintro w1 u ⟨R1, n1, rfl⟩ hF
    simp [moreFacts, Fact.more, Oper.deps, Region.binds, List.filter_cons, World.more_drew] at hF
    simp [putFacts, Oper.deps, Region.binds, List.filter_cons, Region.dstOf, Fact.at, Act.put, World.more_drew]
    obtain ⟨⟨x9, b9, hu, hg9, hx9, hb9⟩, -⟩ := hF; rw [hu]
    go_wp2_with fail
    exact ⟨by repeat (first | with_reducible exact Grew.refl _ | apply Grew.more | apply Grew.alloc | apply Grew.drew | apply Grew.drewN), rfl, _, _, rfl, rfl, ⟨x9, b9, rfl, hg9, hx9, hb9⟩⟩
  iterate 1
    apply Seq.val
    focus
      rintro w1 u ⟨R1, n1, rfl⟩ hF
      simp [moreFacts, Fact.more, Oper.deps, Region.binds, List.filter_cons, World.more_drew] at hF
      simp [putFacts, Oper.deps, Region.binds, List.filter_cons, Region.dstOf, Fact.at, Act.put, World.more_drew]
      go_wp2
      exact ⟨by repeat (first | with_reducible exact Grew.refl _ | apply Grew.more | apply Grew.alloc | apply Grew.drew | apply Grew.drewN), rfl, _, _, rfl, rfl, rfl⟩
  rintro u w1 ⟨R1, n1, rfl⟩ hF
  simp [moreFacts, apartFacts, Fact.more, Fact.isNew, List.range_succ, World.more_drew] at hF
  obtain ⟨-, -, -, -, -, x9, b9, hu, hg9, hx9, hb9⟩ := hF
  simp [putFacts, Region.dstOf, Fact.at, Act.put, List.range_succ, World.more_drew]
  rw [hu]
  have HG9 := Lib.hid hg9
  have HX9 := Lib.hid hx9
  have HB9 := Lib.hid hb9
  clear hu hg9 hx9 hb9 hfld
  go_wp2_with fail
  have e1 := set_blk (o := 6) (v := .int .i64 (last + 1)) HB.out rfl
  have e2 := set_blk (o := 4) (v := .pointer (some ⟨x9, 0, none⟩)) e1 rfl
  have e3 := set_blk (o := 5) (v := .bool (decide (0 < ps.length))) e2 rfl
  have hl := ((((Leaves.refl [87] W).set (o := 6) (v := .int .i64 (last + 1)) HB.out (by simp)).set (o := 4) (v := .pointer (some ⟨x9, 0, none⟩)) e1 (by simp)).set (o := 5) (v := .bool (decide (0 < ps.length))) e2 (by simp))
  have hg := (((H.out.g.set (o := 6) H.out.z0 (.int .i64 (last + 1))).set (o := 4) H.out.z0 (.pointer (some ⟨x9, 0, none⟩))).set (o := 5) H.out.z0 (.bool (decide (0 < ps.length))))
  have ht : Twin 87 W (((W.setCell ⟨z, 6, none⟩ (.int .i64 (last + 1))).setCell ⟨z, 4, none⟩ (.pointer (some ⟨x9, 0, none⟩))).setCell ⟨z, 5, none⟩ (.bool (decide (0 < ps.length)))) := ⟨hl, by simp [World.size_setCell]⟩
  clear c3 c4 c5 c6 f4 f5 f6 e1 e2 hb
  generalize ((W.setCell ⟨z, 6, none⟩ (.int .i64 (last + 1))).setCell ⟨z, 4, none⟩ (.pointer (some ⟨x9, 0, none⟩))).setCell ⟨z, 5, none⟩ (.bool (decide (0 < ps.length))) = WS at *
  have c5 := cell_of (o := 5) e3
  have c6 := cell_of (o := 6) e3
  simp at c5 c6
  have hb : Pre z WS := heap_lt e3
  have HE3 := Lib.hid e3
  have HLS := Lib.hid hl
  have HGS := Lib.hid hg
  have HTS := Lib.hid ht
  clear e3 hl hg ht
  refine wp_region_seq 11 Tryz.mixed (by kernel_rfl) (by kernel_rfl) ?_
  iterate 11
    apply Seq.val
    focus
      rintro w1 u ⟨R1, n1, rfl⟩ hF
      simp [moreFacts, Fact.more, Oper.deps, Region.binds, List.filter_cons, World.more_drew] at hF
      simp [putFacts, Oper.deps, Region.binds, List.filter_cons, Region.dstOf, Fact.at, Act.put, World.more_drew]
      go_wp2
      exact ⟨by repeat (first | with_reducible exact Grew.refl _ | apply Grew.more | apply Grew.alloc | apply Grew.drew | apply Grew.drewN), rfl, _, _, rfl, rfl, rfl⟩
  rintro u w1 ⟨R1, n1, rfl⟩ hF
  clear hF
  simp [putFacts, Region.dstOf, Fact.at, Act.put, List.range_succ, World.more_drew]
  go_wp2
  rename_i R4 n4
  have hT : NoData [87] := by simp [NoData]
  exact bodyPost_ret (v := .tuple #[.int .i64 (last + 1), .bool (decide (0 < ps.length)), .int .i64 0]) (by simp [results, Tryz.results13, go_sem]) rfl ⟨rfl, x9, b9, ⟨⟨_, _, grew_heap (by repeat (first | with_reducible exact Grew.refl _ | apply Grew.more | apply Grew.alloc | apply Grew.drew | apply Grew.drewN)) HE3.out, (HB2.out.leaves HLS.out hT (by simp)).grew (by repeat (first | with_reducible exact Grew.refl _ | apply Grew.more | apply Grew.alloc | apply Grew.drew | apply Grew.drewN)), (HB3.out.leaves HLS.out hT (by simp)).grew (by repeat (first | with_reducible exact Grew.refl _ | apply Grew.more | apply Grew.alloc | apply Grew.drew | apply Grew.drewN))⟩, H.out.ok, H.out.n, H.out.z0, HGS.out.trans (by repeat (first | with_reducible exact Grew.refl _ | apply Grew.more | apply Grew.alloc | apply Grew.drew | apply Grew.drewN))⟩, (HG9.out.leaves (HTS.out.more R4 n4).1 hT (by simp)).grew (by repeat (first | with_reducible exact Grew.refl _ | apply Grew.more | apply Grew.alloc | apply Grew.drew | apply Grew.drewN)), HX9.out, HB9.out, HLS.out.trans (Leaves.grew (by repeat (first | with_reducible exact Grew.refl _ | apply Grew.more | apply Grew.alloc | apply Grew.drew | apply Grew.drewN)))⟩

def ackO : AkC := ⟨0, 0, 1, none, 0, 0, none, 0, 0, 0⟩
theorem pass1_addO : addR passL1 1 [] ackO = 0 := by
  have h : Gr.nodeOf passL1 ackO.node = some ⟨0, 0, [], [], 1, List.replicate 8 0⟩ := rfl
  unfold addR
  rw [h]
  have hm : mfind ([] : List (Who × AkC)) (ackO.node, ackO.ix) = none := mfind_no fun x hx => by cases hx
  simp only
  rw [hm]
  simp [ackO]
theorem map_ne {κ ν : Type} {S : MSpec κ ν} {W : World} {b n z : Nat} {m : List (κ × ν)} {c : Array Value} {t : TypeId} (h : MapAt S W b n m) (hz : W.heap[z]? = some (.cells c t)) : z ≠ b := by
  obtain ⟨D, ⟨es, c, h1, -⟩, -⟩ := h
  intro e
  rw [e, h1] at hz
  cases hz
theorem coAck_one {w0 W : World} {z bk lg x b : Nat} {hv qv : Value} {pl : Bool} {last ref : Int} (h1 : W.heap[z]? = some (.cells #[.pointer (some ⟨bk, 0, none⟩), .pointer (some ⟨lg, 0, none⟩), hv, qv, .pointer (some ⟨x, 0, none⟩), .bool pl, .int .i64 last, .int .i64 ref] 87)) (hG : GatherAt W x b 0 passL1 1 []) (hg : Grew w0 W) (hb : w0.heap.size ≤ b) :
    Calls Tryz.prog 20 #[.pointer (some ⟨z, 0, none⟩), akv ackO] W fun e W' => e = .returned (.int .i64 0) ∧ W'.heap[z]? = W.heap[z]? ∧ GatherAt W' x b 1 passL1 1 [((0, 0), ackO)] ∧ Grew w0 W' := by
  have c4 := cell_of (o := 4) h1
  simp at c4
  have hbz : Pre z W := heap_lt h1
  have hne := map_ne hG.map h1
  have HA := Lib.hid fun W' (g : Grew W W') => add_any' w0 W' x b 0 passL1 1 [] ackO (hG.grew g) (hg.trans g) hb (by decide) (by unfold okWho; decide)
  have HN := Lib.hid hne
  have HBZ := Lib.hid hbz
  clear h1 hG hg hb hne
  show Calls Tryz.prog _ #[_, .agg #[.int .i64 0, .int .i64 0, .int .i64 1, .slice none 0 0, .slice none 0 0, .int .i64 0]] W _
  go_enter Tryz.func20, Tryz.ntmps20
  go_wp2_with fail
  refine wp_region_seq 5 Tryz.mixed (by kernel_rfl) (by kernel_rfl) ?_
  iterate 5
    apply Seq.val
    focus
      rintro w1 u ⟨R1, n1, rfl⟩ hF
      simp [moreFacts, Fact.more, Oper.deps, Region.binds, List.filter_cons, World.more_drew] at hF
      simp [putFacts, Oper.deps, Region.binds, List.filter_cons, Region.dstOf, Fact.at, Act.put, World.more_drew]
      go_wp2
      exact ⟨by repeat (first | with_reducible exact Grew.refl _ | apply Grew.more | apply Grew.alloc | apply Grew.drew | apply Grew.drewN), rfl, _, _, rfl, rfl, rfl⟩
  rintro u w1 ⟨R1, n1, rfl⟩ hF
  clear hF
  simp [putFacts, Region.dstOf, Fact.at, Act.put, List.range_succ, World.more_drew]
  go_wp2_with fail
  refine (HA.out _ (by repeat (first | with_reducible exact Grew.refl _ | apply Grew.more | apply Grew.alloc | apply Grew.drew | apply Grew.drewN))).mono ?_
  rintro e w4 ⟨rfl, -, h4⟩
  obtain ⟨h5, h6, h7⟩ := h4 pass1_addO
  rw [pass1_addO]
  have H5 := Lib.hid h5
  have H6 := Lib.hid h6
  have H7 := Lib.hid h7
  clear h4 h5 h6 h7
  go_wp2_with fail
  go_ret
  refine ⟨rfl, ?_, H5.out, H6.out⟩
  exact (H7.out.2 z (Nat.lt_of_lt_of_le HBZ.out (Grew.below (by repeat (first | with_reducible exact Grew.refl _ | apply Grew.more | apply Grew.alloc | apply Grew.drew | apply Grew.drewN) : Grew W _)).size) HN.out).trans ((Grew.below (by repeat (first | with_reducible exact Grew.refl _ | apply Grew.more | apply Grew.alloc | apply Grew.drew | apply Grew.drewN) : Grew W _)).block z HBZ.out)
theorem coReady_one {W : World} {z bk lg x b : Nat} {hv qv : Value} {pl : Bool} {last ref : Int} (h1 : W.heap[z]? = some (.cells #[.pointer (some ⟨bk, 0, none⟩), .pointer (some ⟨lg, 0, none⟩), hv, qv, .pointer (some ⟨x, 0, none⟩), .bool pl, .int .i64 last, .int .i64 ref] 87)) (hG : GatherAt W x b 1 passL1 1 [((0, 0), ackO)]) :
    Calls Tryz.prog 29 #[.pointer (some ⟨z, 0, none⟩)] W (Gives (.bool false) W) := by
  have c4 := cell_of (o := 4) h1
  simp at c4
  have HM := Lib.hid (missing_any x b 1 passL1 1 _ W hG (by decide))
  rw [pass1_tasks] at HM
  clear h1 hG
  go_enter Tryz.func29, Tryz.ntmps29
  go_wp2_with (go_at_call 77; refine HM.out.mono ?_; rintro e w1 ⟨rfl, R1, n1, rfl⟩)
  go_ret
  refine ⟨rfl, ?_⟩
  repeat (first | with_reducible exact Grew.refl _ | apply Grew.more | apply Grew.alloc | apply Grew.drew | apply Grew.drewN)

theorem cloneSl_any {W : World} {a : Addr} {n cap : Nat} {xs : List SlC} (h : RowsAt 1 encSl W (.slice (some a) n cap) xs) (hn : xs.length ≤ 1000) : Calls Tryz.prog 56 #[.slice (some a) n cap] W fun e W' => ∃ v, e = .returned v ∧ OwnAt W.heap.size 35 1 encSl W' v xs ∧ Grew W W' := by
  obtain rfl : n = xs.length := by obtain ⟨a', c', e, -⟩ := h; cases e; rfl
  have hq : ∀ W : World, (binOp BinOp.eql 23 (.slice (some a) xs.length cap) (.slice none 0 0)).run Tryz.prog W = .ok (.bool false) W := fun W => by kernel_rfl
  have H := Lib.hid h
  have HN := Lib.hid hn
  clear h hn
  go_enter Tryz.func56, Tryz.ntmps56
  go_wp2_with (at_builtin; go_loud (refine wpList_ownM (w0 := W) rfl (.tmp 5) (.tmp 6) 23 _ _ _ xs rfl Tryz.underlying23 infoSl rfl (by decide) encSl_len encSl_one rfl (OwnAt.lit _ _ rfl (Nat.le_refl _)) (by repeat (first | with_reducible exact Grew.refl _ | apply Grew.more | apply Grew.alloc | apply Grew.drew | apply Grew.drewN)) rfl (H.out.grew (by repeat (first | with_reducible exact Grew.refl _ | apply Grew.more | apply Grew.alloc | apply Grew.drew | apply Grew.drewN))) (.inr ⟨a, cap, rfl⟩) (by have := HN.out; simp; omega) (by decide) ?_); intro v7 R7 N7 hA _; (have HA7 := Lib.hid hA); clear hA)
  go_ret
  exact ⟨v7, rfl, by simpa using HA7.out, by repeat (first | with_reducible exact Grew.refl _ | apply Grew.more | apply Grew.alloc | apply Grew.drew | apply Grew.drewN)⟩
theorem own_sl {α : Type} {base : Nat} {e : TypeId} {k : Nat} {enc : α → List Value} {w : World} {v : Value} {l : List α} (h : OwnAt base e k enc w v l) : ∃ a n c, v = .slice a n c := by
  rcases h.form with ⟨h, -⟩ | ⟨b, c, h, -⟩
  · exact ⟨_, _, _, h⟩
  · exact ⟨_, _, _, h⟩
theorem OwnAt.high {α : Type} {base base' : Nat} {e : TypeId} {k : Nat} {enc : α → List Value} {w : World} {v : Value} {l : List α} (h : OwnAt base e k enc w v l) (hq : ∀ q, v.ownBlock = some q → base' ≤ q) : OwnAt base' e k enc w v l := by
  obtain ⟨h1, h2⟩ := h
  refine ⟨h1, ?_⟩
  rcases h2 with h | ⟨b, cap, cur, hv, hb, r⟩
  · exact .inl h
  · exact .inr ⟨b, cap, cur, hv, hq b (by rw [hv]; rfl), r⟩
structure WithSt (w0 W wr : World) (z bk lg : Nat) (ms : List Gr.Mf) (m : Gr.Mf) (ps : List (List Gr.Stp)) (uv : Value) (pl : Bool) (last ref : Int) : Prop where
  blk : ∃ hv qv, wr.heap[z]? = some (.cells #[.pointer (some ⟨bk, 0, none⟩), .pointer (some ⟨lg, 0, none⟩), hv, qv, uv, .bool pl, .int .i64 last, .int .i64 ref] 87) ∧ HistAt w0.heap.size wr hv (ms ++ [m]) ∧ QueueAt W.heap.size wr qv ps
  old : Keep z W wr
  l : Leaves [87, 35] W wr
  g : Grew w0 wr
  s : W.heap.size ≤ wr.heap.size
theorem WithSt.grew {w0 W wr wx : World} {z bk lg : Nat} {ms : List Gr.Mf} {m : Gr.Mf} {ps : List (List Gr.Stp)} {uv : Value} {pl : Bool} {last ref : Int} (h : WithSt w0 W wr z bk lg ms m ps uv pl last ref) (g : Grew wr wx) (hb : True := trivial) : WithSt w0 W wx z bk lg ms m ps uv pl last ref := by
  obtain ⟨hv, qv, h1, h2, h3⟩ := h.blk
  exact ⟨⟨hv, qv, grew_heap g h1, h2.grew g, h3.grew g⟩, h.old.trans (Keep.ofGrew g), h.l.trans (Leaves.grew g), h.g.trans g, Nat.le_trans h.s g.below.size⟩
theorem Rel.takeR {α β : Type} {R : α → β → Prop} : ∀ {xs : List α} {ys : List β}, Rel R xs ys → ∀ i, Rel R (xs.take i) (ys.take i)
  | [], [], _, i => by simp [Rel]
  | x :: xs, y :: ys, h, 0 => by simp [Rel]
  | x :: xs, y :: ys, h, i + 1 => ⟨h.1, Rel.takeR h.2 i⟩
theorem coWithout_any {w0 W : World} {z bk lg : Nat} {ms : List Gr.Mf} {m : Gr.Mf} {ps : List (List Gr.Stp)} {uv : Value} {pl : Bool} {last ref : Int} (i : Nat) (h : CoAt w0 W z bk lg ms m ps uv pl last ref) (hi : i < ps.length) (hr : 0 ≤ ref ∧ ref ≤ 1000000) :
    Calls Tryz.prog 50 #[.pointer (some ⟨z, 0, none⟩), .int .i64 i] W fun e W' => e = .returned (.tuple #[]) ∧ CoAt w0 W' z bk lg ms m (Gr.backQ checkR m.graph ps i) uv pl last (ref + ((ps.length : Int) - 1 - (Gr.backQ checkR m.graph ps i).length)) ∧ Keep z W W' := by
  have H := Lib.hid h
  obtain ⟨hv, qv, h1, h2, h3⟩ := h.blk
  have hb : Pre z W := heap_lt h1
  have c3 := cell_of (o := 3) h1
  have f3 := frozen_of (o := 3) h1
  simp at c3
  obtain ⟨aq, cq, rfl, hn, hx⟩ := h3.at
  obtain ⟨bq, rfl, hbq, -⟩ := hx i hi
  have hi1 : (0 : Int) ≤ (i : Int) + 1 := by omega
  have hi2 : (i : Int) + 1 ≤ ps.length := by omega
  have hi3 : (i : Int) ≤ ps.length := by omega
  have hi4 : (0 : Int) ≤ (i : Int) := by omega
  have hi5 : (i : Int) + 1 ≤ 9223372036854775807 := by omega
  have hn9 := h.n
  have hq1 : ps.length ≤ cq := by obtain ⟨qs, ho, hrl⟩ := h3; rcases ho.form with ⟨e, -⟩ | ⟨b, c, e, -, e2, -⟩; cases e; rw [Rel.len hrl] at e e2; cases e; exact e2
  have hq2 : (ps.length : Int) ≤ cq := by omega
  obtain ⟨qs, hoq, hrq⟩ := h3
  have HC := Lib.hid fun W' (g : Grew W W') => cloneSl_any ((OwnAt.rows hoq encSl_len).take (Nat.le_of_lt hi) |>.grew g) (by have := Rel.len hrq; rw [List.length_take]; omega)
  have HR := Lib.hid hrq
  have HBN := Lib.hid (show z ≠ bq from fun e => by obtain ⟨-, c, hc⟩ := OwnAt.block hoq (q := bq) rfl; rw [← e, h1] at hc; cases hc)
  have HBQ := Lib.hid hbq
  have HOQ := Lib.hid hoq
  have HB := Lib.hid h1
  have H2 := Lib.hid h2
  have HI := Lib.hid hi
  have HRF := Lib.hid hr
  have HN9 := Lib.hid hn9
  clear h h1 h2 hoq hrq hx hi hr hbq
  go_enter Tryz.func50, Tryz.ntmps50
  go_upto_region 1 with fail
  obtain ⟨ao, hao⟩ : ∃ ao : Option Addr, (if cq = i + 1 then some (⟨bq, 0, none⟩ : Addr) else some ⟨bq, i + 1, none⟩) = ao := ⟨_, rfl⟩
  rw [hao]
  have HAO := Lib.hid hao
  clear hao
  obtain ⟨no, hno⟩ : ∃ no, ps.length - (i + 1) = no := ⟨_, rfl⟩
  rw [hno]
  have hno2 : (no : Int) ≤ 9223372036854775807 := by omega
  have HNO := Lib.hid hno
  clear hno
  go_wp2_with (go_at_call 56; refine (HC.out _ (by repeat (first | with_reducible exact Grew.refl _ | apply Grew.more | apply Grew.alloc | apply Grew.drew | apply Grew.drewN))).mono ?_; rintro e w1 ⟨v1, rfl, ho1, R1, n1, rfl⟩; (have HO1 := Lib.hid ho1); obtain ⟨a1, m1, c1, rfl⟩ := own_sl ho1; clear ho1)
  have e1 := set_blk (o := 3) (v := .slice a1 m1 c1) HB.out rfl
  have hl := (Leaves.refl [87] W).set (o := 3) (v := .slice a1 m1 c1) HB.out (by simp)
  have ht : Twin 87 W (W.setCell ⟨z, 3, none⟩ (.slice a1 m1 c1)) := ⟨hl, by simp [World.size_setCell]⟩
  have hg := H.out.g.set (o := 3) H.out.z0 (.slice a1 m1 c1)
  have hold : Keep z W (W.setCell ⟨z, 3, none⟩ (.slice a1 m1 c1)) := ⟨by simp [World.size_setCell], fun q hq hn => set_other fun e => hn e.symm⟩
  clear c3 f3
  generalize W.setCell ⟨z, 3, none⟩ (.slice a1 m1 c1) = WS at *
  have hT : NoData [87] := by simp [NoData]
  have hst : WithSt w0 W (WS.more R1 n1) z bk lg ms m (Gr.backK checkR m.graph ps i 0) uv pl last ref := by
    refine ⟨⟨_, _, grew_heap (by repeat (first | with_reducible exact Grew.refl _ | apply Grew.more | apply Grew.alloc | apply Grew.drew | apply Grew.drewN)) e1, (H2.out.leaves hl hT (by simp)).grew (by repeat (first | with_reducible exact Grew.refl _ | apply Grew.more | apply Grew.alloc | apply Grew.drew | apply Grew.drewN)), qs.take i, OwnAt.low ((ht.more R1 n1).1.own HO1.out (by decide)) (Nat.le_refl _), ?_⟩, ?_, (hl.mono (by simp)).trans (Leaves.grew (by repeat (first | with_reducible exact Grew.refl _ | apply Grew.more | apply Grew.alloc | apply Grew.drew | apply Grew.drewN))), hg.trans (by repeat (first | with_reducible exact Grew.refl _ | apply Grew.more | apply Grew.alloc | apply Grew.drew | apply Grew.drewN)), ?_⟩
    · have : Gr.backK checkR m.graph ps i 0 = ps.take i := by unfold Gr.backK; rw [List.take_zero]; show _ ++ [] = _; rw [List.append_nil]
      rw [this]
      exact Rel.mono (fun _ _ q => ⟨(q.1.leaves hl hT).grew (by repeat (first | with_reducible exact Grew.refl _ | apply Grew.more | apply Grew.alloc | apply Grew.drew | apply Grew.drewN)), q.2⟩) (Rel.takeR HR.out i)
    · exact hold.trans (Keep.ofGrew (by repeat (first | with_reducible exact Grew.refl _ | apply Grew.more | apply Grew.alloc | apply Grew.drew | apply Grew.drewN)))
    · rw [World.more_size, ← ht.2]; omega
  have HST := Lib.hid hst
  clear e1 hl ht hg hold hst hb
  have hz0 : Gr.backK checkR m.graph ps i 0 = ps.take i := by unfold Gr.backK; rw [List.take_zero]; show _ ++ [] = _; rw [List.append_nil]
  have hr0 : ref + (((i + 0 : Nat) : Int) - ((Gr.backK checkR m.graph ps i 0).length : Nat)) = ref := by rw [hz0, List.length_take]; have := HI.out; omega
  rw [← hr0] at HST
  clear hz0
  go_loopg [29] no (fun gg s29 wr => ∃ k : Nat, k ≤ no ∧ no - k ≤ gg ∧ s29 = .int .i64 k ∧ Hid (WithSt w0 W wr z bk lg ms m (Gr.backK checkR m.graph ps i k) uv pl last (ref + (((i + k : Nat) : Int) - ((Gr.backK checkR m.graph ps i k).length : Nat)))))
  case atStart => exact ⟨0, by omega, by omega, rfl, HST⟩
  case round =>
    obtain ⟨k, hk, hgg, rfl, HS⟩ := hrel
    rename World => wa
    clear HST hr0
    by_cases hlt : k < no
    · have hno := HNO.out
      have hkk : i + 1 + k < ps.length := by omega
      have hao := HAO.out
      rw [if_neg (by omega)] at hao
      subst hao
      obtain ⟨aa, cc, ee, -, hx⟩ := QueueAt.at (base := w0.heap.size) (W := W) ⟨qs, HOQ.out, HR.out⟩
      cases ee
      obtain ⟨bb, eb, -, ⟨pa, pn, pc⟩, ⟨hw, hs⟩, hc⟩ := hx (i + 1 + k) hkk
      cases eb
      simp only [SlC.v] at hw hc
      have hcw : wa.cell? ⟨bq, i + 1 + k, none⟩ = some (.slice pa pn pc) := by rw [← hc]; unfold World.cell?; simp only [HS.out.old.2 bq HBQ.out (fun e => HBN.out e.symm)]
      have hpb : Pre bq wa := Pre.ofCell hcw
      have hk2 : (k : Int) < no := by omega
      have hT : NoData [87, 35] := by simp [NoData]
      have HW := Lib.hid (hw.leaves HS.out.l hT)
      obtain ⟨hv2, qv2, b1, b2, b3⟩ := HS.out.blk
      have HA := Lib.hid fun W' (g : Grew wa W') => coAhead_any (grew_heap g b1) rfl rfl (b2.grew g) H.out.ok (b3.grew g)
      have HBS := Lib.hid (Gr.back_succ (chk := checkR) (g := m.graph) hkk)
      obtain ⟨e2, he2⟩ : ∃ r, (Gr.applyE checkR (Gr.aheadG checkR m.graph (Gr.backK checkR m.graph ps i k)) ps[i + 1 + k]).1 = r := ⟨_, rfl⟩
      have HAP := Lib.hid fun v vp l W' hv hs2 hl hp => apply_ahead (v := v) (vp := vp) (l := l) (W := W') he2 hv hs2 hl hp hs
      have hgo : Gr.goes checkR (Gr.aheadG checkR m.graph (Gr.backK checkR m.graph ps i k)) ps[i + 1 + k] = decide (e2 = 0) := by rw [← he2]; rfl
      rw [hgo] at HBS
      have HSM := Lib.hid hs
      have HBL := Lib.hid (Gr.back_len (chk := checkR) m.graph ps i k)
      have hbl := Gr.back_len (chk := checkR) m.graph ps i k
      have B1 := Lib.hid b1
      have B2 := Lib.hid b2
      have B3 := Lib.hid b3
      have hbz : Pre z wa := heap_lt b1
      have c3 := cell_of (o := 3) b1
      have f3 := frozen_of (o := 3) b1
      simp at c3
      clear hno hx hc hw hs b1 b2 b3 he2 hgo
      generalize ps[i + 1 + k] = p at *
      obtain ⟨bk1, hb1⟩ : ∃ b, Gr.backK checkR m.graph ps i (k + 1) = b := ⟨_, rfl⟩
      rw [hb1] at HBS
      have HB1 := Lib.hid hb1
      clear hb1
      generalize Gr.backK checkR m.graph ps i k = bk0 at *
      obtain ⟨rv, hrv⟩ : ∃ r, ref + (((i + k : Nat) : Int) - ((bk0.length : Nat) : Int)) = r := ⟨_, rfl⟩
      rw [hrv] at HS B1
      have c7 := cell_of (o := 7) B1.out
      have f7 := frozen_of (o := 7) B1.out
      simp at c7
      have hrb : 0 ≤ rv ∧ rv ≤ 2000000 := by have := HRF.out; omega
      have hrb1 : rv + 1 ≤ 9223372036854775807 := by omega
      have hrb2 : -9223372036854775808 ≤ rv + 1 := by omega
      have HRV := Lib.hid hrv
      clear hrv hbl hrb
      by_cases hz2 : e2 = 0
      case neg =>
        have hne : (e2 != 0) = true := by rw [bne_iff_ne]; exact hz2
        have HZ := Lib.hid hz2
        have HBK : Hid (bk1 = bk0) := Lib.hid (by rw [HBS.out]; simp [hz2])
        clear hz2 c3 f3
        go_wp2_with (first
          | (go_at_call 48; refine (HA.out _ (by repeat (first | with_reducible exact Grew.refl _ | apply Grew.more | apply Grew.alloc | apply Grew.drew | apply Grew.drewN))).mono ?_; rintro e w2 ⟨v2, l2, rfl, hn2, hs2, hp2, R2, n2, rfl⟩; (have HN2 := Lib.hid hn2); (have HS2 := Lib.hid hs2); (have HP2 := Lib.hid hp2); clear hn2 hs2 hp2)
          | (go_at_call 16; refine (HAP.out _ _ _ _ (HN2.out.grew (by repeat (first | with_reducible exact Grew.refl _ | apply Grew.more | apply Grew.alloc | apply Grew.drew | apply Grew.drewN))) HS2.out HP2.out (HW.out.at.grew (by repeat (first | with_reducible exact Grew.refl _ | apply Grew.more | apply Grew.alloc | apply Grew.drew | apply Grew.drewN)))).mono ?_; rintro e w3 ⟨⟨R3, n3, rfl⟩, ⟨-, i3, rfl⟩ | ⟨h0, -⟩⟩; rotate_left; exact absurd h0 HZ.out))
        have e7 := set_blk (o := 7) (v := .int .i64 (rv + 1)) B1.out rfl
        have hl7 := (Leaves.refl [87] wa).set (o := 7) (v := .int .i64 (rv + 1)) B1.out (by simp)
        have hT1 : NoData [87] := by simp [NoData]
        have hst : WithSt w0 W (wa.setCell ⟨z, 7, none⟩ (.int .i64 (rv + 1))) z bk lg ms m bk1 uv pl last (ref + (((i + (k + 1) : Nat) : Int) - (bk1.length : Nat))) := by
          rw [HBK.out, show ref + (((i + (k + 1) : Nat) : Int) - (bk0.length : Nat)) = rv + 1 by have := HRV.out; omega]
          exact ⟨⟨_, _, e7, B2.out.leaves hl7 hT1 (by simp), B3.out.leaves hl7 hT1 (by simp)⟩, HS.out.old.trans ⟨by simp [World.size_setCell], fun q hq hn => set_other fun e => hn e.symm⟩, HS.out.l.trans (hl7.mono (by simp)), HS.out.g.set H.out.z0 _, by rw [World.size_setCell]; exact HS.out.s⟩
        go_roundg (no - (k + 1))
        case measure => omega
        case rel => exact ⟨k + 1, by omega, by omega, by go_num, by rw [HB1.out]; exact Lib.hid (hst.grew (by repeat (first | with_reducible exact Grew.refl _ | apply Grew.more | apply Grew.alloc | apply Grew.drew | apply Grew.drewN)))⟩
      case pos =>
        subst hz2
        have HBK : Hid (bk1 = bk0 ++ [p]) := Lib.hid (by rw [HBS.out]; simp)
        have HK := Lib.hid hkk
        clear c7 f7 hkk
        go_wp2_with (first
          | (go_at_call 48; refine (HA.out _ (by repeat (first | with_reducible exact Grew.refl _ | apply Grew.more | apply Grew.alloc | apply Grew.drew | apply Grew.drewN))).mono ?_; rintro e w2 ⟨v2, l2, rfl, hn2, hs2, hp2, R2, n2, rfl⟩; (have HN2 := Lib.hid hn2); (have HS2 := Lib.hid hs2); (have HP2 := Lib.hid hp2); clear hn2 hs2 hp2)
          | (go_at_call 16; refine (HAP.out _ _ _ _ (HN2.out.grew (by repeat (first | with_reducible exact Grew.refl _ | apply Grew.more | apply Grew.alloc | apply Grew.drew | apply Grew.drewN))) HS2.out HP2.out (HW.out.at.grew (by repeat (first | with_reducible exact Grew.refl _ | apply Grew.more | apply Grew.alloc | apply Grew.drew | apply Grew.drewN)))).mono ?_; rintro e w3 ⟨⟨R3, n3, rfl⟩, ⟨h0, -⟩ | ⟨-, v3, rfl⟩⟩; exact absurd rfl h0)
          | (at_builtin; go_loud (obtain ⟨q2, ho2, hr2⟩ := B3.out; (have hl2 := Rel.len hr2); refine wpList_ownK (w0 := w0) rfl (.tmp 54) (.tmp 56) 23 _ _ _ _ [(pa, pn, pc)] rfl Tryz.underlying23 infoSl rfl (by decide) encSl_len encSl_one rfl (OwnAt.grew (OwnAt.low ho2 H.out.g.below.size) (by repeat (first | with_reducible exact Grew.refl _ | apply Grew.more | apply Grew.alloc | apply Grew.drew | apply Grew.drewN))) (HS.out.g.trans (by repeat (first | with_reducible exact Grew.refl _ | apply Grew.more | apply Grew.alloc | apply Grew.drew | apply Grew.drewN))) rfl (sl_at _ _ _ _ rfl (by simp [go_sem])) (by have := HBL.out; have := HK.out; have := HN9.out; simp; omega) (by decide) (by simp) ?_); intro v7 W7 hA; obtain ⟨b9, c9, rfl⟩ := own_some' hA.2.1 (by simp); (have b7 := app_blk (W := wa) hA (by repeat (first | with_reducible exact Grew.refl _ | apply Grew.more | apply Grew.alloc | apply Grew.drew | apply Grew.drewN)) B1.out (ho2.other B1.out (by decide))); (have hL7 := Leaves.app (T := [35]) (W := wa) (Leaves.grew (by repeat (first | with_reducible exact Grew.refl _ | apply Grew.more | apply Grew.alloc | apply Grew.drew | apply Grew.drewN))) (OwnAt.grew (OwnAt.low ho2 H.out.g.below.size) (by repeat (first | with_reducible exact Grew.refl _ | apply Grew.more | apply Grew.alloc | apply Grew.drew | apply Grew.drewN))) hA (by simp)); (have HL7 := Lib.hid hL7); (have HO7 : Hid (OwnAt W.heap.size 35 1 encSl W7 _ _) := Lib.hid (OwnAt.high hA.2.1 fun q hq => (hA.2.2.2.2 q hq).elim (fun h => OwnAt.lt ho2 q h) (fun h => Nat.le_trans (Nat.le_trans HS.out.s (Grew.below (by repeat (first | with_reducible exact Grew.refl _ | apply Grew.more | apply Grew.alloc | apply Grew.drew | apply Grew.drewN) : Grew wa _)).size) h))); (have HD7 : Hid (Keep z W W7) := Lib.hid ⟨Nat.le_trans HS.out.s (Nat.le_trans (Grew.below (by repeat (first | with_reducible exact Grew.refl _ | apply Grew.more | apply Grew.alloc | apply Grew.drew | apply Grew.drewN) : Grew wa _)).size hA.2.2.1), fun q hq hn => ((hA.2.2.2.1 q (Nat.lt_of_lt_of_le hq (Nat.le_trans HS.out.s (Grew.below (by repeat (first | with_reducible exact Grew.refl _ | apply Grew.more | apply Grew.alloc | apply Grew.drew | apply Grew.drewN) : Grew wa _)).size)) (fun e => absurd (OwnAt.lt ho2 q e) (by omega))).trans ((Grew.below (by repeat (first | with_reducible exact Grew.refl _ | apply Grew.more | apply Grew.alloc | apply Grew.drew | apply Grew.drewN) : Grew wa _)).block q (Nat.lt_of_lt_of_le hq HS.out.s))).trans (HS.out.old.2 q hq hn)⟩); (have HG7 := Lib.hid hA.1); (have HZ7 := Lib.hid (Nat.le_trans (Nat.le_trans HS.out.s (Grew.below (by repeat (first | with_reducible exact Grew.refl _ | apply Grew.more | apply Grew.alloc | apply Grew.drew | apply Grew.drewN) : Grew wa _)).size) hA.2.2.1)); (have HR7 := Lib.hid hr2); (have B7 := Lib.hid b7); (have c7 := cell_of (o := 3) b7); (have f7 := frozen_of (o := 3) b7); (have p7 := Pre.mk (heap_lt b7)); simp at c7; clear hA b7 ho2 hr2 hl2 hL7))
        have e7 := set_blk (o := 3) (v := .slice (some ⟨b9, 0, none⟩) (q2.length + 1) c9) B7.out rfl
        have hl7 : Leaves [87] W7 (W7.setCell ⟨z, 3, none⟩ (.slice (some ⟨b9, 0, none⟩) (q2.length + 1) c9)) := (Leaves.refl _ _).set B7.out (by simp)
        have hT1 : NoData [87] := by simp [NoData]
        have hT2 : NoData [35] := by simp [NoData]
        have ho := HO7.out
        rw [List.length_append] at ho
        have hst : WithSt w0 W (W7.setCell ⟨z, 3, none⟩ (.slice (some ⟨b9, 0, none⟩) (q2.length + 1) c9)) z bk lg ms m bk1 uv pl last (ref + (((i + (k + 1) : Nat) : Int) - (bk1.length : Nat))) := by
          rw [HBK.out, show ref + (((i + (k + 1) : Nat) : Int) - ((bk0 ++ [p]).length : Nat)) = rv by have := HRV.out; rw [List.length_append, List.length_cons, List.length_nil]; omega]
          exact ⟨⟨_, _, e7, (B2.out.leaves HL7.out hT2 (by simp)).leaves hl7 hT1 (by simp), _, hl7.own ho (by decide), Rel.snoc (Rel.mono (fun _ _ q => ⟨(q.1.leaves HL7.out hT2).leaves hl7 hT1, q.2⟩) HR7.out) ⟨(HW.out.leaves HL7.out hT2).leaves hl7 hT1, HSM.out⟩⟩, HD7.out.trans ⟨by simp [World.size_setCell], fun q hq hn => set_other fun e => hn e.symm⟩, HS.out.l.trans ((HL7.out.mono (by simp)).trans (hl7.mono (by simp))), HG7.out.set H.out.z0 _, by rw [World.size_setCell]; exact HZ7.out⟩
        go_roundg (no - (k + 1))
        case measure => omega
        case rel => exact ⟨k + 1, by omega, by omega, by go_num, by rw [HB1.out]; exact Lib.hid (hst.grew (by repeat (first | with_reducible exact Grew.refl _ | apply Grew.more | apply Grew.alloc | apply Grew.drew | apply Grew.drewN)))⟩
    · obtain rfl : k = no := by omega
      have hno := HNO.out
      have hst := HS.out
      rw [← hno, Gr.back_all] at hst
      have HST := Lib.hid hst
      have HNB := Lib.hid (Gr.back_len (chk := checkR) m.graph ps i (ps.length - (i + 1)))
      rw [Gr.back_all] at HNB
      clear hno hst HS
      go_wp2
      refine bodyPost_end (v := .tuple #[]) (results_none rfl _ _ _) rfl ⟨rfl, ?_, HST.out.old⟩
      obtain ⟨hv2, qv2, b1, b2, q2, b3, b4⟩ := HST.out.blk
      rw [show ref + (((i + (ps.length - (i + 1)) : Nat) : Int) - ((Gr.backQ checkR m.graph ps i).length : Nat)) = ref + ((ps.length : Int) - 1 - (Gr.backQ checkR m.graph ps i).length) by have := HI.out; omega] at b1
      exact ⟨⟨hv2, qv2, b1, b2, q2, OwnAt.low b3 H.out.g.below.size, b4⟩, H.out.ok, by have := HNB.out; have := HI.out; have := HN9.out; omega, H.out.z0, HST.out.g⟩
end Go.Proofs.YtpbohimddmploaaGreat
