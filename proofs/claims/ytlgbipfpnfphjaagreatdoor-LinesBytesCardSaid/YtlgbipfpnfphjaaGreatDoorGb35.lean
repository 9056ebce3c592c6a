import Derived.Test.YtlgbipfpnfphjaaGreatDoorGb30
import Derived.Test.YtlgbipfpnfphjaaGreatDoorGb34
import Derived.BigRegion
/-! lines: parseStep, ParsePlan. -/
namespace Go.Proofs.YtlgbipfpnfphjaaGreatDoor
set_option linter.unusedSimpArgs false
set_option linter.unusedVariables false
open Go.RowKit Ga
set_option maxRecDepth 100000

def StGives (s : Gr.Stp) (w : World) (e : Ending) (w' : World) : Prop := ∃ c : StC, e = .returned (.agg #[.int .i64 c.kind, .int .i64 c.c.id, .int .i64 c.c.kind, .slice c.c.af c.c.nf c.c.cf, .slice c.c.ap c.c.np c.c.cp, .int .i64 c.c.par, .int .i64 c.c.r0, .int .i64 c.c.r1, .int .i64 c.c.r2, .int .i64 c.c.r3, .int .i64 c.c.r4, .int .i64 c.c.r5, .int .i64 c.c.r6, .int .i64 c.c.r7, .bool c.reset]) ∧ StepIs w' c s ∧ OwnsNd w.heap.size w' c.c s.nd ∧ Grew w w'
theorem st_mk {base : Nat} {W : World} {k : Int} {c : NdC} {n : Gr.Nd} {r : Bool} (h : NodeIs W c n ∧ OwnsNd base W c n) : StepIs W ⟨k, c, r⟩ ⟨k, n, r⟩ ∧ OwnsNd base W (StC.mk k c r).c (Gr.Stp.mk k n r).nd := ⟨⟨rfl, h.1, rfl⟩, h.2⟩
theorem wordsP_len (s : List UInt8) : 1 ≤ (Li.wordsP s).1.length ∧ (Li.wordsP s).1.length ≤ s.length + 1 ∧ ∀ x ∈ (Li.wordsP s).1, x.length ≤ s.length := by
  obtain ⟨c1, c2⟩ := cut_len s Li.behind
  obtain ⟨h1, h2⟩ := split_len (Lib.cut s Li.behind).1 [32] (by decide)
  refine ⟨h1, Nat.le_trans h2 (by omega), fun x hx => Nat.le_trans (split_sub _ _ x hx) c1⟩
/-- what all the cases have ahead of the verbs -/
structure StepHead (s : List UInt8) (w : World) (v r : List UInt8) (ws : List (List UInt8)) (p : List Val) : Prop where
  cut : ∀ W, Grew w W → Calls Tryz.prog 64 #[.string ⟨s.toArray⟩, .string ⟨#[32]⟩] W (Gives (.tuple #[str v, str r, .bool (Lib.cut s [32]).2.2]) W)
  words : ∀ W, Grew w W → Calls Tryz.prog 84 #[.string ⟨r.toArray⟩] W (fun e w' => ∃ v1 v2, e = .returned (.tuple #[v1, v2]) ∧ OwnAt W.heap.size 9 1 encS w' v1 ws ∧ OwnAt W.heap.size 124 2 encI w' v2 p ∧ Grew W w')
  h1 : 1 ≤ ws.length
  h2 : ws.length ≤ 100001
  h3 : ∀ x ∈ ws, x.length ≤ 100000
  env : Env27 w
theorem step_head (s : List UInt8) (hs : s.length ≤ 100000) (w : World) (hV : Env27 w) : StepHead s w (Lib.cut s [32]).1 (Lib.cut s [32]).2.1 (Li.wordsP (Lib.cut s [32]).2.1).1 (Li.wordsP (Lib.cut s [32]).2.1).2 := by
  obtain ⟨c1, c2⟩ := cut_len s [32]
  obtain ⟨w1, w2, w3⟩ := wordsP_len (Lib.cut s [32]).2.1
  exact ⟨fun W q => cut_any s [32] (by omega) W (hV.m.grew q), fun W q => words_any _ (by omega) W (hV.grew q), w1, by omega, fun x hx => Nat.le_trans (w3 x hx) (by omega), hV⟩
/-- all that is not of type t is as it was -/
structure SwT (t : TypeId) (X Y : World) : Prop where
  sz : X.heap.size = Y.heap.size
  eq : ∀ (q : Nat) (cs : Array Value) (t' : TypeId), X.heap[q]? = some (.cells cs t') → t' ≠ t → Y.heap[q]? = X.heap[q]?
theorem SwT.refl (t : TypeId) (X : World) : SwT t X X := ⟨rfl, fun _ _ _ _ _ => rfl⟩
theorem SwT.more {t : TypeId} {X Y : World} (h : SwT t X Y) (R : Array Obj) (n m : Nat) : SwT t (X.more R n) (Y.more R m) := by
  refine ⟨by rw [World.more_size, World.more_size, h.sz], fun q cs t' hq ht => ?_⟩
  by_cases hl : q < X.heap.size
  · have h1 : (X.more R n).heap[q]? = X.heap[q]? := by simp [World.more, Array.getElem?_append, hl]
    have h2 : (Y.more R m).heap[q]? = Y.heap[q]? := by simp [World.more, Array.getElem?_append, h.sz ▸ hl]
    rw [h1] at hq
    rw [h1, h2]
    exact h.eq q cs t' hq ht
  · rw [heap_more_in X R n q (by omega), heap_more_in Y R m q (by have := h.sz; omega), h.sz]
theorem SwT.alloc {t : TypeId} {X Y : World} (h : SwT t X Y) (o : Obj) : SwT t (X.alloc o) (Y.alloc o) := by
  refine ⟨by rw [World.size_alloc, World.size_alloc, h.sz], fun q cs t' hq ht => ?_⟩
  by_cases hl : q = X.heap.size
  · subst hl
    rw [heap_new_at X o _ rfl, heap_new_at Y o _ h.sz]
  · have hlt : q < X.heap.size := by
      have := heap_lt hq
      rw [World.size_alloc] at this
      omega
    have hx : X.heap[q]? = some (.cells cs t') := by
      obtain ⟨x, hx⟩ : ∃ x, X.heap[q]? = some x := ⟨_, Array.getElem?_eq_getElem hlt⟩
      rw [heap_alloc' hx o] at hq
      rw [hx]; exact hq
    rw [heap_alloc' hx o, heap_alloc' ((h.eq q cs t' hx ht).trans hx) o]
theorem SwT.alloc2 {t : TypeId} {X Y : World} (h : SwT t X Y) (A A' : Array Value) : SwT t (X.alloc (.cells A t)) (Y.alloc (.cells A' t)) := by
  refine ⟨by rw [World.size_alloc, World.size_alloc, h.sz], fun q cs t' hq ht => ?_⟩
  by_cases hl : q = X.heap.size
  · subst hl
    rw [heap_new_at X _ _ rfl] at hq
    cases hq
    exact absurd rfl ht
  · have hlt : q < X.heap.size := by
      have := heap_lt hq
      rw [World.size_alloc] at this
      omega
    have hx : X.heap[q]? = some (.cells cs t') := by
      obtain ⟨x, hx⟩ : ∃ x, X.heap[q]? = some x := ⟨_, Array.getElem?_eq_getElem hlt⟩
      rw [heap_alloc' hx _] at hq
      rw [hx]; exact hq
    rw [heap_alloc' hx _, heap_alloc' ((h.eq q cs t' hx ht).trans hx) _]
theorem SwT.drew {t : TypeId} {X Y : World} (h : SwT t X Y) : SwT t X.drew Y.drew := ⟨h.sz, h.eq⟩
theorem OwnAt.sw {α : Type} {base : Nat} {e t : TypeId} {k : Nat} {enc : α → List Value} {W W' : World} {v : Value} {l : List α} (o : OwnAt base e k enc W v l) (h : SwT t W W') (ht : e ≠ t) : OwnAt base e k enc W' v l := OwnAt.same o fun b hb => by
  obtain ⟨h1, cs, h2⟩ := OwnAt.block o hb
  exact h.eq b cs _ h2 ht
theorem OwnsNd.sw {base : Nat} {W W' : World} {c : NdC} {n : Gr.Nd} (o : OwnsNd base W c n) (h : SwT 51 W W') : OwnsNd base W' c n := ⟨OwnAt.sw o.1 h (by decide), OwnAt.sw o.2 h (by decide)⟩
theorem HW0L (ws : List (List UInt8)) (h1 : 1 ≤ ws.length) (h3 : ∀ x ∈ ws, x.length ≤ 100000) : (ws.getD 0 []).length ≤ 1000000 := by
  cases ws with
  | nil => simp at h1
  | cons a r => exact Nat.le_trans (h3 a (by simp)) (by decide)
theorem getD_zero {α : Type} (ws : List α) (d : α) (h : 0 < ws.length) : ws[0] = ws.getD 0 d := by
  cases ws with
  | nil => simp at h
  | cons => rfl
end Go.Proofs.YtlgbipfpnfphjaaGreatDoor

/-! lines.parseStep: cases. -/
namespace Go.Proofs.YtlgbipfpnfphjaaGreatDoor
set_option linter.unusedSimpArgs false
set_option linter.unusedVariables false
open Go.RowKit Ga
set_option maxRecDepth 100000

set_option maxHeartbeats 16000000 in
theorem pstep_swap (s : List UInt8) (w : World) (r a bb : List UInt8) (p : List Val) (h : StepHead s w Li.sSWAP r [a, bb] p) : Calls Tryz.prog 36 #[.string ⟨s.toArray⟩] w (StGives ⟨1, ⟨Co.atoiVal a, 0, [], p, 0, Gr.zeros⟩, bb == Li.sRESET⟩ w) := by
  have HC := Lib.hid h.cut
  have HW := Lib.hid h.words
  have HNE : Hid (([a, bb] : List (List UInt8)) ≠ []) := Lib.hid (by have := h.h1; intro e; rw [e] at this; simp at this)
  have HAT := Lib.hid fun W (q : Grew w W) => atoiL_any (([a, bb] : List (List UInt8)).getD 0 []) (HW0L ([a, bb] : List (List UInt8)) h.h1 h.h3) W (h.env.e.grew q)
  have hra := Co.atoiVal_range (([a, bb] : List (List UInt8)).getD 0 [])
  simp only [List.getD_cons_zero] at HAT hra
  clear h
  generalize Co.atoiVal a = ia at *
  generalize (Lib.cut s [32]).2.2 = cm at *
  go_enter Tryz.func36, Tryz.ntmps36
  go_wp2_with (first
    | (go_at_call 64; refine (HC.out _ (by repeat (first | with_reducible exact Grew.refl _ | apply Grew.more | apply Grew.alloc | apply Grew.drew | apply Grew.drewN))).mono ?_; rintro e w1 ⟨rfl, RA, nA, rfl⟩)
    | (go_at_call 84; refine (HW.out _ (by repeat (first | with_reducible exact Grew.refl _ | apply Grew.more | apply Grew.alloc | apply Grew.drew | apply Grew.drewN))).mono ?_; rintro e w1 ⟨v1, v2, rfl, hv1, hv2, RB, nB, rfl⟩; obtain ⟨ap, cp, rfl⟩ := (OwnAt.rows hv2 encI_len).len; (have HV1 := Lib.hid hv1); (have HV2 := Lib.hid hv2); obtain ⟨b, cap, rfl, hb, hc⟩ := strs_open hv1 HNE.out; (have s0 := hc 0 (by simp)); (have s1 := hc 1 (by simp)); simp at s0 s1; clear hc hv1 hv2)
    | (go_at_call 85; refine (HAT.out _ (by repeat (first | with_reducible exact Grew.refl _ | apply Grew.more | apply Grew.alloc | apply Grew.drew | apply Grew.drewN))).mono ?_; rintro e w1 ⟨v3, rfl, RC, nC, rfl⟩)
    | fail)
  have HOP := Lib.hid (OwnAt.low HV2.out (show w.heap.size ≤ _ by simp [World.more_size, World.size_alloc]; omega))
  have HOP2 : Hid (∀ A', OwnAt w.heap.size 124 2 encI (((w.alloc (.cells A' 51)).more RA nA).more RB nB) (.slice ap p.length cp) p) := Lib.hid fun A' => OwnAt.sw HOP.out (SwT.more (SwT.more (SwT.alloc2 (SwT.refl _ w) _ _) RA nA nA) RB nB nB) (by decide)
  clear HOP
  go_region
  go_wp2
  refine bodyPost_ret (v := .agg #[.int .i64 1, .int .i64 ia, .int .i64 0, .slice none 0 0, .slice ap p.length cp, .int .i64 0, .int .i64 0, .int .i64 0, .int .i64 0, .int .i64 0, .int .i64 0, .int .i64 0, .int .i64 0, .int .i64 0, .bool (bb == Li.sRESET)]) (by simp [results, Tryz.results36, go_sem, Li.sRESET]) rfl ⟨_, rfl, (st_mk (base := w.heap.size) (nd_mk (OwnAt.nil _) ((HOP2.out _).grew (by repeat (first | with_reducible exact Grew.refl _ | apply Grew.more | apply Grew.alloc | apply Grew.drew | apply Grew.drewN))) rfl)).1, (st_mk (base := w.heap.size) (nd_mk (OwnAt.nil _) ((HOP2.out _).grew (by repeat (first | with_reducible exact Grew.refl _ | apply Grew.more | apply Grew.alloc | apply Grew.drew | apply Grew.drewN))) rfl)).2, by repeat (first | with_reducible exact Grew.refl _ | apply Grew.more | apply Grew.alloc | apply Grew.drew | apply Grew.drewN)⟩
set_option maxHeartbeats 16000000 in
theorem pstep_add (s : List UInt8) (w : World) (r : List UInt8) (ws : List (List UInt8)) (p : List Val) (h : StepHead s w Li.sADD r ws p) : Calls Tryz.prog 36 #[.string ⟨s.toArray⟩] w (StGives ⟨2, Li.nodeP ws p, false⟩ w) := by
  have HC := Lib.hid h.cut
  have HW := Lib.hid h.words
  have HNE : Hid (ws ≠ []) := Lib.hid (by have := h.h1; intro e; rw [e] at this; simp at this)
  have HAT := Lib.hid fun W (q : Grew w W) => atoiL_any (ws.getD 0 []) (HW0L ws h.h1 h.h3) W (h.env.e.grew q)
  have hra := Co.atoiVal_range (ws.getD 0 [])
  have HPOS := Lib.hid (show 0 < ws.length by have := h.h1; omega)
  have HW0 := Lib.hid (getD_zero ws [] HPOS.out)
  have HND := Lib.hid fun W (q : Grew w W) v1 v2 (h1 : OwnAt w.heap.size 9 1 encS W v1 ws) (h2 : OwnAt w.heap.size 124 2 encI W v2 p) => lnode_any w.heap.size v1 v2 ws p h.h1 (by have := h.h2; omega) h.h3 W (h.env.grew q) h1 h2 q.below.size
  clear h
  generalize Li.nodeP ws p = n at *
  generalize ws.getD 0 [] = a0 at *
  generalize Co.atoiVal a0 = ia at *
  generalize (Lib.cut s [32]).2.2 = cm at *
  go_enter Tryz.func36, Tryz.ntmps36
  go_wp2_with (first
    | (go_at_call 64; refine (HC.out _ (by repeat (first | with_reducible exact Grew.refl _ | apply Grew.more | apply Grew.alloc | apply Grew.drew | apply Grew.drewN))).mono ?_; rintro e w1 ⟨rfl, RA, nA, rfl⟩)
    | (go_at_call 84; refine (HW.out _ (by repeat (first | with_reducible exact Grew.refl _ | apply Grew.more | apply Grew.alloc | apply Grew.drew | apply Grew.drewN))).mono ?_; rintro e w1 ⟨v1, v2, rfl, hv1, hv2, RB, nB, rfl⟩; obtain ⟨ap, cp, rfl⟩ := (OwnAt.rows hv2 encI_len).len; (have HV1 := Lib.hid hv1); (have HV2 := Lib.hid hv2); obtain ⟨b, cap, rfl, hb, hc⟩ := strs_open hv1 HNE.out; (have s0 := hc 0 HPOS.out); rw [HW0.out] at s0; clear hc hv1 hv2)
    | (go_at_call 85; refine (HAT.out _ (by repeat (first | with_reducible exact Grew.refl _ | apply Grew.more | apply Grew.alloc | apply Grew.drew | apply Grew.drewN))).mono ?_; rintro e w1 ⟨v3, rfl, RC, nC, rfl⟩)
    | (go_at_call 86; refine (HND.out _ (by repeat (first | with_reducible exact Grew.refl _ | apply Grew.more | apply Grew.alloc | apply Grew.drew | apply Grew.drewN)) _ _ ((OwnAt.low HV1.out (by simp [World.more_size, World.size_alloc]; omega)).grew (by repeat (first | with_reducible exact Grew.refl _ | apply Grew.more | apply Grew.alloc | apply Grew.drew | apply Grew.drewN))) ((OwnAt.low HV2.out (by simp [World.more_size, World.size_alloc]; omega)).grew (by repeat (first | with_reducible exact Grew.refl _ | apply Grew.more | apply Grew.alloc | apply Grew.drew | apply Grew.drewN)))).mono ?_; rintro e w5 ⟨c, rfl, hn, ho, RD, nD, rfl⟩; (have HN := Lib.hid hn); (have HO := Lib.hid ho); clear hn ho))
  refine bodyPost_ret (v := .agg #[.int .i64 2, .int .i64 c.id, .int .i64 c.kind, .slice c.af c.nf c.cf, .slice c.ap c.np c.cp, .int .i64 c.par, .int .i64 c.r0, .int .i64 c.r1, .int .i64 c.r2, .int .i64 c.r3, .int .i64 c.r4, .int .i64 c.r5, .int .i64 c.r6, .int .i64 c.r7, .bool false]) (by simp [results, Tryz.results36, go_sem]) rfl ⟨⟨2, c, false⟩, rfl, ⟨rfl, (OwnsNd.sw HO.out (by repeat (first | with_reducible exact SwT.refl _ _ | with_reducible apply SwT.more | with_reducible apply SwT.alloc2 | with_reducible apply SwT.alloc | with_reducible apply SwT.drew))).is HN.out, rfl⟩, OwnsNd.sw HO.out (by repeat (first | with_reducible exact SwT.refl _ _ | with_reducible apply SwT.more | with_reducible apply SwT.alloc2 | with_reducible apply SwT.alloc | with_reducible apply SwT.drew)), by repeat (first | with_reducible exact Grew.refl _ | apply Grew.more | apply Grew.alloc | apply Grew.drew | apply Grew.drewN)⟩
end Go.Proofs.YtlgbipfpnfphjaaGreatDoor
