import Derived.Test.YtekkkmkhnphlhaaGreatDoorGh37
import Derived.Test.YtekkkmkhnphlhaaGreatDoorGh38
import Derived.Test.YtekkkmkhnphlhaaGreatDoorGh5
import Derived.Test.YtekkkmkhnphlhaaGreatDoorGh29
import Derived.Test.YtekkkmkhnphlhaaGreatDoorGh25
/-! lines: parseStep, ParsePlan. -/
namespace Go.Proofs.YtekkkmkhnphlhaaGreatDoor
set_option linter.unusedSimpArgs false
set_option linter.unusedVariables false
open Go.RowKit Ga
set_option maxRecDepth 100000

def StGives (s : Gr.Stp) (w : World) (e : Ending) (w' : World) : Prop := ∃ c : StC, e = .returned (.agg #[.int .i64 c.kind, .int .i64 c.c.id, .int .i64 c.c.kind, .slice c.c.af c.c.nf c.c.cf, .slice c.c.ap c.c.np c.c.cp, .int .i64 c.c.par, .int .i64 c.c.r0, .int .i64 c.c.r1, .int .i64 c.c.r2, .int .i64 c.c.r3, .int .i64 c.c.r4, .int .i64 c.c.r5, .int .i64 c.c.r6, .int .i64 c.c.r7, .bool c.reset]) ∧ StepIs w' c s ∧ OwnsNd w.heap.size w' c.c s.nd ∧ Grew w w'
theorem st_mk {base : Nat} {W : World} {k : Int} {c : NdC} {n : Gr.Nd} {r : Bool} (h : NodeIs W c n ∧ OwnsNd base W c n) : StepIs W ⟨k, c, r⟩ ⟨k, n, r⟩ ∧ OwnsNd base W (StC.mk k c r).c (Gr.Stp.mk k n r).nd := ⟨⟨rfl, h.1, rfl⟩, h.2⟩
theorem wordsP_len (s : List UInt8) : 1 ≤ (Li.wordsP s).1.length ∧ (Li.wordsP s).1.length ≤ s.length + 1 ∧ ∀ x ∈ (Li.wordsP s).1, x.length ≤ s.length := by
  obtain ⟨c1, c2⟩ := cut_len s Li.behind
  obtain ⟨h1, h2⟩ := split_len (Lib.cut s Li.behind).1 [32] (by decide)
  refine ⟨h1, Nat.le_trans h2 (by omega), fun x hx => Nat.le_trans (split_sub _ _ x hx) c1⟩
/-- what all the cases have ahead of the verbs -/
structure StepHead (s : List UInt8) (w : World) (v r : List UInt8) (ws : List (List UInt8)) (p : List Val) : Prop where
  cut : ∀ W, Grew w W → Calls Tryz.prog 80 #[.string ⟨s.toArray⟩, .string ⟨#[32]⟩] W (Gives (.tuple #[str v, str r, .bool (Lib.cut s [32]).2.2]) W)
  words : ∀ W, Grew w W → Calls Tryz.prog 111 #[.string ⟨r.toArray⟩] W (fun e w' => ∃ v1 v2, e = .returned (.tuple #[v1, v2]) ∧ OwnAt W.heap.size 9 1 encS w' v1 ws ∧ OwnAt W.heap.size 142 2 encI w' v2 p ∧ Grew W w')
  h1 : 1 ≤ ws.length
  h2 : ws.length ≤ 100001
  h3 : ∀ x ∈ ws, x.length ≤ 100000
  env : Env27 w
theorem step_head (s : List UInt8) (hs : s.length ≤ 100000) (w : World) (hV : Env27 w) : StepHead s w (Lib.cut s [32]).1 (Lib.cut s [32]).2.1 (Li.wordsP (Lib.cut s [32]).2.1).1 (Li.wordsP (Lib.cut s [32]).2.1).2 := by
  obtain ⟨c1, c2⟩ := cut_len s [32]
  obtain ⟨w1, w2, w3⟩ := wordsP_len (Lib.cut s [32]).2.1
  exact ⟨fun W q => cut_any s [32] (by omega) W (hV.m.grew q), fun W q => words_any _ (by omega) W (hV.grew q), w1, by omega, fun x hx => Nat.le_trans (w3 x hx) (by omega), hV⟩
/-- all that is not of type t is as it was -/
structure SwT (t : TypeId) (X Y : World) : Prop where
  sz : X.heap.size = Y.heap.size
  eq : ∀ (q : Nat) (cs : Array Value) (t' : TypeId), X.heap[q]? = some (.cells cs t') → t' ≠ t → Y.heap[q]? = X.heap[q]?
theorem SwT.refl (t : TypeId) (X : World) : SwT t X X := ⟨rfl, fun _ _ _ _ _ => rfl⟩
theorem SwT.more {t : TypeId} {X Y : World} (h : SwT t X Y) (R : Array Obj) (n m : Nat) : SwT t (X.more R n) (Y.more R m) := by
  refine ⟨by rw [World.more_size, World.more_size, h.sz], fun q cs t' hq ht => ?_⟩
  by_cases hl : q < X.heap.size
  · have h1 : (X.more R n).heap[q]? = X.heap[q]? := by simp [World.more, Array.getElem?_append, hl]
    have h2 : (Y.more R m).heap[q]? = Y.heap[q]? := by simp [World.more, Array.getElem?_append, h.sz ▸ hl]
    rw [h1] at hq
    rw [h1, h2]
    exact h.eq q cs t' hq ht
  · rw [heap_more_in X R n q (by omega), heap_more_in Y R m q (by have := h.sz; omega), h.sz]
theorem SwT.alloc {t : TypeId} {X Y : World} (h : SwT t X Y) (o : Obj) : SwT t (X.alloc o) (Y.alloc o) := by
  refine ⟨by rw [World.size_alloc, World.size_alloc, h.sz], fun q cs t' hq ht => ?_⟩
  by_cases hl : q = X.heap.size
  · subst hl
    rw [heap_new_at X o _ rfl, heap_new_at Y o _ h.sz]
  · have hlt : q < X.heap.size := by
      have := heap_lt hq
      rw [World.size_alloc] at this
      omega
    have hx : X.heap[q]? = some (.cells cs t') := by
      obtain ⟨x, hx⟩ : ∃ x, X.heap[q]? = some x := ⟨_, Array.getElem?_eq_getElem hlt⟩
      rw [heap_alloc' hx o] at hq
      rw [hx]; exact hq
    rw [heap_alloc' hx o, heap_alloc' ((h.eq q cs t' hx ht).trans hx) o]
theorem SwT.alloc2 {t : TypeId} {X Y : World} (h : SwT t X Y) (A A' : Array Value) : SwT t (X.alloc (.cells A t)) (Y.alloc (.cells A' t)) := by
  refine ⟨by rw [World.size_alloc, World.size_alloc, h.sz], fun q cs t' hq ht => ?_⟩
  by_cases hl : q = X.heap.size
  · subst hl
    rw [heap_new_at X _ _ rfl] at hq
    cases hq
    exact absurd rfl ht
  · have hlt : q < X.heap.size := by
      have := heap_lt hq
      rw [World.size_alloc] at this
      omega
    have hx : X.heap[q]? = some (.cells cs t') := by
      obtain ⟨x, hx⟩ : ∃ x, X.heap[q]? = some x := ⟨_, Array.getElem?_eq_getElem hlt⟩
      rw [heap_alloc' hx _] at hq
      rw [hx]; exact hq
    rw [heap_alloc' hx _, heap_alloc' ((h.eq q cs t' hx ht).trans hx) _]
theorem SwT.drew {t : TypeId} {X Y : World} (h : SwT t X Y) : SwT t X.drew Y.drew := ⟨h.sz, h.eq⟩
theorem OwnAt.sw {α : Type} {base : Nat} {e t : TypeId} {k : Nat} {enc : α → List Value} {W W' : World} {v : Value} {l : List α} (o : OwnAt base e k enc W v l) (h : SwT t W W') (ht : e ≠ t) : OwnAt base e k enc W' v l := OwnAt.same o fun b hb => by
  obtain ⟨h1, cs, h2⟩ := OwnAt.block o hb
  exact h.eq b cs _ h2 ht
theorem OwnsNd.sw {base : Nat} {W W' : World} {c : NdC} {n : Gr.Nd} (o : OwnsNd base W c n) (h : SwT 62 W W') : OwnsNd base W' c n := ⟨OwnAt.sw o.1 h (by decide), OwnAt.sw o.2 h (by decide)⟩
theorem HW0L (ws : List (List UInt8)) (h1 : 1 ≤ ws.length) (h3 : ∀ x ∈ ws, x.length ≤ 100000) : (ws.getD 0 []).length ≤ 1000000 := by
  cases ws with
  | nil => simp at h1
  | cons a r => exact Nat.le_trans (h3 a (by simp)) (by decide)
theorem getD_zero {α : Type} (ws : List α) (d : α) (h : 0 < ws.length) : ws[0] = ws.getD 0 d := by
  cases ws with
  | nil => simp at h
  | cons => rfl
end Go.Proofs.YtekkkmkhnphlhaaGreatDoor

/-! lines: Graph, ParseNode, ParseGraph. -/
namespace Go.Proofs.YtekkkmkhnphlhaaGreatDoor
set_option linter.unusedSimpArgs false
set_option linter.unusedVariables false
open Go.RowKit Ga
set_option maxRecDepth 100000

theorem lines_len : ∀ (l : List Gr.Nd), (∀ n ∈ l, n.route.length = 8) → (Li.linesT l).length ≤ 1201 * l.length
  | [], _ => by simp [Li.linesT]
  | n :: l, h => by
    have h1 := nodeT_len n (h n (by simp))
    have h2 := lines_len l fun m hm => h m (List.mem_cons_of_mem _ hm)
    have e : Li.linesT (n :: l) = Li.lineN n ++ Li.linesT l := rfl
    rw [e, List.length_append]
    unfold Li.lineN
    simp only [List.length_append, List.length_cons, List.length_nil]
    omega
theorem lines_snoc (l : List Gr.Nd) (k : Nat) (h : k < l.length) : Li.linesT (l.take (k + 1)) = Li.linesT (l.take k) ++ (Li.nodeT l[k] ++ [10]) := by
  unfold Li.linesT
  rw [List.take_succ_eq_append_getElem h, List.flatMap_append]
  simp [Li.lineN]
theorem NodesAt.r8' {w : World} {v : Value} {l : List Gr.Nd} (h : NodesAt w v l) : ∀ n ∈ l, n.route.length = 8 := by
  intro n hn
  obtain ⟨i, hi, rfl⟩ := List.mem_iff_getElem.1 hn
  obtain ⟨a, cap, -, -, hx⟩ := h.openC
  obtain ⟨b, off, c, -, -, hs, -⟩ := hx i hi
  rw [hs.route]
  rfl
theorem graphT_some {l : List Gr.Nd} (h : Gr.RightR l) : Li.graphT l = Li.linesT (Gr.normG l) := by unfold Li.graphT; exact if_pos h
theorem graphT_none {l : List Gr.Nd} (h : ¬ Gr.RightR l) : Li.graphT l = [] := by unfold Li.graphT; exact if_neg h
set_option maxHeartbeats 16000000 in
theorem graphText_any (v : Value) (l : List Gr.Nd) (w : World) (hP : Pow w) (hA : Asc w) (hv : NodesAt w v l) (hs : Small l) : Calls Tryz.prog 16 #[v] w (Gives (str (Li.graphT l)) w) := by
  have HV := Lib.hid hv
  have HP := Lib.hid hP
  have HA := Lib.hid hA
  have HCK := Lib.hid fun W (q : Grew w W) => check_graph v l W (hv.grew q) hs
  obtain ⟨a, cap, rfl, hm, -⟩ := hv.openC
  by_cases hr : Gr.RightR l
  case neg =>
    have hc : (checkR l != 0) = true := by
      by_cases h8 : l.length ≤ 8
      · rw [checkR_bad h8 hr]; rfl
      · rw [checkR_long (by omega)]; rfl
    rw [graphT_none hr]
    generalize checkR l = ck at *
    clear hP hA hv hs hr
    go_enter Tryz.func16, Tryz.ntmps16
    go_wp2_with (go_at_call 42; refine (HCK.out _ (by repeat (first | with_reducible exact Grew.refl _ | apply Grew.more | apply Grew.alloc | apply Grew.drew | apply Grew.drewN))).mono ?_; rintro e w1 ⟨rfl, R1, n1, rfl⟩)
    go_ret
    exact ⟨rfl, by repeat (first | with_reducible exact Grew.refl _ | apply Grew.more | apply Grew.alloc | apply Grew.drew | apply Grew.drewN)⟩
  have h8 := hr.len
  rw [checkR_ok h8 hr] at HCK
  have HNM := Lib.hid fun W (q : Grew w W) => norm_any (.slice a l.length cap) l W (hv.grew q) hs (by omega)
  have HUN := Lib.hid fun (l' : List Gr.Nd) (h3 : l'.Perm l) (h4 : l'.Pairwise fun a b => a.id ≤ b.id) => Gr.norm_unique h3 h4 hr.ids hr.r7
  rw [graphT_some hr]
  have hnl : (Gr.normG l).length = l.length := (Gr.same_norm hr).1
  clear hP hA hv hs hr
  generalize Gr.normG l = g at *
  go_enter Tryz.func16, Tryz.ntmps16
  go_wp2_with (first
    | (go_at_call 42; refine (HCK.out _ (by repeat (first | with_reducible exact Grew.refl _ | apply Grew.more | apply Grew.alloc | apply Grew.drew | apply Grew.drewN))).mono ?_; rintro e w1 ⟨rfl, R1, n1, rfl⟩)
    | (go_at_call 43; refine (HNM.out _ (by repeat (first | with_reducible exact Grew.refl _ | apply Grew.more | apply Grew.alloc | apply Grew.drew | apply Grew.drewN))).mono ?_; rintro e w1 ⟨v1, lc, l', rfl, h1, h2, h3, h4, R2, n2, rfl⟩; obtain rfl := HUN.out l' h3 h4; (have HG := Lib.hid (h2.at h1)); obtain ⟨a1, c1, rfl, hm1, -⟩ := (h2.at h1).openC; clear h1 h2 h3 h4))
  have HR8 := Lib.hid HG.out.r8'
  have hgw : Hid (Grew w ((w.more R1 n1).more R2 n2)) := Lib.hid (by repeat (first | with_reducible exact Grew.refl _ | apply Grew.more | apply Grew.alloc | apply Grew.drew | apply Grew.drewN))
  generalize (w.more R1 n1).more R2 n2 = w1 at *
  go_loopg [3, 12] l'.length (fun gg s3 s12 wr => ∃ k : Nat, k ≤ l'.length ∧ l'.length - k ≤ gg ∧ s12 = .int .i64 k ∧ s3 = str (Li.linesT (l'.take k)) ∧ Hid (Grew w1 wr))
  case atStart => exact ⟨0, by omega, by omega, rfl, rfl, Lib.hid (Grew.refl _)⟩
  case round =>
    obtain ⟨k, hk, hgg, rfl, rfl, HGR⟩ := hrel
    rename World => wa
    by_cases hlt : k < l'.length
    · obtain ⟨a', cap', e, -, hx⟩ := (HG.out.grew HGR.out).openC
      cases e
      obtain ⟨b, off, c, rfl, hb, hsn, g0, g1, g2, g3, g4, g5, g6, g7, g8, g9, g10, g11, g12⟩ := hx k hlt
      have HT := Lib.hid (lines_snoc l' k hlt)
      have hr8 := HR8.out
      have hll : (Li.linesT (l'.take k)).length ≤ 10000 := by
        have := lines_len (l'.take k) fun n hn => hr8 n (List.mem_of_mem_take hn)
        have h2 : (l'.take k).length ≤ 8 := by rw [List.length_take]; omega
        omega
      have hnl2 := nodeT_len _ (hr8 _ (List.getElem_mem hlt))
      clear hx hr8
      generalize l'[k] = y at *
      have HN := Lib.hid fun W (q : Grew wa W) => nodeText_any c y W (HP.out.grew ((hgw.out.trans HGR.out).trans q)) (HA.out.grew ((hgw.out.trans HGR.out).trans q)) (hsn.grew q)
      clear hsn
      generalize Li.nodeT y = nt at *
      generalize Li.linesT (l'.take k) = lt at *
      go_wp2_with (go_at_call 44; refine (HN.out _ (by repeat (first | with_reducible exact Grew.refl _ | apply Grew.more | apply Grew.alloc | apply Grew.drew | apply Grew.drewN))).mono ?_; rintro e w2 ⟨rfl, R3, n3, rfl⟩)
      go_roundg (l'.length - (k + 1))
      case measure => omega
      case rel => exact ⟨k + 1, by omega, by omega, by go_num, by rw [HT.out]; simp [str_cat], Lib.hid (HGR.out.trans (by repeat (first | with_reducible exact Grew.refl _ | apply Grew.more | apply Grew.alloc | apply Grew.drew | apply Grew.drewN)))⟩
    · obtain rfl : k = l'.length := by omega
      rw [List.take_length]
      go_wp2
      go_ret
      exact ⟨rfl, (hgw.out.trans HGR.out).trans (by repeat (first | with_reducible exact Grew.refl _ | apply Grew.more | apply Grew.alloc | apply Grew.drew | apply Grew.drewN))⟩
def PnGives (r : Gr.Nd × Int) (w : World) (e : Ending) (w' : World) : Prop := ∃ c : NdC, e = .returned (.tuple #[.agg #[.int .i64 c.id, .int .i64 c.kind, .slice c.af c.nf c.cf, .slice c.ap c.np c.cp, .int .i64 c.par, .int .i64 c.r0, .int .i64 c.r1, .int .i64 c.r2, .int .i64 c.r3, .int .i64 c.r4, .int .i64 c.r5, .int .i64 c.r6, .int .i64 c.r7], .int .i64 r.2]) ∧ NodeIs w' c r.1 ∧ OwnsNd w.heap.size w' c r.1 ∧ Grew w w'
theorem parseN_ok {s : List UInt8} (h1 : s ≠ []) (h2 : Li.nodeT (Li.nodeP (Li.wordsP s).1 (Li.wordsP s).2) = s) : Li.parseN s = (Li.nodeP (Li.wordsP s).1 (Li.wordsP s).2, 0) := by unfold Li.parseN; exact if_pos ⟨h1, h2⟩
theorem parseN_no1 {s : List UInt8} (h1 : s = []) : Li.parseN s = (Li.node0, 4) := by unfold Li.parseN; exact if_neg (fun q => q.1 h1)
theorem parseN_no2 {s : List UInt8} (h2 : Li.nodeT (Li.nodeP (Li.wordsP s).1 (Li.wordsP s).2) ≠ s) : Li.parseN s = (Li.node0, 4) := by unfold Li.parseN; exact if_neg (fun q => h2 q.2)
theorem OwnsNd.swN {base : Nat} {W W' : World} {c : NdC} {n : Gr.Nd} (o : OwnsNd base W c n) (h : SwT 60 W W') : OwnsNd base W' c n := ⟨OwnAt.sw o.1 h (by decide), OwnAt.sw o.2 h (by decide)⟩
theorem nd_zero {base : Nat} {W : World} : NodeIs W ⟨0, 0, none, 0, 0, none, 0, 0, 0, 0, 0, 0, 0, 0, 0, 0, 0⟩ Li.node0 ∧ OwnsNd base W ⟨0, 0, none, 0, 0, none, 0, 0, 0, 0, 0, 0, 0, 0, 0, 0, 0⟩ Li.node0 := nd_mk (OwnAt.nil W) (OwnAt.nil W) rfl
set_option maxHeartbeats 16000000 in
theorem parseNode_any (s : List UInt8) (hs : s.length ≤ 100000) (w : World) (hV : Env27 w) : Calls Tryz.prog 51 #[.string ⟨s.toArray⟩] w (PnGives (Li.parseN s) w) := by
  have HW := Lib.hid fun W (q : Grew w W) => words_any s hs W (hV.grew q)
  obtain ⟨l1, l2, l3⟩ := wordsP_len s
  have HND := Lib.hid fun W (q : Grew w W) v1 v2 (h1 : OwnAt w.heap.size 9 1 encS W v1 (Li.wordsP s).1) (h2 : OwnAt w.heap.size 142 2 encI W v2 (Li.wordsP s).2) => lnode_any w.heap.size v1 v2 (Li.wordsP s).1 (Li.wordsP s).2 l1 (by omega) (fun x hx => Nat.le_trans (l3 x hx) hs) W (hV.grew q) h1 h2 q.below.size
  have HNT := Lib.hid fun W (q : Grew w W) c (h : NodeIs W c (Li.nodeP (Li.wordsP s).1 (Li.wordsP s).2)) => nodeText_any c _ W (hV.p.grew q) (hV.a.grew q) h
  have hcase : (s.isEmpty = true ∧ Li.parseN s = (Li.node0, 4)) ∨ (s.isEmpty = false ∧ Li.nodeT (Li.nodeP (Li.wordsP s).1 (Li.wordsP s).2) = s ∧ Li.parseN s = (Li.nodeP (Li.wordsP s).1 (Li.wordsP s).2, 0)) ∨ (s.isEmpty = false ∧ (Li.nodeT (Li.nodeP (Li.wordsP s).1 (Li.wordsP s).2) == s) = false ∧ Li.parseN s = (Li.node0, 4)) := by
    by_cases hse : s = []
    · exact .inl ⟨by rw [hse]; rfl, parseN_no1 hse⟩
    · have heb : s.isEmpty = false := by simpa using hse
      by_cases hq : Li.nodeT (Li.nodeP (Li.wordsP s).1 (Li.wordsP s).2) = s
      · exact .inr (.inl ⟨heb, hq, parseN_ok hse hq⟩)
      · exact .inr (.inr ⟨heb, beq_eq_false_iff_ne.2 hq, parseN_no2 hq⟩)
  clear hV l1 l2 l3
  generalize Li.parseN s = r at *
  generalize Li.nodeP (Li.wordsP s).1 (Li.wordsP s).2 = n at *
  generalize (Li.wordsP s).1 = ws at *
  generalize (Li.wordsP s).2 = p at *
  generalize Li.nodeT n = nt at *
  rcases hcase with ⟨h1, rfl⟩ | ⟨h1, rfl, rfl⟩ | ⟨h1, h2, rfl⟩
  all_goals
    go_enter Tryz.func51, Tryz.ntmps51
    go_wp2_with (first
      | (go_at_call 111; refine (HW.out _ (by repeat (first | with_reducible exact Grew.refl _ | apply Grew.more | apply Grew.alloc | apply Grew.drew | apply Grew.drewN))).mono ?_; rintro e w1 ⟨v1, v2, rfl, hv1, hv2, R1, n1, rfl⟩; (have HV1 := Lib.hid (OwnAt.low hv1 (show w.heap.size ≤ _ by simp [World.more_size, World.size_alloc]))); (have HV2 := Lib.hid (OwnAt.low hv2 (show w.heap.size ≤ _ by simp [World.more_size, World.size_alloc]))); clear hv1 hv2)
      | (go_at_call 112; refine (HND.out _ (by repeat (first | with_reducible exact Grew.refl _ | apply Grew.more | apply Grew.alloc | apply Grew.drew | apply Grew.drewN)) _ _ (HV1.out.grew (by repeat (first | with_reducible exact Grew.refl _ | apply Grew.more | apply Grew.alloc | apply Grew.drew | apply Grew.drewN))) (HV2.out.grew (by repeat (first | with_reducible exact Grew.refl _ | apply Grew.more | apply Grew.alloc | apply Grew.drew | apply Grew.drewN)))).mono ?_; rintro e w2 ⟨c, rfl, hn, ho, R2, n2, rfl⟩; (have HN := Lib.hid hn); (have HO := Lib.hid ho); clear hn ho)
      | (go_at_call 44; refine (HNT.out _ (by repeat (first | with_reducible exact Grew.refl _ | apply Grew.more | apply Grew.alloc | apply Grew.drew | apply Grew.drewN)) c (HN.out.grew (by repeat (first | with_reducible exact Grew.refl _ | apply Grew.more | apply Grew.alloc | apply Grew.drew | apply Grew.drewN)))).mono ?_; rintro e w3 ⟨rfl, R3, n3, rfl⟩))
  · refine bodyPost_ret (v := .tuple #[.agg #[.int .i64 0, .int .i64 0, .slice none 0 0, .slice none 0 0, .int .i64 0, .int .i64 0, .int .i64 0, .int .i64 0, .int .i64 0, .int .i64 0, .int .i64 0, .int .i64 0, .int .i64 0], .int .i64 4]) (by simp [results, Tryz.results51, go_sem]) rfl ⟨_, rfl, (nd_zero (base := w.heap.size)).1, (nd_zero (base := w.heap.size)).2, by repeat (first | with_reducible exact Grew.refl _ | apply Grew.more | apply Grew.alloc | apply Grew.drew | apply Grew.drewN)⟩
  · have HOP : ∀ A', OwnsNd w.heap.size (((w.alloc (.cells A' 60)).more R1 n1).more R2 n2) c n := fun A' => OwnsNd.swN HO.out (SwT.more (SwT.more (SwT.alloc2 (SwT.refl _ w) _ _) R1 n1 n1) R2 n2 n2)
    refine bodyPost_ret (v := .tuple #[.agg #[.int .i64 c.id, .int .i64 c.kind, .slice c.af c.nf c.cf, .slice c.ap c.np c.cp, .int .i64 c.par, .int .i64 c.r0, .int .i64 c.r1, .int .i64 c.r2, .int .i64 c.r3, .int .i64 c.r4, .int .i64 c.r5, .int .i64 c.r6, .int .i64 c.r7], .int .i64 0]) (by simp [results, Tryz.results51, go_sem]) rfl ⟨c, rfl, ?_, ?_, by repeat (first | with_reducible exact Grew.refl _ | apply Grew.more | apply Grew.alloc | apply Grew.drew | apply Grew.drewN)⟩
    · exact OwnsNd.is ((HOP _).grew (by repeat (first | with_reducible exact Grew.refl _ | apply Grew.more | apply Grew.alloc | apply Grew.drew | apply Grew.drewN))) HN.out
    · exact (HOP _).grew (by repeat (first | with_reducible exact Grew.refl _ | apply Grew.more | apply Grew.alloc | apply Grew.drew | apply Grew.drewN))
  · refine bodyPost_ret (v := .tuple #[.agg #[.int .i64 0, .int .i64 0, .slice none 0 0, .slice none 0 0, .int .i64 0, .int .i64 0, .int .i64 0, .int .i64 0, .int .i64 0, .int .i64 0, .int .i64 0, .int .i64 0, .int .i64 0], .int .i64 4]) (by simp [results, Tryz.results51, go_sem]) rfl ⟨_, rfl, (nd_zero (base := w.heap.size)).1, (nd_zero (base := w.heap.size)).2, by repeat (first | with_reducible exact Grew.refl _ | apply Grew.more | apply Grew.alloc | apply Grew.drew | apply Grew.drewN)⟩
end Go.Proofs.YtekkkmkhnphlhaaGreatDoor

/-! lines.ParseGraph of lines of nodes. -/
namespace Go.Proofs.YtekkkmkhnphlhaaGreatDoor
set_option linter.unusedSimpArgs false
set_option linter.unusedVariables false
open Go.RowKit Ga
set_option maxRecDepth 100000

theorem trim_one (j : List UInt8) : Lib.trimSuffix (j ++ [10]) [10] = j := by
  unfold Lib.trimSuffix Lib.hasSuffix
  simp
theorem lined_fit {l : List Gr.Nd} (h : Li.Lined l) : ∀ n ∈ l, n.frm.length ≤ 60 ∧ n.prog.length ≤ 24 := fun n hn => by
  have := fitN (Li.nodeT_ne (h n hn).2).1
  exact ⟨this.l60, (Co.fits_parts this.pr).1⟩
theorem lined_small {l : List Gr.Nd} (h : Li.Lined l) : Small l := fun n hn => by
  have := lined_fit h n hn
  omega
theorem nodes_app {w1 W3 W' : World} {v v' : Value} {lc : List NdC} {c : NdC} {l : List Gr.Nd} {y : Gr.Nd} (ho : NodesOwn w1.heap.size W3 v lc) (hn : NodesIn w1.heap.size W3 lc l) (h9 : NodeIs W3 c y) (o9 : OwnsNd w1.heap.size W3 c y) (hA : Appended w1 60 13 encNd W3 v (lc ++ [c]) v' W') : NodesIn w1.heap.size W' (lc ++ [c]) (l ++ [y]) := by
  have h5 : OwnsNd w1.heap.size W' c y := o9.to2 fun q cs t hq _ hne => hA.2.2.2.1 q (heap_lt hq) (OwnAt.other ho hq hne)
  exact Rel.snoc (hn.keep ho hA.2.2.2.1) ⟨h5.is h9, h5⟩
set_option maxHeartbeats 16000000 in
theorem parseGraph_lines (l : List Gr.Nd) (c0 : Int) (hl : Li.Lined l) (hne : l ≠ []) (h8 : l.length ≤ 8) (hc : (Li.graphT l = Li.linesT l ∧ c0 = 0) ∨ ((Li.graphT l == Li.linesT l) = false ∧ c0 = 4)) (w : World) (hV : Env27 w) : Calls Tryz.prog 20 #[.string ⟨(Li.linesT l).toArray⟩] w (fun e w' => ∃ v, e = .returned (.tuple #[v, .int .i64 c0]) ∧ Grew w w') := by
  have hll := lines_len l fun n hn => (hl n hn).1
  have hj := Li.linesT_join l hne
  have hjl : (Lib.join (l.map Li.nodeT) [10]).length ≤ 10000 := by
    have := congrArg List.length hj
    rw [List.length_append] at this
    omega
  have HTS := Lib.hid fun W => Tryz.strings_TrimSuffix ⟨(Li.linesT l).toArray⟩ ⟨#[10]⟩ W (by show (Li.linesT l).length ≤ _; omega)
  have e1 : (⟨(Lib.trimSuffix (⟨(Li.linesT l).toArray⟩ : ByteArray).data.toList (⟨#[10]⟩ : ByteArray).data.toList).toArray⟩ : ByteArray) = ⟨(Lib.join (l.map Li.nodeT) [10]).toArray⟩ := by
    show (⟨(Lib.trimSuffix (Li.linesT l) [10]).toArray⟩ : ByteArray) = _
    rw [hj, trim_one]
  rw [e1] at HTS
  have hsp : Lib.split (Lib.join (l.map Li.nodeT) [10]) [10] = l.map Li.nodeT := by
    rw [← Li.trim_lines hne]
    exact Li.split_lines hne
  have HS := Lib.hid fun W (q : Grew w W) => split_any (Lib.join (l.map Li.nodeT) [10]) [10] (by omega) (by decide) W (hV.m.grew q)
  rw [hsp] at HS
  have HV := Lib.hid hV
  have HL := Lib.hid hl
  have HGT := Lib.hid fun W (q : Grew w W) v (h : NodesAt W v l) => graphText_any v l W (hV.p.grew q) (hV.a.grew q) h (lined_small hl)
  have HMN := Lib.hid (show l.map Li.nodeT ≠ [] by simpa using hne)
  have hpos : 0 < l.length := List.length_pos_iff.2 hne
  have hml : (l.map Li.nodeT).length = l.length := by simp
  clear hV hl e1 hsp hj hjl hll hne
  generalize Lib.join (l.map Li.nodeT) [10] = jn at *
  generalize hlt0 : Li.linesT l = lt at *
  clear hlt0
  generalize Li.graphT l = gt at *
  go_enter Tryz.func20, Tryz.ntmps20
  go_wp2_with (first
    | (go_at_call 19; refine (HTS.out _).mono ?_; rintro e w1 ⟨rfl, hw1⟩; obtain rfl := hw1.symm)
    | (go_at_call 18; refine (HS.out _ (by repeat (first | with_reducible exact Grew.refl _ | apply Grew.more | apply Grew.alloc | apply Grew.drew | apply Grew.drewN))).mono ?_; rintro e w1 ⟨v1, rfl, hv1, R1, n1, rfl⟩; obtain ⟨bs, cs, rfl, hbs, hcs⟩ := strs_open hv1 HMN.out; (have HCS := Lib.hid hcs); clear hv1 hcs; rw [hml]))
  have hgw : Hid (Grew w (w.more R1 n1)) := Lib.hid (by repeat (first | with_reducible exact Grew.refl _ | apply Grew.more | apply Grew.alloc | apply Grew.drew | apply Grew.drewN))
  generalize w.more R1 n1 = w1 at *
  go_loopg [4, 13] l.length (fun gg s4 s13 wr => ∃ (k : Nat) (lc : List NdC), k ≤ l.length ∧ l.length - k ≤ gg ∧ s13 = .int .i64 k ∧ lc.length = k ∧ Hid (Grew w1 wr) ∧ Hid (NodesOwn w1.heap.size wr s4 lc) ∧ Hid (NodesIn w1.heap.size wr lc (l.take k)))
  case atStart => exact ⟨0, [], by omega, by omega, rfl, rfl, Lib.hid (Grew.refl _), Lib.hid (OwnAt.nil _), Lib.hid trivial⟩
  case round =>
    obtain ⟨k, lc, hk, hgg, rfl, hlc, HG, HO, HI⟩ := hrel
    rename World => wa
    by_cases hlt : k < l.length
    · have s0 := cell_grew (HCS.out k (by omega)) HG.out
      rw [List.getElem_map] at s0
      have p0 := Pre.ofCell s0
      have HT := Lib.hid (List.take_succ_eq_append_getElem hlt)
      have hmem := HL.out _ (List.getElem_mem hlt)
      have hnl := nodeT_len _ hmem.1
      have HPN0 := fun W (q : Grew w W) => parseNode_any (Li.nodeT l[k]) (by omega) W (HV.out.grew q)
      rw [Li.parseN_node hmem.1 hmem.2] at HPN0
      have HPN := Lib.hid HPN0
      clear HPN0 hmem
      generalize l[k] = y at *
      generalize Li.nodeT y = yt at *
      go_wp2_with (first
        | (go_at_call 51; refine (HPN.out _ ((hgw.out.trans HG.out).trans (by repeat (first | with_reducible exact Grew.refl _ | apply Grew.more | apply Grew.alloc | apply Grew.drew | apply Grew.drewN)))).mono ?_; rintro e w2 ⟨c, rfl, h9, o9, R2, n2, rfl⟩; (have H9 := Lib.hid h9); (have O9 := Lib.hid o9); clear h9 o9)
        | (at_builtin; go_loud (refine wpList_ownK (w0 := w1) rfl (.tmp 25) (.tmp 27) 43 _ _ _ _ [c] rfl Tryz.underlying43 infoNode rfl (by decide) encNd_len encNd_one rfl (OwnAt.grew HO.out (by repeat (first | with_reducible exact Grew.refl _ | apply Grew.more | apply Grew.alloc | apply Grew.drew | apply Grew.drewN))) (HG.out.trans (by repeat (first | with_reducible exact Grew.refl _ | apply Grew.more | apply Grew.alloc | apply Grew.drew | apply Grew.drewN))) rfl (nd_at _ _ _ _ rfl (by simp [go_sem])) (by simp; omega) (by decide) (by simp) ?_); intro v7 W7 hA; (have HA7 := Lib.hid hA); clear hA))
      go_roundg (l.length - (k + 1))
      case measure => omega
      case rel =>
        refine ⟨k + 1, lc ++ [c], by omega, by omega, by go_num, by simp [hlc], Lib.hid HA7.out.1, Lib.hid HA7.out.2.1, Lib.hid ?_⟩
        rw [HT.out]
        exact nodes_app (OwnAt.grew HO.out (by repeat (first | with_reducible exact Grew.refl _ | apply Grew.more | apply Grew.alloc | apply Grew.drew | apply Grew.drewN))) (HI.out.grew (by repeat (first | with_reducible exact Grew.refl _ | apply Grew.more | apply Grew.alloc | apply Grew.drew | apply Grew.drewN))) (H9.out.grew (by repeat (first | with_reducible exact Grew.refl _ | apply Grew.more | apply Grew.alloc | apply Grew.drew | apply Grew.drewN))) ((O9.out.low HG.out.below.size).grew (by repeat (first | with_reducible exact Grew.refl _ | apply Grew.more | apply Grew.alloc | apply Grew.drew | apply Grew.drewN))) HA7.out
    · obtain rfl : k = l.length := by omega
      have hi := HI.out
      rw [List.take_length] at hi
      have hst := hi.at HO.out
      have HST := Lib.hid hst
      obtain ⟨av, cv, hv9⟩ := (OwnAt.rows HO.out encNd_len).len
      subst hv9
      clear hi hst HI hlc
      rcases hc with ⟨rfl, rfl⟩ | ⟨hq, rfl⟩
      all_goals
        go_wp2_with (go_at_call 16; refine (HGT.out _ ((hgw.out.trans HG.out).trans (by repeat (first | with_reducible exact Grew.refl _ | apply Grew.more | apply Grew.alloc | apply Grew.drew | apply Grew.drewN))) _ (HST.out.grew (by repeat (first | with_reducible exact Grew.refl _ | apply Grew.more | apply Grew.alloc | apply Grew.drew | apply Grew.drewN)))).mono ?_; rintro e w2 ⟨rfl, R3, n3, rfl⟩)
        go_ret2
        exact ⟨_, rfl, (hgw.out.trans HG.out).trans (by repeat (first | with_reducible exact Grew.refl _ | apply Grew.more | apply Grew.alloc | apply Grew.drew | apply Grew.drewN))⟩
/-- a list of which the first k and the last k stand exchanged -/
def rvL (xs : List (List UInt8)) (k : Nat) : List (List UInt8) := (List.range xs.length).map fun i => if i < k ∨ xs.length - k ≤ i then xs.getD (xs.length - 1 - i) [] else xs.getD i []
theorem rvL_len (xs : List (List UInt8)) (k : Nat) : (rvL xs k).length = xs.length := by simp [rvL]
theorem rvL_get (xs : List (List UInt8)) (k i : Nat) (h : i < xs.length) : (rvL xs k)[i]'(by rw [rvL_len]; exact h) = if i < k ∨ xs.length - k ≤ i then xs.getD (xs.length - 1 - i) [] else xs.getD i [] := by simp [rvL]
theorem rvL_zero (xs : List (List UInt8)) : rvL xs 0 = xs := by
  refine List.ext_getElem (rvL_len xs 0) fun i h1 h2 => ?_
  rw [rvL_get xs 0 i h2, if_neg (by omega), List.getD_eq_getElem?_getD, List.getElem?_eq_getElem h2]
  rfl
theorem rvL_next (xs : List (List UInt8)) (k : Nat) (h : k < xs.length - 1 - k) : ((rvL xs k).set k (xs.getD (xs.length - 1 - k) [])).set (xs.length - 1 - k) (xs.getD k []) = rvL xs (k + 1) := by
  refine List.ext_getElem (by simp [rvL_len]) fun i h1 h2 => ?_
  have hi : i < xs.length := by rw [rvL_len] at h2; exact h2
  rw [rvL_get xs (k + 1) i hi, List.getElem_set, List.getElem_set]
  by_cases e1 : xs.length - 1 - k = i
  · rw [if_pos e1, if_pos (by omega)]
    congr 1
    omega
  · rw [if_neg e1]
    by_cases e2 : k = i
    · subst e2
      rw [if_pos rfl, if_pos (by omega)]
    · rw [if_neg e2, rvL_get xs k i hi]
      by_cases e3 : i < k ∨ xs.length - k ≤ i
      · rw [if_pos e3, if_pos (by omega)]
      · rw [if_neg e3, if_neg (by omega)]
theorem rvL_end (xs : List (List UInt8)) (k : Nat) (h : ¬ k < xs.length - 1 - k) (hk : k ≤ xs.length) : rvL xs k = xs.reverse := by
  refine List.ext_getElem (by simp [rvL_len]) fun i h1 h2 => ?_
  have hi : i < xs.length := by rw [rvL_len] at h1; exact h1
  rw [rvL_get xs k i hi, List.getElem_reverse]
  by_cases e3 : i < k ∨ xs.length - k ≤ i
  · rw [if_pos e3, List.getD_eq_getElem?_getD, List.getElem?_eq_getElem (by omega)]
    rfl
  · rw [if_neg e3, List.getD_eq_getElem?_getD, List.getElem?_eq_getElem hi]
    have : xs.length - 1 - i = i := by omega
    simp [this]
theorem flatS (l : List (List UInt8)) : l.flatMap encS = l.map fun x => Value.string ⟨x.toArray⟩ := by
  induction l with
  | nil => rfl
  | cons x l ih => rw [List.flatMap_cons, ih]; rfl
theorem OwnAt.setS {base : Nat} {e : TypeId} {w : World} {b n cap k : Nat} {l : List (List UInt8)} (h : OwnAt base e 1 encS w (.slice (some ⟨b, 0, none⟩) n cap) l) (hk : k < l.length) (x : List UInt8) : OwnAt base e 1 encS (w.setCell ⟨b, k, none⟩ (.string ⟨x.toArray⟩)) (.slice (some ⟨b, 0, none⟩) n cap) (l.set k x) := by
  obtain ⟨h1, h2⟩ := h
  refine ⟨by rw [flat_length encS_len, List.length_set], ?_⟩
  rcases h2 with ⟨h, _⟩ | ⟨g, cap', cur, hv, hb, hh, hc, hm, hs, ht⟩
  · cases h
  · cases hv
    refine .inr ⟨b, cap, cur.setIfInBounds k (.string ⟨x.toArray⟩), by rw [List.length_set], hb, set_self hh, by rw [List.length_set]; exact hc, hm, by rw [Array.size_setIfInBounds]; exact hs, ?_⟩
    rw [List.length_set, flatS, Array.toList_setIfInBounds, List.take_set, ht, flatS, List.map_set]
end Go.Proofs.YtekkkmkhnphlhaaGreatDoor
