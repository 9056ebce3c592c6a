import Derived.Test.YtangapokicnfgaaGreatMp26
import Derived.Test.YtangapokicnfgaaGreatMp7
import Derived.ScopeJumps
import Derived.Laws.EntriesVeiled
import Derived.Scope
import Derived.Tactics
/-! graph.Norm. -/
namespace Go.Proofs.YtangapokicnfgaaGreat
set_option linter.unusedSimpArgs false
set_option linter.unusedVariables false
open Go.RowKit Ga
set_option maxRecDepth 100000

/-- two lists, side by side -/
def Rel {α β : Type} (R : α → β → Prop) : List α → List β → Prop
  | [], [] => True
  | a :: xs, b :: ys => R a b ∧ Rel R xs ys
  | _, _ => False
theorem Rel.len {α β : Type} {R : α → β → Prop} : ∀ {xs : List α} {ys : List β}, Rel R xs ys → xs.length = ys.length
  | [], [], _ => rfl
  | a :: xs, b :: ys, h => by rw [List.length_cons, List.length_cons, Rel.len h.2]
  | [], _ :: _, h => h.elim
  | _ :: _, [], h => h.elim
theorem Rel.get {α β : Type} {R : α → β → Prop} : ∀ {xs : List α} {ys : List β}, Rel R xs ys → ∀ (i : Nat) (a : α) (b : β), xs[i]? = some a → ys[i]? = some b → R a b
  | [], [], _, i, a, b, h1, _ => by simp at h1
  | a :: xs, b :: ys, h, 0, x, y, h1, h2 => by simp at h1 h2; subst h1 h2; exact h.1
  | a :: xs, b :: ys, h, i + 1, x, y, h1, h2 => Rel.get h.2 i x y (by simpa using h1) (by simpa using h2)
  | [], _ :: _, h, _, _, _, _, _ => h.elim
  | _ :: _, [], h, _, _, _, _, _ => h.elim
theorem Rel.snoc {α β : Type} {R : α → β → Prop} : ∀ {xs : List α} {ys : List β}, Rel R xs ys → ∀ {a : α} {b : β}, R a b → Rel R (xs ++ [a]) (ys ++ [b])
  | [], [], _, a, b, h => ⟨h, trivial⟩
  | a :: xs, b :: ys, h, x, y, h2 => ⟨h.1, Rel.snoc h.2 h2⟩
  | [], _ :: _, h, _, _, _ => h.elim
  | _ :: _, [], h, _, _, _ => h.elim
theorem Rel.mono {α β : Type} {R S : α → β → Prop} (hm : ∀ a b, R a b → S a b) : ∀ {xs : List α} {ys : List β}, Rel R xs ys → Rel S xs ys
  | [], [], _ => trivial
  | a :: xs, b :: ys, h => ⟨hm a b h.1, Rel.mono hm h.2⟩
  | [], _ :: _, h => h.elim
  | _ :: _, [], h => h.elim
theorem Rel.perm {α β : Type} {R : α → β → Prop} {xs' xs : List α} (hp : xs'.Perm xs) : ∀ {ys : List β}, Rel R xs ys → ∃ ys', Rel R xs' ys' ∧ ys'.Perm ys := by
  induction hp with
  | nil => intro ys h; cases ys with
    | nil => exact ⟨[], trivial, List.Perm.refl _⟩
    | cons => exact h.elim
  | cons x _ ih => intro ys h; cases ys with
    | nil => exact h.elim
    | cons b ys =>
      obtain ⟨ys', h1, h2⟩ := ih h.2
      exact ⟨b :: ys', ⟨h.1, h1⟩, h2.cons b⟩
  | swap x y t => intro ys h; cases ys with
    | nil => exact h.elim
    | cons b ys => cases ys with
      | nil => exact h.2.elim
      | cons c ys => exact ⟨c :: b :: ys, ⟨h.2.1, h.1, h.2.2⟩, List.Perm.swap ..⟩
  | trans _ _ ih1 ih2 =>
    intro ys h
    obtain ⟨b2, h1, h2⟩ := ih2 h
    obtain ⟨b1, h3, h4⟩ := ih1 h1
    exact ⟨b1, h3, h4.trans h2⟩
/-- the nodes behind the cells: in memory behind 'base' -/
def NodesIn (base : Nat) (w : World) (lc : List NdC) (l : List Gr.Nd) : Prop := Rel (fun c n => NodeIs w c n ∧ OwnsNd base w c n) lc l
theorem NodesIn.at {base : Nat} {w : World} {v : Value} {lc : List NdC} {l : List Gr.Nd} (h : NodesIn base w lc l) (ho : NodesOwn base w v lc) : NodesAt w v l :=
  ⟨lc, OwnAt.rows ho encNd_len, Rel.len h, fun i c n h1 h2 => (Rel.get h i c n h1 h2).1⟩
theorem OwnsNd.to2 {base : Nat} {w w' : World} {c : NdC} {n : Gr.Nd} (o : OwnsNd base w c n) (hb : ∀ (q : Nat) (cs : Array Value) (t : TypeId), w.heap[q]? = some (.cells cs t) → base ≤ q → t ≠ 45 → w'.heap[q]? = w.heap[q]?) : OwnsNd base w' c n := by
  refine ⟨OwnAt.same o.1 fun b h => ?_, OwnAt.same o.2 fun b h => ?_⟩
  · obtain ⟨h1, cs, h2⟩ := OwnAt.block o.1 h
    exact hb b cs _ h2 h1 (by decide)
  · obtain ⟨h1, cs, h2⟩ := OwnAt.block o.2 h
    exact hb b cs _ h2 h1 (by decide)
theorem NodesIn.keep {base : Nat} {w w' : World} {v : Value} {lc lv : List NdC} {l : List Gr.Nd} (h : NodesIn base w lc l) (ho : NodesOwn base w v lv) (hk : ∀ q, q < w.heap.size → v.ownBlock ≠ some q → w'.heap[q]? = w.heap[q]?) : NodesIn base w' lc l :=
  Rel.mono (fun c n ⟨h1, h2⟩ => by
    have h3 : OwnsNd base w' c n := h2.to2 fun q cs t hq hb hne => hk q (heap_lt hq) (OwnAt.other ho hq hne)
    exact ⟨h3.is h1, h3⟩) h
theorem NodesIn.grew {base : Nat} {w w' : World} {lc : List NdC} {l : List Gr.Nd} (h : NodesIn base w lc l) (g : Grew w w') : NodesIn base w' lc l :=
  Rel.mono (fun c n ⟨h1, h2⟩ => ⟨h1.grew g, h2.grew g⟩) h
theorem nd_at (W : World) (x : NdC) (t : TypeId) (b : Nat) {c : Array Value} (hc : c = (encNd x).toArray) (hb : b = W.heap.size) : ∀ j u, (([x] : List NdC).flatMap encNd)[j]? = some u → (W.alloc (.cells c t)).cell? ⟨b, j, none⟩ = some u := by
  subst hc
  intro j u hu
  rw [new_cells W _ t b hb j]
  simpa using hu
/-- the same nodes by their numbers, in memory of the call's own -/
def NormGives (l : List Gr.Nd) (w : World) (e : Ending) (w' : World) : Prop := ∃ v lc l', e = .returned v ∧ NodesOwn w.heap.size w' v lc ∧ NodesIn w.heap.size w' lc l' ∧ l'.Perm l ∧ (l'.Pairwise fun a b => a.id ≤ b.id) ∧ Grew w w'
theorem norm_made {w W w' : World} {v : Value} {lc : List NdC} {l : List Gr.Nd} {e : Ending} (h : SortPost w.heap.size W v lc e w') (hn : NodesIn w.heap.size W lc l) (ho : NodesOwn w.heap.size W v lc) (g : Grew w W) : NormGives l w (.returned v) w' := by
  obtain ⟨-, lc', h1, h2, h3, h4, h5, h6⟩ := h
  have hk := NodesIn.keep hn ho h4
  obtain ⟨l', h7, h8⟩ := Rel.perm h2 hk
  refine ⟨v, lc', l', rfl, h1, h7, h8, ?_, h6 w g (Nat.le_refl _)⟩
  rw [List.pairwise_iff_getElem] at h3 ⊢
  intro i j hi hj hij
  have hl := Rel.len h7
  have := h3 i j (by omega) (by omega) hij
  have e1 := (Rel.get h7 i _ _ (List.getElem?_eq_getElem (by omega)) (List.getElem?_eq_getElem hi)).1.id
  have e2 := (Rel.get h7 j _ _ (List.getElem?_eq_getElem (by omega)) (List.getElem?_eq_getElem hj)).1.id
  rw [e1, e2]
  exact this
theorem norm_round {w wr W4 W W' : World} {v v' : Value} {lc : List NdC} {c : NdC} {l : List Gr.Nd} {y : Gr.Nd} {base : Nat} (gw : Grew w wr) (ho : NodesOwn w.heap.size wr v lc) (hn : NodesIn w.heap.size wr lc l) (g1 : Grew wr W) (h9 : NodeIs W4 c y) (o9 : OwnsNd base W4 c y) (hb : w.heap.size ≤ base) (g2 : Grew W4 W)
    (hA : Appended w 45 13 encNd W v (lc ++ [c]) v' W') : Grew w W' ∧ NodesOwn w.heap.size W' v' (lc ++ [c]) ∧ NodesIn w.heap.size W' (lc ++ [c]) (l ++ [y]) := by
  obtain ⟨a1, a2, a3, a4, a5⟩ := hA
  have ho' : NodesOwn w.heap.size W v lc := OwnAt.grew ho g1
  have h5 : OwnsNd w.heap.size W' c y := ((o9.grew g2).low hb).to2 fun q cs t hq _ hne => a4 q (heap_lt hq) (OwnAt.other ho' hq hne)
  exact ⟨a1, a2, Rel.snoc ((hn.grew g1).keep ho' a4) ⟨h5.is h9, h5⟩⟩
set_option maxHeartbeats 8000000 in
theorem norm_any (v : Value) (l : List Gr.Nd) (w : World) (hv : NodesAt w v l) (hs : Small l) (hl : l.length ≤ 19) : Calls Tryz.prog 77 #[v] w (NormGives l w) := by
  have HV := Lib.hid hv
  have HS := Lib.hid hs
  obtain ⟨a, cap, rfl, hm, -⟩ := hv.openC
  clear hv hs
  go_enter Tryz.func77, Tryz.ntmps77
  go_wp2
  go_loopg [3, 8] l.length (fun gg s3 s8 wr => ∃ (k : Nat) (lc : List NdC) (vk : Value), k ≤ l.length ∧ l.length - k ≤ gg ∧ s8 = .int .i64 k ∧ vk = s3 ∧ Hid (Grew w wr) ∧ Hid (NodesOwn w.heap.size wr vk lc) ∧ Hid (NodesIn w.heap.size wr lc (l.take k)))
  case atStart => exact ⟨0, [], _, Nat.zero_le _, by omega, rfl, rfl, Lib.hid (by repeat (first | with_reducible exact Grew.refl _ | apply Grew.more | apply Grew.alloc | apply Grew.drew | apply Grew.drewN)), Lib.hid (OwnAt.nil _), Lib.hid trivial⟩
  case round =>
    obtain ⟨k, lc, vk, hk, hgg, rfl, rfl, HG, HO, HN⟩ := hrel
    by_cases hlt : k < l.length
    · obtain ⟨a', cap', e, -, hx⟩ := (HV.out.grew HG.out).openC
      cases e
      obtain ⟨b, off, c, rfl, hb, hn, c0, c1, c2, c3, c4, c5, c6, c7, c8, c9, c10, c11, c12⟩ := hx k hlt
      obtain ⟨s1, s2⟩ := HS.out _ (List.getElem_mem hlt)
      have htk : l.take (k + 1) = l.take k ++ [l[k]] := List.take_succ_eq_append_getElem hlt
      have HT := Lib.hid htk
      have hlc := Rel.len HN.out
      rw [List.length_take, Nat.min_eq_left hk] at hlc
      have HLC := Lib.hid hlc
      clear hx htk hlc
      generalize hy : l[k] = y at *
      have HNc := Lib.hid hn
      have HOW := Lib.hid fun W (g : Grew wr W) => own_any c y W (HNc.out.grew g) s1 s2
      obtain ⟨cid, kind, af, cf, ap, cp, par, r0, r1, r2, r3, r4, r5, r6, r7, rfl⟩ := HNc.out.lit
      simp only at c0 c1 c2 c3 c4 c5 c6 c7 c8 c9 c10 c11 c12
      clear hy hn
      go_wp2_with (first
        | (go_at_call 96; refine (HOW.out _ (by repeat (first | with_reducible exact Grew.refl _ | apply Grew.more | apply Grew.alloc | apply Grew.drew | apply Grew.drewN))).mono ?_; rintro e w1 ⟨c9, rfl, hn9, ho9, R4, n4, rfl⟩; obtain ⟨cid9, kind9, af9, cf9, ap9, cp9, par9, s0, s1, s2, s3, s4, s5, s6, s7, rfl⟩ := hn9.lit; (have HN9 := Lib.hid hn9); (have HO9 := Lib.hid ho9); clear hn9 ho9)
        | (at_builtin; refine wpList_ownK (w0 := w) rfl (.tmp 12) (.tmp 15) 22 _ _ _ _ [⟨cid9, kind9, af9, y.frm.length, cf9, ap9, y.prog.length, cp9, par9, s0, s1, s2, s3, s4, s5, s6, s7⟩] rfl Tryz.underlying22 infoNode rfl (by decide) encNd_len encNd_one rfl (OwnAt.grew HO.out (by repeat (first | with_reducible exact Grew.refl _ | apply Grew.more | apply Grew.alloc | apply Grew.drew | apply Grew.drewN))) (HG.out.trans (by repeat (first | with_reducible exact Grew.refl _ | apply Grew.more | apply Grew.alloc | apply Grew.drew | apply Grew.drewN))) rfl (nd_at _ _ _ _ rfl (by simp [go_sem])) (by rw [HLC.out]; simp; omega) (by decide) (by simp) ?_; intro v5 W5 hA; (have HA := Lib.hid hA); clear hA))
      have hr := norm_round HG.out HO.out HN.out (by repeat (first | with_reducible exact Grew.refl _ | apply Grew.more | apply Grew.alloc | apply Grew.drew | apply Grew.drewN)) HN9.out HO9.out (by have := HG.out.below.size; simp [World.size_alloc]; omega) (by repeat (first | with_reducible exact Grew.refl _ | apply Grew.more | apply Grew.alloc | apply Grew.drew | apply Grew.drewN)) HA.out
      rw [← HT.out] at hr
      obtain ⟨q1, q2, q3⟩ := hr
      have Q1 := Lib.hid q1
      have Q2 := Lib.hid q2
      have Q3 := Lib.hid q3
      clear q1 q2 q3
      go_roundg (l.length - (k + 1))
      case measure => omega
      case rel => exact ⟨k + 1, _, _, by omega, by omega, by go_num, rfl, Q1, Q2, Q3⟩
    · obtain rfl : k = l.length := by omega
      have hn := HN.out
      rw [List.take_length] at hn
      have hlc := Rel.len hn
      have HSN := Lib.hid (sortNodes_any w.heap.size wr vk lc HO.out (by omega))
      have HN2 := Lib.hid hn
      obtain ⟨a3, cap3, rfl⟩ := (OwnAt.rows HO.out encNd_len).len
      clear hn hlc
      go_wp2_with (go_at_call 114; refine HSN.out.mono ?_; rintro e w1 hp; (have he := hp.1); subst he; (have HP := Lib.hid hp); clear hp)
      go_ret
      exact norm_made HP.out HN2.out HO.out HG.out
end Go.Proofs.YtangapokicnfgaaGreat

/-! graph.sort: its two closures; the world of a round. -/
namespace Go.Proofs.YtangapokicnfgaaGreat
set_option linter.unusedSimpArgs false
set_option linter.unusedVariables false
open Go.RowKit Ga
set_option maxRecDepth 100000

theorem enters112 : ∀ args w, (callFunc 112 args).run Tryz.prog w = .ok (.enter 112 args) w := enters_of Tryz.func112 (by kernel_rfl) rfl
theorem enters113 : ∀ args w, (callFunc 113 args).run Tryz.prog w = .ok (.enter 113 args) w := enters_of Tryz.func113 (by kernel_rfl) rfl
theorem sort1_pred (out : List Int) (v : Value) (B : Nat) (w : World) (hv : IntsAt w v out) (hB : Pre B w) (hc : w.cell? ⟨B, 0, none⟩ = some v) : PredI 112 #[.pointer (some ⟨B, 0, none⟩)] (fun x => decide (x ∈ out)) w := by
  intro W x g
  obtain ⟨R, N, rfl⟩ := g
  have HC := Lib.hid fun W (g : Grew w W) => containsI_any v out x W (hv.grew g)
  obtain ⟨a, cap, rfl⟩ := hv.len
  clear hv
  show Calls Tryz.prog 112 #[.int .i64 x, .pointer (some ⟨B, 0, none⟩)] _ (Gives (.bool (decide (x ∈ out))) _)
  generalize decide (x ∈ out) = r at *
  go_enter Tryz.func112, Tryz.ntmps112
  go_wp2_with (go_at_call 75; refine (HC.out _ (by repeat (first | with_reducible exact Grew.refl _ | apply Grew.more | apply Grew.alloc | apply Grew.drew | apply Grew.drewN))).mono ?_; rintro e w1 ⟨rfl, hw1⟩; obtain rfl := hw1)
  go_ret
  refine ⟨rfl, ?_⟩
  repeat (first | with_reducible exact Grew.refl _ | apply Grew.more | apply Grew.alloc | apply Grew.drew | apply Grew.drewN)
theorem sort2_pred (out : List Int) (v : Value) (B C : Nat) (w : World) (hv : IntsAt w v out) (hB : Pre B w) (hc : w.cell? ⟨B, 0, none⟩ = some v) (hC : Pre C w) (hcC : w.cell? ⟨C, 0, none⟩ = some (.func (.func 112) #[] #[.pointer (some ⟨B, 0, none⟩)])) : PredI 113 #[.pointer (some ⟨C, 0, none⟩)] (fun x => !decide (x ∈ out)) w := by
  intro W x g
  have HS := Lib.hid (sort1_pred out v B w hv hB hc)
  obtain ⟨R, N, rfl⟩ := g
  have eg := enters112
  clear hv hc hB
  show Calls Tryz.prog 113 #[.int .i64 x, .pointer (some ⟨C, 0, none⟩)] _ (Gives (.bool (!decide (x ∈ out))) _)
  generalize hq : (fun x => decide (x ∈ out)) = p at *
  have hp : decide (x ∈ out) = p x := by rw [← hq]
  rw [hp]
  clear hq hp
  generalize hr : p x = r
  have HR := Lib.hid hr
  clear hr
  go_enter Tryz.func113, Tryz.ntmps113
  go_wp2_with (go_at_fn 112; refine (HS.out _ x (by repeat (first | with_reducible exact Grew.refl _ | apply Grew.more | apply Grew.alloc | apply Grew.drew | apply Grew.drewN))).mono ?_; rintro e w1 ⟨rfl, R3, n3, rfl⟩; rw [HR.out])
  go_ret
  refine ⟨rfl, ?_⟩
  repeat (first | with_reducible exact Grew.refl _ | apply Grew.more | apply Grew.alloc | apply Grew.drew | apply Grew.drewN)

/-- a world of the sort's: w: the one that came in; w1: the one behind Norm; B: the cell of what stands; C: the cell of the closure -/
structure SortAt (w w1 : World) (B C : Nat) (W : World) (v : Value) (out : List Int) : Prop where
  keep : Keep B w1 W
  g : Grew w W
  own : OwnAt w.heap.size 3 1 encN W v out
  hi : ∀ q, v.ownBlock = some q → w1.heap.size ≤ q
  b : W.heap[B]? = some (.cells #[v] 41)
  c : W.heap[C]? = some (.cells #[.func (.func 112) #[] #[.pointer (some ⟨B, 0, none⟩)]] 108)
  bl : w.heap.size ≤ B
theorem SortAt.grew {w w1 : World} {B C : Nat} {W W' : World} {v : Value} {out : List Int} (h : SortAt w w1 B C W v out) (g : Grew W W') : SortAt w w1 B C W' v out :=
  ⟨h.keep.trans (Keep.ofGrew g), h.g.trans g, h.own.grew g, h.hi, grew_heap g h.b, grew_heap g h.c, h.bl⟩
theorem SortAt.push {w w1 : World} {B C : Nat} {W W' : World} {v v' : Value} {out : List Int} {x : Int} (h : SortAt w w1 B C W v out) (hA : Appended w 3 1 encN W v (out ++ [x]) v' W') :
    W'.heap[B]? = some (.cells #[v] 41) ∧ SortAt w w1 B C (W'.setCell ⟨B, 0, none⟩ v') v' (out ++ [x]) := by
  obtain ⟨a1, a2, a3, a4, a5⟩ := hA
  have hB : W'.heap[B]? = some (.cells #[v] 41) := by rw [a4 B (heap_lt h.b) (OwnAt.other h.own h.b (by decide))]; exact h.b
  have hC : W'.heap[C]? = some (.cells #[.func (.func 112) #[] #[.pointer (some ⟨B, 0, none⟩)]] 108) := by rw [a4 C (heap_lt h.c) (OwnAt.other h.own h.c (by decide))]; exact h.c
  have hne : B ≠ C := fun e => by
    rw [e, hC] at hB
    cases hB
  have hk : Keep B w1 W' := ⟨Nat.le_trans h.keep.1 a3, fun q hq hn => (a4 q (Nat.lt_of_lt_of_le hq h.keep.1) fun e => by have := h.hi q e; omega).trans (h.keep.2 q hq hn)⟩
  refine ⟨hB, ⟨hk.trans (Keep.set _), a1.set h.bl _, OwnAt.same a2 fun b hb => set_other fun e => ?_, fun q hq => ?_, by rw [set_self hB]; rfl, by rw [set_other hne]; exact hC, h.bl⟩⟩
  · subst e
    exact OwnAt.other a2 hB (by decide) hb
  · rcases a5 q hq with h1 | h1
    · exact h.hi q h1
    · exact Nat.le_trans h.keep.1 h1
/-- the nodes stand as they stood -/
theorem SortAt.nodes {w w1 : World} {B C base : Nat} {W : World} {v vn : Value} {out : List Int} {lc : List NdC} {l : List Gr.Nd} (h : SortAt w w1 B C W v out) (ho : NodesOwn base w1 vn lc) (hn : NodesIn base w1 lc l) (hB : ∃ c, w1.heap[B]? = some (.cells c 41)) : NodesAt W vn l := by
  obtain ⟨cB, hB⟩ := hB
  have hk := h.keep
  have hne : ∀ (q : Nat) (cs : Array Value) (t : TypeId), w1.heap[q]? = some (.cells cs t) → t ≠ 41 → q ≠ B := fun q cs t hq ht e => by
    subst e
    rw [hB] at hq
    cases hq
    exact ht rfl
  have ho2 : NodesOwn base W vn lc := OwnAt.same ho fun b hb => by
    obtain ⟨_, cs, h2⟩ := OwnAt.block ho hb
    exact hk.2 b (heap_lt h2) (hne b cs _ h2 (by decide))
  have hn2 : NodesIn base W lc l := Rel.mono (fun c n ⟨h1, h2⟩ => by
    have h3 : OwnsNd base W c n := by
      refine ⟨OwnAt.same h2.1 fun b hb => ?_, OwnAt.same h2.2 fun b hb => ?_⟩
      · obtain ⟨_, cs, h4⟩ := OwnAt.block h2.1 hb
        exact hk.2 b (heap_lt h4) (hne b cs _ h4 (by decide))
      · obtain ⟨_, cs, h4⟩ := OwnAt.block h2.2 hb
        exact hk.2 b (heap_lt h4) (hne b cs _ h4 (by decide))
    exact ⟨h3.is h1, h3⟩) hn
  exact hn2.at ho2
def standP (out : List Int) (n : Gr.Nd) : Bool := !out.contains n.id && n.frm.all fun f => out.contains f
theorem standP_eq (out : List Int) (n : Gr.Nd) : standP out n = (!decide (n.id ∈ out) && !n.frm.any fun f => !decide (f ∈ out)) := by
  unfold standP
  rw [List.not_any_eq_all_not]
  simp
theorem standP_next (l : List Gr.Nd) (out : List Int) : Gr.nextS l out = (l.find? (standP out)).map (·.id) := rfl
def sliceLen : Value → Nat
  | .slice _ n _ => n
  | _ => 0
end Go.Proofs.YtangapokicnfgaaGreat

/-! A scope with one label that is jumped back to, and one that is jumped ahead to. -/
namespace Go
set_option linter.unusedSimpArgs false
set_option linter.unusedVariables false

/-- As Q; by a goto to l1: J1; to l0: J0. -/
def Exit.jump2 (l1 l0 : Nat) (J1 J0 : Act → World → Prop) (Q : Exit → Act → World → Prop) : Exit → Act → World → Prop
  | .goto l', a, w => (l' = l1 ∧ J1 a w) ∨ (l' = l0 ∧ J0 a w)
  | e, a, w => Q e a w

section
variable {P : Program} {a : Act} {w : World} {Q : Exit → Act → World → Prop}
theorem wp_scope_jumps2 {c rest1 rest0 : Code} (l1 l0 : Nat) (J1 J0 : Act → World → Prop) (μ : Act → World → Nat) (hf1 : findLabel c l1 = some rest1) (hf0 : findLabel c l0 = some rest0)
    (first : c.wp P (Exit.jump2 l1 l0 J1 J0 Q) a w)
    (pass1 : ∀ a w, J1 a w → rest1.wp P (Exit.jump2 l1 l0 (fun a' w' => J1 a' w' ∧ μ a' w' < μ a w) J0 Q) a w)
    (pass0 : ∀ a w, J0 a w → rest0.wp P (Exit.noGoto Q) a w) : (Code.scope c).wp P Q a w := by
  intro b k cs
  have hg1 : gotoIn l1 (.inScope c :: k) = some (.code rest1 :: .inScope c :: k) := by simp [gotoIn, hf1]
  have hg0 : gotoIn l0 (.inScope c :: k) = some (.code rest0 :: .inScope c :: k) := by simp [gotoIn, hf0]
  have end0 : ∀ a w, J0 a w → ∃ e a' w', Q e a' w' ∧ Arrives P (lone (b.at a (.code rest0 :: .inScope c :: k)) cs w) b k cs e a' w' := by
    intro a w h0
    obtain ⟨e, a₁, w₁, hq, harr⟩ := pass0 a w h0 b (.inScope c :: k) cs
    cases e with
    | normal => exact ⟨.normal, a₁, w₁, hq, Steps.trans harr (.one step_inScope)⟩
    | exit id => exact ⟨.exit id, a₁, w₁, hq, fun k' hk => harr k' (by simp [exitTo, hk])⟩
    | goto l' => exact hq.elim
    | ret => exact ⟨_, a₁, w₁, hq, harr⟩
    | panic ch => exact ⟨_, a₁, w₁, hq, harr⟩
    | outgrown => exact ⟨_, a₁, w₁, hq, harr⟩
  have key : ∀ n a w, μ a w = n → J1 a w → ∃ e a' w', Q e a' w' ∧ Arrives P (lone (b.at a (.code rest1 :: .inScope c :: k)) cs w) b k cs e a' w' := by
    intro n
    induction n using Nat.strongRecOn with
    | _ n ih =>
      intro a w hn hJ
      obtain ⟨e, a₁, w₁, hq, harr⟩ := pass1 a w hJ b (.inScope c :: k) cs
      cases e with
      | normal => exact ⟨.normal, a₁, w₁, hq, Steps.trans harr (.one step_inScope)⟩
      | exit id => exact ⟨.exit id, a₁, w₁, hq, fun k' hk => harr k' (by simp [exitTo, hk])⟩
      | goto l' =>
        rcases hq with ⟨rfl, hJ', hlt⟩ | ⟨rfl, h0⟩
        · obtain ⟨e₂, a₂, w₂, hq₂, harr₂⟩ := ih _ (by omega) a₁ w₁ rfl hJ'
          exact ⟨e₂, a₂, w₂, hq₂, .of_steps (harr _ hg1) harr₂⟩
        · obtain ⟨e₂, a₂, w₂, hq₂, harr₂⟩ := end0 a₁ w₁ h0
          exact ⟨e₂, a₂, w₂, hq₂, .of_steps (harr _ hg0) harr₂⟩
      | ret => exact ⟨_, a₁, w₁, hq, harr⟩
      | panic ch => exact ⟨_, a₁, w₁, hq, harr⟩
      | outgrown => exact ⟨_, a₁, w₁, hq, harr⟩
  obtain ⟨e, a₁, w₁, hq, harr⟩ := first b (.inScope c :: k) cs
  cases e with
  | normal => exact ⟨.normal, a₁, w₁, hq, .head step_scope (Steps.trans harr (.one step_inScope))⟩
  | exit id => exact ⟨.exit id, a₁, w₁, hq, fun k' hk => .head step_scope (harr k' (by simp [exitTo, hk]))⟩
  | goto l' =>
    rcases hq with ⟨rfl, hJ'⟩ | ⟨rfl, h0⟩
    · obtain ⟨e₂, a₂, w₂, hq₂, harr₂⟩ := key _ a₁ w₁ rfl hJ'
      exact ⟨e₂, a₂, w₂, hq₂, .of_steps (.head step_scope (harr _ hg1)) harr₂⟩
    · obtain ⟨e₂, a₂, w₂, hq₂, harr₂⟩ := end0 a₁ w₁ h0
      exact ⟨e₂, a₂, w₂, hq₂, .of_steps (.head step_scope (harr _ hg0)) harr₂⟩
  | ret => exact ⟨_, a₁, w₁, hq, .of_steps (.one step_scope) harr⟩
  | panic ch => exact ⟨_, a₁, w₁, hq, .of_steps (.one step_scope) harr⟩
  | outgrown => exact ⟨_, a₁, w₁, hq, .of_steps (.one step_scope) harr⟩

theorem wp_skip_seq {x : Code} (h : x.wp P Q a w) : (Code.seq .skip x).wp P Q a w := wp_seq (wp_skip h)
/-- .. the first time through the body may be taken as any other. -/
theorem wp_scope_jumps2' {c rest1 rest0 : Code} (l1 l0 : Nat) (J1 J0 : Act → World → Prop) (μ : Act → World → Nat) (hf1 : findLabel c l1 = some (.seq .skip rest1)) (hf0 : findLabel c l0 = some (.seq .skip rest0))
    (pass0 : ∀ a w, J0 a w → rest0.wp P (Exit.noGoto Q) a w)
    (pass1 : (∀ J a w, J0 a w → rest0.wp P (Exit.jump2 l1 l0 J J0 Q) a w) → ∀ a w, J1 a w → rest1.wp P (Exit.jump2 l1 l0 (fun a' w' => J1 a' w' ∧ μ a' w' < μ a w) J0 Q) a w)
    (first : (∀ a w, J1 a w → rest1.wp P (Exit.jump2 l1 l0 J1 J0 Q) a w) → c.wp P (Exit.jump2 l1 l0 J1 J0 Q) a w) : (Code.scope c).wp P Q a w :=
by
  have h0 : ∀ J a w, J0 a w → rest0.wp P (Exit.jump2 l1 l0 J J0 Q) a w := fun J a w h => Code.wp_mono (fun e a' w' hq => by
    cases e with
    | goto l' => exact hq.elim
    | _ => exact hq) (pass0 a w h)
  exact wp_scope_jumps2 l1 l0 J1 J0 μ hf1 hf0 (first fun a w h => Code.wp_mono (fun e a' w' hq => by
    cases e with
    | goto l' =>
      rcases hq with ⟨h1, h2, _⟩ | h3
      · exact .inl ⟨h1, h2⟩
      · exact .inr h3
    | _ => exact hq) (pass1 h0 a w h)) (fun a w h => wp_skip_seq (pass1 h0 a w h)) (fun a w h => wp_skip_seq (pass0 a w h))
end
end Go
