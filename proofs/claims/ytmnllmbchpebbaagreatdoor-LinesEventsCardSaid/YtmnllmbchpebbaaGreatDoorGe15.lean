import Derived.Test.YtmnllmbchpebbaaGreatDoorGe12
import Derived.Test.YtmnllmbchpebbaaGreatDoorGe11
import Derived.ScopeJumps
import Derived.Laws.EntriesVeiled
import Derived.Scope
import Derived.Test.YtmnllmbchpebbaaGreatDoorGe2
import Derived.Test.YtmnllmbchpebbaaGreatDoorGe6
import Derived.ChangeKeysEq
import Derived.Deep.LoopGhost
/-! The library's stable sort at nodes, up to 19 of them; graph.Norm. -/
namespace Go.Proofs.YtmnllmbchpebbaaGreatDoor
set_option linter.unusedSimpArgs false
set_option linter.unusedVariables false
open Go.RowKit Ga
set_option maxRecDepth 100000

set_option maxHeartbeats 2000000 in
theorem stableNodes_any (base : Nat) (W : World) (v : Value) (lc : List NdC) (h : NodesOwn base W v lc) (hl : lc.length ≤ 19) :
    Calls Tryz.prog 160 #[v, .int .i64 lc.length, .func (.func 124) #[] #[]] W (SortPost base W v lc) := by
  have HI := Lib.hid (insNodes_any base W v lc h (by omega))
  obtain ⟨a, cap, rfl⟩ := (OwnAt.rows h encNd_len).len
  clear h
  have h19 : (lc.length : Int) ≤ 19 := by omega
  generalize lc.length = ln at *
  go_enter Tryz.func160, Tryz.ntmps160
  go_wp2
  go_loopg [7, 8] 0 (fun gg s7 s8 wr => s7 = .int .i64 0 ∧ s8 = .int .i64 20 ∧ wr = W)
  case atStart => exact ⟨rfl, rfl, rfl⟩
  case round =>
    obtain ⟨rfl, rfl, rfl⟩ := hrel
    go_wp2_with (go_at_call 183; refine HI.out.mono ?_; rintro e w1 ⟨rfl, hp⟩; (have HP := Lib.hid hp); clear hp)
    go_loopg [6] 0 (fun gg s6 wr => s6 = .int .i64 20 ∧ wr = w1)
    case atStart => exact ⟨rfl, rfl⟩
    case round =>
      obtain ⟨rfl, rfl⟩ := hrel
      go_wp2
      go_end0
      exact ⟨rfl, HP.out⟩
theorem sortNodes_any (base : Nat) (W : World) (v : Value) (lc : List NdC) (h : NodesOwn base W v lc) (hl : lc.length ≤ 19) :
    Calls Tryz.prog 123 #[v, .func (.func 124) #[] #[]] W (SortPost base W v lc) := by
  have HI := Lib.hid (stableNodes_any base W v lc h hl)
  have hm := (OwnAt.rows h encNd_len)
  obtain ⟨a, cap, rfl⟩ := (OwnAt.rows h encNd_len).len
  clear h hm
  go_enter Tryz.func123, Tryz.ntmps123
  go_wp2_with (go_at_call 160; refine HI.out.mono ?_; rintro e w1 ⟨rfl, hp⟩; (have HP := Lib.hid hp); clear hp)
  go_end0
  exact ⟨rfl, HP.out⟩
end Go.Proofs.YtmnllmbchpebbaaGreatDoor

/-! graph.Norm. -/
namespace Go.Proofs.YtmnllmbchpebbaaGreatDoor
set_option linter.unusedSimpArgs false
set_option linter.unusedVariables false
open Go.RowKit Ga
set_option maxRecDepth 100000

/-- two lists, side by side -/
def Rel {α β : Type} (R : α → β → Prop) : List α → List β → Prop
  | [], [] => True
  | a :: xs, b :: ys => R a b ∧ Rel R xs ys
  | _, _ => False
theorem Rel.len {α β : Type} {R : α → β → Prop} : ∀ {xs : List α} {ys : List β}, Rel R xs ys → xs.length = ys.length
  | [], [], _ => rfl
  | a :: xs, b :: ys, h => by rw [List.length_cons, List.length_cons, Rel.len h.2]
  | [], _ :: _, h => h.elim
  | _ :: _, [], h => h.elim
theorem Rel.get {α β : Type} {R : α → β → Prop} : ∀ {xs : List α} {ys : List β}, Rel R xs ys → ∀ (i : Nat) (a : α) (b : β), xs[i]? = some a → ys[i]? = some b → R a b
  | [], [], _, i, a, b, h1, _ => by simp at h1
  | a :: xs, b :: ys, h, 0, x, y, h1, h2 => by simp at h1 h2; subst h1 h2; exact h.1
  | a :: xs, b :: ys, h, i + 1, x, y, h1, h2 => Rel.get h.2 i x y (by simpa using h1) (by simpa using h2)
  | [], _ :: _, h, _, _, _, _, _ => h.elim
  | _ :: _, [], h, _, _, _, _, _ => h.elim
theorem Rel.snoc {α β : Type} {R : α → β → Prop} : ∀ {xs : List α} {ys : List β}, Rel R xs ys → ∀ {a : α} {b : β}, R a b → Rel R (xs ++ [a]) (ys ++ [b])
  | [], [], _, a, b, h => ⟨h, trivial⟩
  | a :: xs, b :: ys, h, x, y, h2 => ⟨h.1, Rel.snoc h.2 h2⟩
  | [], _ :: _, h, _, _, _ => h.elim
  | _ :: _, [], h, _, _, _ => h.elim
theorem Rel.mono {α β : Type} {R S : α → β → Prop} (hm : ∀ a b, R a b → S a b) : ∀ {xs : List α} {ys : List β}, Rel R xs ys → Rel S xs ys
  | [], [], _ => trivial
  | a :: xs, b :: ys, h => ⟨hm a b h.1, Rel.mono hm h.2⟩
  | [], _ :: _, h => h.elim
  | _ :: _, [], h => h.elim
theorem Rel.perm {α β : Type} {R : α → β → Prop} {xs' xs : List α} (hp : xs'.Perm xs) : ∀ {ys : List β}, Rel R xs ys → ∃ ys', Rel R xs' ys' ∧ ys'.Perm ys := by
  induction hp with
  | nil => intro ys h; cases ys with
    | nil => exact ⟨[], trivial, List.Perm.refl _⟩
    | cons => exact h.elim
  | cons x _ ih => intro ys h; cases ys with
    | nil => exact h.elim
    | cons b ys =>
      obtain ⟨ys', h1, h2⟩ := ih h.2
      exact ⟨b :: ys', ⟨h.1, h1⟩, h2.cons b⟩
  | swap x y t => intro ys h; cases ys with
    | nil => exact h.elim
    | cons b ys => cases ys with
      | nil => exact h.2.elim
      | cons c ys => exact ⟨c :: b :: ys, ⟨h.2.1, h.1, h.2.2⟩, List.Perm.swap ..⟩
  | trans _ _ ih1 ih2 =>
    intro ys h
    obtain ⟨b2, h1, h2⟩ := ih2 h
    obtain ⟨b1, h3, h4⟩ := ih1 h1
    exact ⟨b1, h3, h4.trans h2⟩
/-- the nodes behind the cells: in memory behind 'base' -/
def NodesIn (base : Nat) (w : World) (lc : List NdC) (l : List Gr.Nd) : Prop := Rel (fun c n => NodeIs w c n ∧ OwnsNd base w c n) lc l
theorem NodesIn.at {base : Nat} {w : World} {v : Value} {lc : List NdC} {l : List Gr.Nd} (h : NodesIn base w lc l) (ho : NodesOwn base w v lc) : NodesAt w v l :=
  ⟨lc, OwnAt.rows ho encNd_len, Rel.len h, fun i c n h1 h2 => (Rel.get h i c n h1 h2).1⟩
theorem OwnsNd.to2 {base : Nat} {w w' : World} {c : NdC} {n : Gr.Nd} (o : OwnsNd base w c n) (hb : ∀ (q : Nat) (cs : Array Value) (t : TypeId), w.heap[q]? = some (.cells cs t) → base ≤ q → t ≠ 42 → w'.heap[q]? = w.heap[q]?) : OwnsNd base w' c n := by
  refine ⟨OwnAt.same o.1 fun b h => ?_, OwnAt.same o.2 fun b h => ?_⟩
  · obtain ⟨h1, cs, h2⟩ := OwnAt.block o.1 h
    exact hb b cs _ h2 h1 (by decide)
  · obtain ⟨h1, cs, h2⟩ := OwnAt.block o.2 h
    exact hb b cs _ h2 h1 (by decide)
theorem NodesIn.keep {base : Nat} {w w' : World} {v : Value} {lc lv : List NdC} {l : List Gr.Nd} (h : NodesIn base w lc l) (ho : NodesOwn base w v lv) (hk : ∀ q, q < w.heap.size → v.ownBlock ≠ some q → w'.heap[q]? = w.heap[q]?) : NodesIn base w' lc l :=
  Rel.mono (fun c n ⟨h1, h2⟩ => by
    have h3 : OwnsNd base w' c n := h2.to2 fun q cs t hq hb hne => hk q (heap_lt hq) (OwnAt.other ho hq hne)
    exact ⟨h3.is h1, h3⟩) h
theorem NodesIn.grew {base : Nat} {w w' : World} {lc : List NdC} {l : List Gr.Nd} (h : NodesIn base w lc l) (g : Grew w w') : NodesIn base w' lc l :=
  Rel.mono (fun c n ⟨h1, h2⟩ => ⟨h1.grew g, h2.grew g⟩) h
theorem nd_at (W : World) (x : NdC) (t : TypeId) (b : Nat) {c : Array Value} (hc : c = (encNd x).toArray) (hb : b = W.heap.size) : ∀ j u, (([x] : List NdC).flatMap encNd)[j]? = some u → (W.alloc (.cells c t)).cell? ⟨b, j, none⟩ = some u := by
  subst hc
  intro j u hu
  rw [new_cells W _ t b hb j]
  simpa using hu
/-- the same nodes by their numbers, in memory of the call's own -/
def NormGives (l : List Gr.Nd) (w : World) (e : Ending) (w' : World) : Prop := ∃ v lc l', e = .returned v ∧ NodesOwn w.heap.size w' v lc ∧ NodesIn w.heap.size w' lc l' ∧ l'.Perm l ∧ (l'.Pairwise fun a b => a.id ≤ b.id) ∧ Grew w w'
theorem norm_made {w W w' : World} {v : Value} {lc : List NdC} {l : List Gr.Nd} {e : Ending} (h : SortPost w.heap.size W v lc e w') (hn : NodesIn w.heap.size W lc l) (ho : NodesOwn w.heap.size W v lc) (g : Grew w W) : NormGives l w (.returned v) w' := by
  obtain ⟨-, lc', h1, h2, h3, h4, h5, h6⟩ := h
  have hk := NodesIn.keep hn ho h4
  obtain ⟨l', h7, h8⟩ := Rel.perm h2 hk
  refine ⟨v, lc', l', rfl, h1, h7, h8, ?_, h6 w g (Nat.le_refl _)⟩
  rw [List.pairwise_iff_getElem] at h3 ⊢
  intro i j hi hj hij
  have hl := Rel.len h7
  have := h3 i j (by omega) (by omega) hij
  have e1 := (Rel.get h7 i _ _ (List.getElem?_eq_getElem (by omega)) (List.getElem?_eq_getElem hi)).1.id
  have e2 := (Rel.get h7 j _ _ (List.getElem?_eq_getElem (by omega)) (List.getElem?_eq_getElem hj)).1.id
  rw [e1, e2]
  exact this
theorem norm_round {w wr W4 W W' : World} {v v' : Value} {lc : List NdC} {c : NdC} {l : List Gr.Nd} {y : Gr.Nd} {base : Nat} (gw : Grew w wr) (ho : NodesOwn w.heap.size wr v lc) (hn : NodesIn w.heap.size wr lc l) (g1 : Grew wr W) (h9 : NodeIs W4 c y) (o9 : OwnsNd base W4 c y) (hb : w.heap.size ≤ base) (g2 : Grew W4 W)
    (hA : Appended w 42 13 encNd W v (lc ++ [c]) v' W') : Grew w W' ∧ NodesOwn w.heap.size W' v' (lc ++ [c]) ∧ NodesIn w.heap.size W' (lc ++ [c]) (l ++ [y]) := by
  obtain ⟨a1, a2, a3, a4, a5⟩ := hA
  have ho' : NodesOwn w.heap.size W v lc := OwnAt.grew ho g1
  have h5 : OwnsNd w.heap.size W' c y := ((o9.grew g2).low hb).to2 fun q cs t hq _ hne => a4 q (heap_lt hq) (OwnAt.other ho' hq hne)
  exact ⟨a1, a2, Rel.snoc ((hn.grew g1).keep ho' a4) ⟨h5.is h9, h5⟩⟩
set_option maxHeartbeats 8000000 in
theorem norm_any (v : Value) (l : List Gr.Nd) (w : World) (hv : NodesAt w v l) (hs : Small l) (hl : l.length ≤ 19) : Calls Tryz.prog 88 #[v] w (NormGives l w) := by
  have HV := Lib.hid hv
  have HS := Lib.hid hs
  obtain ⟨a, cap, rfl, hm, -⟩ := hv.openC
  clear hv hs
  go_enter Tryz.func88, Tryz.ntmps88
  go_wp2
  go_loopg [3, 8] l.length (fun gg s3 s8 wr => ∃ (k : Nat) (lc : List NdC) (vk : Value), k ≤ l.length ∧ l.length - k ≤ gg ∧ s8 = .int .i64 k ∧ vk = s3 ∧ Hid (Grew w wr) ∧ Hid (NodesOwn w.heap.size wr vk lc) ∧ Hid (NodesIn w.heap.size wr lc (l.take k)))
  case atStart => exact ⟨0, [], _, Nat.zero_le _, by omega, rfl, rfl, Lib.hid (by repeat (first | with_reducible exact Grew.refl _ | apply Grew.more | apply Grew.alloc | apply Grew.drew | apply Grew.drewN)), Lib.hid (OwnAt.nil _), Lib.hid trivial⟩
  case round =>
    obtain ⟨k, lc, vk, hk, hgg, rfl, rfl, HG, HO, HN⟩ := hrel
    by_cases hlt : k < l.length
    · obtain ⟨a', cap', e, -, hx⟩ := (HV.out.grew HG.out).openC
      cases e
      obtain ⟨b, off, c, rfl, hb, hn, c0, c1, c2, c3, c4, c5, c6, c7, c8, c9, c10, c11, c12⟩ := hx k hlt
      obtain ⟨s1, s2⟩ := HS.out _ (List.getElem_mem hlt)
      have htk : l.take (k + 1) = l.take k ++ [l[k]] := List.take_succ_eq_append_getElem hlt
      have HT := Lib.hid htk
      have hlc := Rel.len HN.out
      rw [List.length_take, Nat.min_eq_left hk] at hlc
      have HLC := Lib.hid hlc
      clear hx htk hlc
      generalize hy : l[k] = y at *
      have HNc := Lib.hid hn
      have HOW := Lib.hid fun W (g : Grew wr W) => own_any c y W (HNc.out.grew g) s1 s2
      obtain ⟨cid, kind, af, cf, ap, cp, par, r0, r1, r2, r3, r4, r5, r6, r7, rfl⟩ := HNc.out.lit
      simp only at c0 c1 c2 c3 c4 c5 c6 c7 c8 c9 c10 c11 c12
      clear hy hn
      go_wp2_with (first
        | (go_at_call 122; refine (HOW.out _ (by repeat (first | with_reducible exact Grew.refl _ | apply Grew.more | apply Grew.alloc | apply Grew.drew | apply Grew.drewN))).mono ?_; rintro e w1 ⟨c9, rfl, hn9, ho9, R4, n4, rfl⟩; obtain ⟨cid9, kind9, af9, cf9, ap9, cp9, par9, s0, s1, s2, s3, s4, s5, s6, s7, rfl⟩ := hn9.lit; (have HN9 := Lib.hid hn9); (have HO9 := Lib.hid ho9); clear hn9 ho9)
        | (at_builtin; refine wpList_ownK (w0 := w) rfl (.tmp 12) (.tmp 15) 128 _ _ _ _ [⟨cid9, kind9, af9, y.frm.length, cf9, ap9, y.prog.length, cp9, par9, s0, s1, s2, s3, s4, s5, s6, s7⟩] rfl Tryz.underlying128 infoNode rfl (by decide) encNd_len encNd_one rfl (OwnAt.grew HO.out (by repeat (first | with_reducible exact Grew.refl _ | apply Grew.more | apply Grew.alloc | apply Grew.drew | apply Grew.drewN))) (HG.out.trans (by repeat (first | with_reducible exact Grew.refl _ | apply Grew.more | apply Grew.alloc | apply Grew.drew | apply Grew.drewN))) rfl (nd_at _ _ _ _ rfl (by simp [go_sem])) (by rw [HLC.out]; simp; omega) (by decide) (by simp) ?_; intro v5 W5 hA; (have HA := Lib.hid hA); clear hA))
      have hr := norm_round HG.out HO.out HN.out (by repeat (first | with_reducible exact Grew.refl _ | apply Grew.more | apply Grew.alloc | apply Grew.drew | apply Grew.drewN)) HN9.out HO9.out (by have := HG.out.below.size; simp [World.size_alloc]; omega) (by repeat (first | with_reducible exact Grew.refl _ | apply Grew.more | apply Grew.alloc | apply Grew.drew | apply Grew.drewN)) HA.out
      rw [← HT.out] at hr
      obtain ⟨q1, q2, q3⟩ := hr
      have Q1 := Lib.hid q1
      have Q2 := Lib.hid q2
      have Q3 := Lib.hid q3
      clear q1 q2 q3
      go_roundg (l.length - (k + 1))
      case measure => omega
      case rel => exact ⟨k + 1, _, _, by omega, by omega, by go_num, rfl, Q1, Q2, Q3⟩
    · obtain rfl : k = l.length := by omega
      have hn := HN.out
      rw [List.take_length] at hn
      have hlc := Rel.len hn
      have HSN := Lib.hid (sortNodes_any w.heap.size wr vk lc HO.out (by omega))
      have HN2 := Lib.hid hn
      obtain ⟨a3, cap3, rfl⟩ := (OwnAt.rows HO.out encNd_len).len
      clear hn hlc
      go_wp2_with (go_at_call 123; refine HSN.out.mono ?_; rintro e w1 hp; (have he := hp.1); subst he; (have HP := Lib.hid hp); clear hp)
      go_ret
      exact norm_made HP.out HN2.out HO.out HG.out
end Go.Proofs.YtmnllmbchpebbaaGreatDoor

/-! graph.sort: its two closures; the world of a round. -/
namespace Go.Proofs.YtmnllmbchpebbaaGreatDoor
set_option linter.unusedSimpArgs false
set_option linter.unusedVariables false
open Go.RowKit Ga
set_option maxRecDepth 100000

end Go.Proofs.YtmnllmbchpebbaaGreatDoor

/-! graph.sort. -/
namespace Go.Proofs.YtmnllmbchpebbaaGreatDoor
set_option linter.unusedSimpArgs false
set_option linter.unusedVariables false
open Go.RowKit Ga
set_option maxRecDepth 100000

def frame76 (vn : Value) (B C : Nat) (u : Nat → Value) : Act := { tmps := #[vn, u 1, .slice none 0 0, .pointer (some ⟨B, 0, none⟩), .pointer (some ⟨C, 0, none⟩), u 5, u 6, u 7, u 8, u 9, u 10, u 11, u 12, u 13, u 14, u 15, u 16, u 17, u 18, u 19, u 20, u 21, u 22, u 23, u 24, u 25, u 26, u 27, u 28, u 29, u 30, u 31, u 32, u 33, u 34], defers := [] }
theorem arr35 (t : Array Value) (h : t.size = 35) : t = #[t.getD 0 undef, t.getD 1 undef, t.getD 2 undef, t.getD 3 undef, t.getD 4 undef, t.getD 5 undef, t.getD 6 undef, t.getD 7 undef, t.getD 8 undef, t.getD 9 undef, t.getD 10 undef, t.getD 11 undef, t.getD 12 undef, t.getD 13 undef, t.getD 14 undef, t.getD 15 undef, t.getD 16 undef, t.getD 17 undef, t.getD 18 undef, t.getD 19 undef, t.getD 20 undef, t.getD 21 undef, t.getD 22 undef, t.getD 23 undef, t.getD 24 undef, t.getD 25 undef, t.getD 26 undef, t.getD 27 undef, t.getD 28 undef, t.getD 29 undef, t.getD 30 undef, t.getD 31 undef, t.getD 32 undef, t.getD 33 undef, t.getD 34 undef] := by
  have e : t = (Array.range 35).map fun i => t.getD i undef := by
    refine Array.ext (by simp [h]) fun i h1 h2 => ?_
    simp only [Array.getElem_map, Array.getElem_range]
    rw [Array.getD_eq_getD_getElem?, Array.getElem?_eq_getElem h1]
    rfl
  have e2 : Array.range 35 = #[0, 1, 2, 3, 4, 5, 6, 7, 8, 9, 10, 11, 12, 13, 14, 15, 16, 17, 18, 19, 20, 21, 22, 23, 24, 25, 26, 27, 28, 29, 30, 31, 32, 33, 34] := by decide +kernel
  rw [e2] at e
  exact e.trans (by simp)
structure Frame76 (vn : Value) (B C : Nat) (a : Act) : Prop where
  n : a.tmps.size = 35
  d : a.defers = []
  v : a.tmps[0]? = some vn
  r : a.tmps[2]? = some (.slice none 0 0)
  b : a.tmps[3]? = some (.pointer (some ⟨B, 0, none⟩))
  c : a.tmps[4]? = some (.pointer (some ⟨C, 0, none⟩))
theorem Frame76.get {vn : Value} {B C : Nat} {a : Act} (h : Frame76 vn B C a) : ∃ u, a = frame76 vn B C u := by
  obtain ⟨t, d⟩ := a
  obtain ⟨h1, h2, h3, h4, h5, h6⟩ := h
  simp only at h1 h2 h3 h4 h5 h6
  refine ⟨fun i => t.getD i undef, ?_⟩
  have e := arr35 t h1
  have g : ∀ i v, t[i]? = some v → t.getD i undef = v := fun i v h => by rw [Array.getD_eq_getD_getElem?, h]; rfl
  rw [g 0 _ h3, g 2 _ h4, g 3 _ h5, g 4 _ h6] at e
  unfold frame76
  rw [← e, h2]
theorem infoInt1 : (Tryz.prog.info? 3).map (fun i => (i.zero, i.size, i.bytes)) = some (some (.int .i64 0), 1, 8) := by kernel_rfl
theorem encN_one (x : Int) : ∀ u ∈ encN x, u.oneCell' = true := by intro u hu; simp [encN] at hu; subst hu; rfl
theorem int_at (W : World) (x : Int) (t : TypeId) (b : Nat) {c : Array Value} (hc : c = #[.int .i64 x]) (hb : b = W.heap.size) : ∀ j u, (([x] : List Int).flatMap encN)[j]? = some u → (W.alloc (.cells c t)).cell? ⟨b, j, none⟩ = some u := by
  subst hc
  intro j u hu
  rw [new_cells W _ t b hb j]
  simpa [encN] using hu
end Go.Proofs.YtmnllmbchpebbaaGreatDoor

/-! graph.Check tells what the document calls right. -/
namespace Go.Proofs.YtmnllmbchpebbaaGreatDoor
set_option linter.unusedSimpArgs false
set_option linter.unusedVariables false
open Go.RowKit Ga
set_option maxRecDepth 100000

end Go.Proofs.YtmnllmbchpebbaaGreatDoor

/-! pack.putNode, putGraph, Graph. -/
namespace Go.Proofs.YtmnllmbchpebbaaGreatDoor
set_option linter.unusedSimpArgs false
set_option linter.unusedVariables false
open Go.RowKit Ga
set_option maxRecDepth 100000

def fitsP (p : List Vm.Ins) : Prop := Co.fitsI p = true
theorem be_one (x : Int) : Oc.bes [x] = Oc.be x := by simp [Oc.bes]
theorem be_three (x y z : Int) : Oc.bes [x, y, z] = Oc.be x ++ (Oc.be y ++ Oc.be z) := by simp [Oc.bes]
theorem KeptW.cells {base B q : Nat} {W W' : World} {c : Array Value} {t : TypeId} (k : KeptW base B W W') (h : W.heap[q]? = some (.cells c t)) (hn : q ≠ B) (ht : t ≠ 5) : W'.heap[q]? = some (.cells c t) := by
  rw [k.2 q (heap_lt h) hn (.inr ⟨_, _, _, h, ht⟩)]; exact h
/-- a slice that the writer does not touch -/
def Apart (base B : Nat) (W : World) (v : Value) : Prop := ∀ b off, (∃ n c, v = .slice (some ⟨b, off, none⟩) n c) → Safe base b W ∧ b ≠ B
theorem Apart.kept {α : Type} {k : Nat} {enc : α → List Value} {base B : Nat} {W W' : World} {v : Value} {l : List α} (h : Apart base B W v) (hk : KeptW base B W W') (hr : RowsAt k enc W v l) (hlt : ∀ b off, (∃ n c, v = .slice (some ⟨b, off, none⟩) n c) → l ≠ [] → b < W.heap.size) : RowsAt k enc W' v l := by
  cases l with
  | nil =>
    obtain ⟨a, cap, rfl, hm, -⟩ := hr
    exact ⟨a, cap, rfl, hm, fun h => absurd rfl h⟩
  | cons x l => exact RowsAt.sameBlock hr fun b off hv => hk.2 b (hlt b off hv (by simp)) (h b off hv).2 (h b off hv).1
theorem Apart.to {base B : Nat} {W W' : World} {v : Value} (h : Apart base B W v) (hk : KeptW base B W W') : Apart base B W' v := fun b off hv => by
  obtain ⟨h1, h2⟩ := h b off hv
  refine ⟨?_, h2⟩
  rcases h1 with h1 | ⟨c, t, f, hc, ht⟩
  · exact .inl h1
  · exact .inr ⟨c, t, f, by rw [hk.2 b (heap_lt hc) h2 (.inr ⟨c, t, f, hc, ht⟩)]; exact hc, ht⟩
theorem ints_lt {W : World} {v : Value} {l : List Int} (h : IntsAt W v l) : ∀ b off, (∃ n c, v = .slice (some ⟨b, off, none⟩) n c) → l ≠ [] → b < W.heap.size := by
  rintro b off ⟨n, c, rfl⟩ hne
  exact rows_lt (k := 0) h (List.length_pos_iff.2 hne)
theorem vals_lt {W : World} {v : Value} {l : List Val} (h : ValsAt W v l) : ∀ b off, (∃ n c, v = .slice (some ⟨b, off, none⟩) n c) → l ≠ [] → b < W.heap.size := by
  rintro b off ⟨n, c, rfl⟩ hne
  exact rows_lt (k := 1) h (List.length_pos_iff.2 hne)
theorem bes_len3 (x y z : Int) : (Oc.bes [x, y, z]).length = 12 := by rw [Oc.bes_len]; rfl
theorem putI_len (p : List Val) (h : Co.fitsI p = true) : (putI p).length ≤ 200 := by
  obtain ⟨h24, _⟩ := Co.fits_parts h
  unfold putI
  rw [List.length_append, Oc.be_len, Oc.bes_len, nums_len]
  omega
theorem fits_of {x : Int} (h0 : -2147483648 ≤ x) (h1 : x ≤ 2147483647) : Oc.fitsN x = true := by unfold Oc.fitsN; simp; omega
def PutPost (w0 W : World) (B : Nat) (zs : List UInt8) (e : Ending) (W' : World) : Prop := e = .returned (.tuple #[]) ∧ Grew w0 W' ∧ KeptW w0.heap.size B W W' ∧ ∃ vb', WriterAt w0.heap.size B W' vb' zs
theorem route_box {W : World} {q : Nat} {t : TypeId} {id kind par r0 r1 r2 r3 r4 r5 r6 r7 : Int} {vf vp : Value} (h : W.heap[q]? = some (.cells #[.int .i64 id, .int .i64 kind, vf, vp, .int .i64 par, .int .i64 r0, .int .i64 r1, .int .i64 r2, .int .i64 r3, .int .i64 r4, .int .i64 r5, .int .i64 r6, .int .i64 r7] t)) : IntsAt W (.slice (some ⟨q, 5, none⟩) 8 8) [r0, r1, r2, r3, r4, r5, r6, r7] := by
  refine ⟨_, 8, rfl, (by unfold maxLen; simp), fun _ => ⟨_, _, rfl, fun i x hi j u hu => ?_⟩⟩
  rw [cell_of h]
  match j, hu with
  | 0, hu =>
    simp at hu
    subst hu
    match i, hi with
    | 0, hi => simp at hi; subst hi; rfl
    | 1, hi => simp at hi; subst hi; rfl
    | 2, hi => simp at hi; subst hi; rfl
    | 3, hi => simp at hi; subst hi; rfl
    | 4, hi => simp at hi; subst hi; rfl
    | 5, hi => simp at hi; subst hi; rfl
    | 6, hi => simp at hi; subst hi; rfl
    | 7, hi => simp at hi; subst hi; rfl
    | i + 8, hi => simp at hi
  | j + 1, hu => simp at hu
theorem putNd_eq (ys : List UInt8) (n : Gr.Nd) : ((((ys ++ Oc.bes [n.id, n.kind, n.frm.length]) ++ Oc.bes n.frm) ++ putI n.prog) ++ Oc.bes [n.par]) ++ Oc.bes n.route = ys ++ Gr.putNd putI n := by
  rw [be_three, be_one]
  unfold Gr.putNd
  simp only [List.append_assoc]
set_option maxHeartbeats 8000000 in
theorem putNode_any (w0 W : World) (B : Nat) (vb : Value) (ys : List UInt8) (c : NdC) (n : Gr.Nd) (lp : Int) (hlp : -2147483648 ≤ lp) (hw : WriterAt w0.heap.size B W vb ys) (hg : Grew w0 W) (hn : NodeIs W c n) (hsf : Apart w0.heap.size B W c.vf) (hsp : Apart w0.heap.size B W c.vp) (hok : Gr.OkB fitsP lp n) (hlen : ys.length ≤ 8000) :
    Calls Tryz.prog 129 #[.pointer (some ⟨B, 0, none⟩), .agg #[.int .i64 c.id, .int .i64 c.kind, .slice c.af c.nf c.cf, .slice c.ap c.np c.cp, .int .i64 c.par, .int .i64 c.r0, .int .i64 c.r1, .int .i64 c.r2, .int .i64 c.r3, .int .i64 c.r4, .int .i64 c.r5, .int .i64 c.r6, .int .i64 c.r7]] W (PutPost w0 W B (ys ++ Gr.putNd putI n)) := by
  obtain ⟨id, kind, af, cf, ap, cp, par, r0, r1, r2, r3, r4, r5, r6, r7, rfl⟩ := hn.lit
  have hr8 := hn.route
  simp only at hr8
  have HW := Lib.hid hw
  have HG := Lib.hid hg
  have HN := Lib.hid hn
  have HSF := Lib.hid hsf
  have HSP := Lib.hid hsp
  have HOK := Lib.hid hok
  have HR8 := Lib.hid hr8
  have hBlt := (Array.getElem?_eq_some_iff.1 hw.2.1).1
  have hneB : W.heap.size ≠ B := by omega
  clear hw hg hn hsf hsp hok hr8
  have hbx0 : (W.alloc (.cells #[.int .i64 id, .int .i64 kind, .slice af n.frm.length cf, .slice ap n.prog.length cp, .int .i64 par, .int .i64 r0, .int .i64 r1, .int .i64 r2, .int .i64 r3, .int .i64 r4, .int .i64 r5, .int .i64 r6, .int .i64 r7] 42)).heap[W.heap.size]? = some (.cells #[.int .i64 id, .int .i64 kind, .slice af n.frm.length cf, .slice ap n.prog.length cp, .int .i64 par, .int .i64 r0, .int .i64 r1, .int .i64 r2, .int .i64 r3, .int .i64 r4, .int .i64 r5, .int .i64 r6, .int .i64 r7] 42) := heap_new_at W _ _ rfl
  have HBX0 := Lib.hid hbx0
  clear hbx0
  show Calls Tryz.prog 129 #[.pointer (some ⟨B, 0, none⟩), .agg #[.int .i64 id, .int .i64 kind, .slice af n.frm.length cf, .slice ap n.prog.length cp, .int .i64 par, .int .i64 r0, .int .i64 r1, .int .i64 r2, .int .i64 r3, .int .i64 r4, .int .i64 r5, .int .i64 r6, .int .i64 r7]] W _
  go_enter Tryz.func129, Tryz.ntmps129
  go_wp2_with fail
  refine (writerNum_freshK w0 (W.alloc (.cells #[.int .i64 id, .int .i64 kind, .slice af n.frm.length cf, .slice ap n.prog.length cp, .int .i64 par, .int .i64 r0, .int .i64 r1, .int .i64 r2, .int .i64 r3, .int .i64 r4, .int .i64 r5, .int .i64 r6, .int .i64 r7] 42)) B vb ys [id, kind, n.frm.length] [.int .i64 id, .int .i64 kind, .int .i64 n.frm.length] _ _ _ (HW.out.grew (by repeat (first | with_reducible exact Grew.refl _ | apply Grew.more | apply Grew.alloc | apply Grew.drew | apply Grew.drewN))) (HG.out.alloc _) rfl (by simp [go_sem]) rfl ?_ (by simp; omega)).mono ?_
  · have h1 := HOK.out.i
    have h2 := HOK.out.k
    have h3 := HOK.out.m
    have h4 := HN.out.id
    have h5 := HN.out.kind
    simp only at h4 h5
    simp only [List.all_cons, List.all_nil, Bool.and_true, Bool.and_eq_true]
    exact ⟨fits_of (by omega) (by omega), fits_of (by omega) (by omega), fits_of (by omega) (by omega)⟩
  rintro e W1 ⟨rfl, hg1, hk1, vb1, hw1⟩
  have HW1 := Lib.hid hw1
  have HG1 := Lib.hid hg1
  have HK1 := Lib.hid ((KeptW.ofGrew ((Grew.refl W).alloc _)).trans hk1)
  have hbx1 := hk1.cells HBX0.out hneB (by decide)
  have HBX1 := Lib.hid hbx1
  clear hw1 hg1 hk1
  have x2 := cell_of (o := 2) HBX1.out
  simp at x2
  have px2 := Pre.mk (heap_lt HBX1.out)
  have hl1 := bes_len3 id kind n.frm.length
  have hfl := HOK.out.m
  have HL1 := Lib.hid hl1
  clear hl1
  go_wp2_with fail
  refine (writerNum_keep w0 W1 B vb1 _ _ n.frm HW1.out HG1.out (HSF.out.kept HK1.out HN.out.f (ints_lt HN.out.f)) (HSF.out.to HK1.out) (List.all_eq_true.2 fun x hx => ?_) (by rw [List.length_append, HL1.out]; omega)).mono ?_
  · have := HOK.out.f x hx
    exact fits_of (by omega) (by omega)
  rintro e W2 ⟨rfl, hg2, hk2, vb2, hw2⟩
  have HW2 := Lib.hid hw2
  have HG2 := Lib.hid hg2
  have HK2 := Lib.hid (HK1.out.trans hk2)
  have hbx2 := hk2.cells HBX1.out hneB (by decide)
  have HBX2 := Lib.hid hbx2
  clear hw2 hg2 hk2 hbx2 x2 px2
  have x3 := cell_of (o := 3) HBX2.out
  simp at x3
  have px3 := Pre.mk (heap_lt HBX2.out)
  go_wp2_with fail
  refine (codePut_keep w0 W2 B vb2 _ _ n.prog HW2.out HG2.out (HSP.out.kept HK2.out HN.out.p (vals_lt HN.out.p)) (HSP.out.to HK2.out) HOK.out.p (by rw [List.length_append, List.length_append, HL1.out, Oc.bes_len]; omega)).mono ?_
  rintro e W3 ⟨rfl, hg3, hk3, vb3, hw3⟩
  have HW3 := Lib.hid hw3
  have HG3 := Lib.hid hg3
  have HK3 := Lib.hid (HK2.out.trans hk3)
  have hbx3 := hk3.cells HBX2.out hneB (by decide)
  have HBX3 := Lib.hid hbx3
  have hpl := putI_len n.prog HOK.out.p
  clear hw3 hg3 hk3 hbx3 x3 px3
  have x4 := cell_of (o := 4) HBX3.out
  simp at x4
  have px4 := Pre.mk (heap_lt HBX3.out)
  go_wp2_with fail
  refine (writerNum_freshK w0 W3 B vb3 _ [par] [.int .i64 par] _ _ _ HW3.out HG3.out rfl (by simp [go_sem]) rfl ?_ (by simp only [List.length_append, HL1.out, Oc.bes_len, List.length_cons, List.length_nil]; omega)).mono ?_
  · have h1 := HOK.out.r
    have h4 := HN.out.par
    simp only at h4
    simp only [List.all_cons, List.all_nil, Bool.and_true]
    exact fits_of (by omega) (by omega)
  rintro e W4 ⟨rfl, hg4, hk4, vb4, hw4⟩
  have HW4 := Lib.hid hw4
  have HG4 := Lib.hid hg4
  have HK4 := Lib.hid (HK3.out.trans hk4)
  have hbx4 := hk4.cells HBX3.out hneB (by decide)
  have HBX4 := Lib.hid hbx4
  clear hw4 hg4 hk4 hbx4 x4 px4
  have px5 := Pre.mk (heap_lt HBX4.out)
  go_wp2_with fail
  refine (writerNum_keep w0 W4 B vb4 _ _ [r0, r1, r2, r3, r4, r5, r6, r7] HW4.out HG4.out (route_box HBX4.out) ?_ (List.all_eq_true.2 fun x hx => ?_) (by simp only [List.length_append, HL1.out, Oc.bes_len, List.length_cons, List.length_nil]; omega)).mono ?_
  · rintro b off ⟨m, k, e⟩
    cases e
    exact ⟨.inr ⟨_, _, _, HBX4.out, by decide⟩, hneB⟩
  · rw [← HR8.out] at hx
    have := HOK.out.o x hx
    exact fits_of (by omega) (by omega)
  rintro e W5 ⟨rfl, hg5, hk5, vb5, hw5⟩
  have HW5 := Lib.hid hw5
  have HG5 := Lib.hid hg5
  have HK5 := Lib.hid (HK4.out.trans hk5)
  clear hw5 hg5 hk5
  go_wp2
  go_end0
  refine ⟨rfl, HG5.out, HK5.out, vb5, ?_⟩
  have h1 := HN.out.id
  have h2 := HN.out.kind
  have h3 := HN.out.par
  simp only at h1 h2 h3
  rw [← putNd_eq, h1, h2, h3, HR8.out]
  exact HW5.out
end Go.Proofs.YtmnllmbchpebbaaGreatDoor

/-! pack.putGraph, Graph. -/
namespace Go.Proofs.YtmnllmbchpebbaaGreatDoor
set_option linter.unusedSimpArgs false
set_option linter.unusedVariables false
open Go.RowKit Ga
set_option maxRecDepth 100000

theorem OwnsNd.kept {base base0 B : Nat} {W W' : World} {c : NdC} {n : Gr.Nd} (o : OwnsNd base W c n) (hk : KeptW base0 B W W') (hB : B < base) : OwnsNd base W' c n := by
  refine ⟨OwnAt.same o.1 fun b h => ?_, OwnAt.same o.2 fun b h => ?_⟩
  · obtain ⟨h1, cs, h2⟩ := OwnAt.block o.1 h
    exact hk.2 b (heap_lt h2) (by omega) (.inr ⟨_, _, _, h2, by decide⟩)
  · obtain ⟨h1, cs, h2⟩ := OwnAt.block o.2 h
    exact hk.2 b (heap_lt h2) (by omega) (.inr ⟨_, _, _, h2, by decide⟩)
theorem NodesOwn.kept {base base0 B : Nat} {W W' : World} {v : Value} {lc : List NdC} (o : NodesOwn base W v lc) (hk : KeptW base0 B W W') (hB : B < base) : NodesOwn base W' v lc :=
  OwnAt.same o fun b h => by
    obtain ⟨h1, cs, h2⟩ := OwnAt.block o h
    exact hk.2 b (heap_lt h2) (by omega) (.inr ⟨_, _, _, h2, by decide⟩)
theorem NodesIn.kept {base base0 B : Nat} {W W' : World} {lc : List NdC} {l : List Gr.Nd} (h : NodesIn base W lc l) (hk : KeptW base0 B W W') (hB : B < base) : NodesIn base W' lc l :=
  Rel.mono (fun c n ⟨h1, h2⟩ => ⟨(h2.kept hk hB).is h1, h2.kept hk hB⟩) h
theorem OwnsNd.apartF {base base0 B : Nat} {W : World} {c : NdC} {n : Gr.Nd} (o : OwnsNd base W c n) (hB : B < base) : Apart base0 B W c.vf := by
  rintro b off ⟨m, k, e⟩
  have h : c.vf.ownBlock = some b := by rw [e]; rfl
  obtain ⟨h1, cs, h2⟩ := OwnAt.block o.1 h
  exact ⟨.inr ⟨_, _, _, h2, by decide⟩, by omega⟩
theorem OwnsNd.apartP {base base0 B : Nat} {W : World} {c : NdC} {n : Gr.Nd} (o : OwnsNd base W c n) (hB : B < base) : Apart base0 B W c.vp := by
  rintro b off ⟨m, k, e⟩
  have h : c.vp.ownBlock = some b := by rw [e]; rfl
  obtain ⟨h1, cs, h2⟩ := OwnAt.block o.2 h
  exact ⟨.inr ⟨_, _, _, h2, by decide⟩, by omega⟩
theorem putNd_len {n : Gr.Nd} {lp : Int} (h : Gr.OkB fitsP lp n) : (Gr.putNd putI n).length ≤ 300 := by
  have h1 := putI_len n.prog h.p
  have h2 := h.m
  have h3 := h.ol
  unfold Gr.putNd
  simp only [List.length_append, Oc.be_len, Oc.bes_len]
  omega
theorem flat_len {lp : Int} : ∀ {l : List Gr.Nd}, (∀ n ∈ l, Gr.OkB fitsP lp n) → (l.flatMap (Gr.putNd putI)).length ≤ l.length * 300
  | [], _ => by simp
  | n :: l, h => by
    have h1 := putNd_len (h n (List.mem_cons_self ..))
    have h2 := flat_len (l := l) fun m hm => h m (List.mem_cons_of_mem _ hm)
    rw [List.flatMap_cons, List.length_append, List.length_cons]
    omega
end Go.Proofs.YtmnllmbchpebbaaGreatDoor

/-! code.Get, with what else it leaves; pack's reader. -/
namespace Go.Proofs.YtmnllmbchpebbaaGreatDoor
set_option linter.unusedSimpArgs false
set_option linter.unusedVariables false
open Go.RowKit Ga
set_option maxRecDepth 100000

theorem OwnAt.up {α : Type} {base base' : Nat} {e : TypeId} {k : Nat} {enc : α → List Value} {w : World} {v : Value} {l : List α} (h : OwnAt base e k enc w v l) (hb : ∀ q, v.ownBlock = some q → base' ≤ q) : OwnAt base' e k enc w v l := by
  obtain ⟨h1, h2⟩ := h
  refine ⟨h1, ?_⟩
  rcases h2 with h | ⟨g, cap, cur, rfl, h3, r⟩
  · exact .inl h
  · exact .inr ⟨g, cap, cur, rfl, hb g rfl, r⟩
theorem Keep.app {α : Type} {e : TypeId} {k : Nat} {enc : α → List Value} {B : Nat} {w0 w W W' : World} {v v' : Value} {l : List α} (hk : Keep B w W) (hA : Appended w0 e k enc W v l v' W') (hi : ∀ q, v.ownBlock = some q → w.heap.size ≤ q) : Keep B w W' :=
  ⟨Nat.le_trans hk.1 hA.2.2.1, fun q hq hn => (hA.2.2.2.1 q (Nat.lt_of_lt_of_le hq hk.1) fun h => by have := hi q h; omega).trans (hk.2 q hq hn)⟩
theorem app_hi {α : Type} {e : TypeId} {k : Nat} {enc : α → List Value} {B : Nat} {w0 w W W' : World} {v v' : Value} {l : List α} (hk : Keep B w W) (hA : Appended w0 e k enc W v l v' W') (hi : ∀ q, v.ownBlock = some q → w.heap.size ≤ q) : ∀ q, v'.ownBlock = some q → w.heap.size ≤ q := fun q hq => by
  rcases hA.2.2.2.2 q hq with h | h
  · exact hi q h
  · exact Nat.le_trans hk.1 h
def GotProg (w0 w w' : World) (B : Nat) (v : Value) (r : List Val × Int × List UInt8) : Prop := OwnAt w.heap.size 131 2 encI w' v r.1 ∧ ReaderAt w0.heap.size B w' r.2.2 ∧ Grew w0 w' ∧ Keep B w w'
theorem GotProg.none {w0 w w' : World} {B : Nat} {r : List Val × Int × List UInt8} {e : Int} {s : List UInt8} (h : r = ([], e, s)) (h1 : ReaderAt w0.heap.size B w' s) (h2 : Grew w0 w') (h3 : Keep B w w') : GotProg w0 w w' B (.slice none 0 0) r := by
  subst h; exact ⟨OwnAt.nil _, h1, h2, h3⟩
theorem GotProg.some {w0 w w' : World} {B : Nat} {v : Value} {r : List Val × Int × List UInt8} {l : List Val} {e : Int} {s : List UInt8} (h : r = (l, e, s)) (h0 : OwnAt w.heap.size 131 2 encI w' v l) (h1 : ReaderAt w0.heap.size B w' s) (h2 : Grew w0 w') (h3 : Keep B w w') : GotProg w0 w w' B v r := by
  subst h; exact ⟨h0, h1, h2, h3⟩
set_option maxHeartbeats 8000000 in
theorem codeGet_keep (w0 : World) (B : Nat) (s : List UInt8) (w : World) (h : ReaderAt w0.heap.size B w s) (hg : Grew w0 w) (hs : s.length ≤ 1000000) :
    Calls Tryz.prog 119 #[.pointer (some ⟨B, 0, none⟩)] w fun e w' => ∃ v, e = .returned (.tuple #[v, .int .i64 (getL s).2.1]) ∧ GotProg w0 w w' B v (getL s) := by
  have hW := octWithin_any w0 B s 0 24 w h hg hs
  have hl1 := within_len s 0 24
  have hwo := within_ok (s := s) (a := 0) (b := 24)
  generalize hr : within s 0 24 = r at *
  obtain ⟨n, e1, s1⟩ := r
  simp only at hW hl1 hwo
  have HW := Lib.hid hW
  have HR0 := Lib.hid hr
  clear hW hr
  by_cases he : e1 = 0
  · subst he
    obtain ⟨n0, n24⟩ := hwo rfl
    obtain ⟨N, rfl⟩ : ∃ N : Nat, n = N := ⟨n.toNat, by omega⟩
    clear hwo
    go_enter Tryz.func119, Tryz.ntmps119
    go_wp2_with (go_at_call 83; refine HW.out.mono ?_; rintro e w1 ⟨rfl, hr1, hg1, hk1⟩; (have HR1 := Lib.hid hr1); (have HG1 := Lib.hid hg1); (have HK1 := Lib.hid hk1); clear hr1 hg1 hk1)
    go_loopw [6, 19] (fun v6 i wr => ∃ (k : Nat) (acc : List Val) (sk : List UInt8), k ≤ N ∧ i = .int .i64 k ∧ acc.length = k ∧ readL (N - k) sk acc = readL N s1 [] ∧ sk.length ≤ 1000000 ∧ OwnAt w0.heap.size 131 2 encI wr v6 acc ∧ ReaderAt w0.heap.size B wr sk ∧ Grew w0 wr ∧ Hid (Keep B w wr) ∧ Hid (∀ q, v6.ownBlock = some q → w.heap.size ≤ q)) (fun _ i _ => N - (intOf i).toNat)
    case atStart => exact ⟨0, [], s1, Nat.zero_le _, rfl, rfl, rfl, by omega, OwnAt.nil _, HR1.out, HG1.out, HK1, Lib.hid (fun q h => by cases h)⟩
    case round =>
      obtain ⟨k, acc, sk, hk, rfl, hacc, hrd, hsk, hown, hrk, hgk, HKW, HHI⟩ := hrel
      by_cases hlt : k < N
      · have hW2 := octWithin_any w0 B sk 0 17 wr hrk hgk hsk
        have hl2 := within_len sk 0 17
        obtain ⟨m, hm⟩ : ∃ m, N - k = m + 1 := ⟨N - k - 1, by omega⟩
        rw [hm] at hrd
        generalize hr2 : within sk 0 17 = r2 at *
        obtain ⟨op, e2, s2⟩ := r2
        simp only at hW2 hl2
        have hne1 := own_ne hown hrk.2 (by decide)
        have HW2 := Lib.hid hW2
        have HRD := Lib.hid hrd
        have HO := Lib.hid hown
        have HNE := Lib.hid hne1
        have HR2 := Lib.hid hr2
        have HACC := Lib.hid hacc
        have HM := Lib.hid hm
        clear hW2 hrd hown hne1 hr2 hacc hm hrk hgk
        by_cases he2 : e2 = 0
        · subst he2
          have hl3 := within_len s2 (-2147483648) 2147483647
          obtain ⟨a, e3, s3, hr3⟩ : ∃ a e3 s3, numR s2 = (a, e3, s3) := ⟨_, _, _, rfl⟩
          have hr3' : within s2 (-2147483648) 2147483647 = (a, e3, s3) := hr3
          have HN3 : Hid (∀ w2, ReaderAt w0.heap.size B w2 s2 → Grew w0 w2 → Calls Tryz.prog 157 #[.pointer (some ⟨B, 0, none⟩)] w2 fun e w' => e = .returned (.tuple #[.int .i64 a, .int .i64 e3]) ∧ ReaderAt w0.heap.size B w' s3 ∧ Grew w0 w' ∧ Keep B w2 w') := Lib.hid (fun w2 h1 h2 => by
            have := octNum_any w0 B s2 w2 h1 h2 (by omega)
            rw [hr3'] at this
            exact this)
          rw [hr3'] at hl3
          simp only at hl3
          have HR3 := Lib.hid hr3
          clear hr3 hr3'
          by_cases he3 : e3 = 0
          · subst he3
            go_wp2_with (first
              | (go_at_call 83; refine HW2.out.mono ?_; rintro e w2 ⟨rfl, hq2, hg2, hk2⟩; (have HQ2 := Lib.hid hq2); (have HG2 := Lib.hid hg2); (have HK2 := Lib.hid hk2); clear hq2 hg2 hk2)
              | (go_at_call 157; refine (HN3.out _ HQ2.out HG2.out).mono ?_; rintro e w3 ⟨rfl, hq3, hg3, hk3⟩; (have HQ3 := Lib.hid hq3); (have HG3 := Lib.hid hg3); (have HO3 := Lib.hid ((HK2.out.trans hk3).own HO.out HNE.out)); (have HK3 := Lib.hid (HKW.out.trans (HK2.out.trans hk3))); clear hq3 hg3 hk3)
              | (at_builtin; refine wpList_ownK (w0 := w0) rfl (.tmp 37) (.tmp 41) 39 _ _ _ _ [(op, a)] rfl Tryz.underlying39 infoIns rfl (by decide) encI_len encI_one rfl (HO3.out.grew (by repeat (first | with_reducible exact Grew.refl _ | apply Grew.more | apply Grew.alloc | apply Grew.drew | apply Grew.drewN))) (HG3.out.alloc _) rfl (fun j u hu => encI_at _ (op, a) _ _ rfl rfl j u (by simpa using hu)) (by simp [HACC.out]; omega) (by decide) (by simp) ?_; intro v9 W9 hA9; (have hkeep9 := hA9.2.2.2.1); (have HQ9 : Hid (ReaderAt w0.heap.size B W9 s3) := Lib.hid ⟨HQ3.out.1, by rw [hkeep9 B (by have := (Array.getElem?_eq_some_iff.1 HQ3.out.2).1; simp [go_sem]; omega) (own_ne HO3.out HQ3.out.2 (by decide))]; exact heap_alloc_old HQ3.out.2 _⟩); (have HK9 := Lib.hid (Keep.app (HK3.out.trans (Keep.ofGrew (by repeat (first | with_reducible exact Grew.refl _ | apply Grew.more | apply Grew.alloc | apply Grew.drew | apply Grew.drewN)))) hA9 HHI.out)); (have HHI9 := Lib.hid (app_hi (HK3.out.trans (Keep.ofGrew (by repeat (first | with_reducible exact Grew.refl _ | apply Grew.more | apply Grew.alloc | apply Grew.drew | apply Grew.drewN)))) hA9 HHI.out)); (have HA9 := Lib.hid hA9); clear hkeep9 hA9)
              )
            go_roundw
            case rel =>
              refine ⟨k + 1, acc ++ [(op, a)], s3, by omega, by go_num, by rw [List.length_append, HACC.out]; rfl, ?_, by omega, HA9.out.2.1, HQ9.out, HA9.out.1, HK9, HHI9⟩
              have h1 := HRD.out
              rw [readL_ok HR2.out HR3.out] at h1
              rw [← h1]
              congr 1
              have := HM.out
              omega
            case measure => first | (simp [intOf]; done) | (simp [intOf]; omega)
          · have hne3 : (e3 != 0) = true := by rw [bne_iff_ne]; exact he3
            have hGe : getL s = ([], e3, s3) := getL_bad HR0.out (by rw [← HRD.out, readL_bad2 HR2.out HR3.out he3]) he3
            have HGE := Lib.hid hGe
            clear hGe he3
            go_wp2_with (first
              | (go_at_call 83; refine HW2.out.mono ?_; rintro e w2 ⟨rfl, hq2, hg2, hk2⟩; (have HQ2 := Lib.hid hq2); (have HG2 := Lib.hid hg2); (have HK2 := Lib.hid hk2); clear hq2 hg2 hk2)
              | (go_at_call 157; refine (HN3.out _ HQ2.out HG2.out).mono ?_; rintro e w3 ⟨rfl, hq3, hg3, hk3⟩; (have HQ3 := Lib.hid hq3); (have HG3 := Lib.hid hg3); (have HK3 := Lib.hid hk3); clear hq3 hg3 hk3)
              )
            exact bodyPost_ret (v := .tuple #[.slice none 0 0, .int .i64 e3]) (by simp [results, Tryz.results119, go_sem]) rfl ⟨_, by rw [HGE.out], GotProg.none HGE.out HQ3.out HG3.out (HKW.out.trans (HK2.out.trans HK3.out))⟩
        · have hne2 : (e2 != 0) = true := by rw [bne_iff_ne]; exact he2
          have hGe : getL s = ([], e2, s2) := getL_bad HR0.out (by rw [← HRD.out, readL_bad1 HR2.out he2]) he2
          have HGE := Lib.hid hGe
          clear hGe he2
          go_wp2_with (go_at_call 83; refine HW2.out.mono ?_; rintro e w2 ⟨rfl, hq2, hg2, hk2⟩; (have HQ2 := Lib.hid hq2); (have HG2 := Lib.hid hg2); (have HK2 := Lib.hid hk2); clear hq2 hg2 hk2)
          exact bodyPost_ret (v := .tuple #[.slice none 0 0, .int .i64 e2]) (by simp [results, Tryz.results119, go_sem]) rfl ⟨_, by rw [HGE.out], GotProg.none HGE.out HQ2.out HG2.out (HKW.out.trans HK2.out)⟩
      · obtain rfl : k = N := by omega
        have hrd2 : readL k s1 [] = (acc, 0, sk) := by rw [← hrd, Nat.sub_self]; rfl
        have hGe := getL_fit HR0.out hrd2
        have hrows : ValsAt wr u6 acc := hown.rows encI_len
        have HRO := Lib.hid hrows
        have HOW := Lib.hid hown
        have HRK := Lib.hid hrk
        have HGK := Lib.hid hgk
        clear hrd hrd2 hown hrows hrk hgk
        cases hf : Co.fitsI acc
        · rw [hf] at hGe
          have hGe2 : getL s = ([], 4, sk) := hGe.trans (if_neg (by decide))
          have HGE := Lib.hid hGe2
          have HF := Lib.hid hf
          clear hGe hGe2 hf
          go_wp2_with (go_at_call 108; refine (codeFits_any _ acc _ HRO.out).mono ?_; rintro e w2 ⟨rfl, R5, n5, rfl⟩; rw [HF.out])
          exact bodyPost_ret (v := .tuple #[.slice none 0 0, .int .i64 4]) (by simp [results, Tryz.results119, go_sem]) rfl ⟨_, by rw [HGE.out], GotProg.none HGE.out (HRK.out.grew (by repeat (first | with_reducible exact Grew.refl _ | apply Grew.more | apply Grew.alloc | apply Grew.drew | apply Grew.drewN))) (HGK.out.more _ _) (HKW.out.trans (Keep.ofGrew (by repeat (first | with_reducible exact Grew.refl _ | apply Grew.more | apply Grew.alloc | apply Grew.drew | apply Grew.drewN))))⟩
        · rw [hf] at hGe
          have hGe2 : getL s = (acc, 0, sk) := hGe.trans (if_pos rfl)
          have HGE := Lib.hid hGe2
          have HF := Lib.hid hf
          clear hGe hGe2 hf
          go_wp2_with (go_at_call 108; refine (codeFits_any _ acc _ HRO.out).mono ?_; rintro e w2 ⟨rfl, R5, n5, rfl⟩; rw [HF.out])
          exact bodyPost_ret (v := .tuple #[u6, .int .i64 0]) (by simp [results, Tryz.results119, go_sem]) rfl ⟨_, by rw [HGE.out], GotProg.some HGE.out (OwnAt.up (HOW.out.grew (by repeat (first | with_reducible exact Grew.refl _ | apply Grew.more | apply Grew.alloc | apply Grew.drew | apply Grew.drewN))) HHI.out) (HRK.out.grew (by repeat (first | with_reducible exact Grew.refl _ | apply Grew.more | apply Grew.alloc | apply Grew.drew | apply Grew.drewN))) (HGK.out.more _ _) (HKW.out.trans (Keep.ofGrew (by repeat (first | with_reducible exact Grew.refl _ | apply Grew.more | apply Grew.alloc | apply Grew.drew | apply Grew.drewN))))⟩
  · have hGe : getL s = ([], e1, s1) := by rw [getL_of HR0.out, if_pos he]
    have HGE := Lib.hid hGe
    have hne : (e1 != 0) = true := by rw [bne_iff_ne]; exact he
    clear hGe hwo he
    go_enter Tryz.func119, Tryz.ntmps119
    go_wp2_with (go_at_call 83; refine HW.out.mono ?_; rintro e w1 ⟨rfl, hr1, hg1, hk1⟩; (have HR1 := Lib.hid hr1); (have HG1 := Lib.hid hg1); (have HK1 := Lib.hid hk1); clear hr1 hg1 hk1)
    exact bodyPost_ret (v := .tuple #[.slice none 0 0, .int .i64 e1]) (by simp [results, Tryz.results119, go_sem]) rfl ⟨_, by rw [HGE.out], GotProg.none HGE.out HR1.out HG1.out HK1.out⟩
end Go.Proofs.YtmnllmbchpebbaaGreatDoor

/-! pack's reader: num, prog, list, end. -/
namespace Go.Proofs.YtmnllmbchpebbaaGreatDoor
set_option linter.unusedSimpArgs false
set_option linter.unusedVariables false
open Go.RowKit Ga
set_option maxRecDepth 100000

/-- pack's reader at block A: octet's at block B; what is left, and the first error -/
def RdAt (base A B : Nat) (W : World) (s : Gr.Rs) : Prop := base ≤ A ∧ W.heap[A]? = some (.cells #[.pointer (some ⟨B, 0, none⟩), .int .i64 s.2] 89) ∧ ReaderAt base B W s.1
def Keep2 (A B : Nat) (w w' : World) : Prop := w.heap.size ≤ w'.heap.size ∧ ∀ q, q < w.heap.size → q ≠ A → q ≠ B → w'.heap[q]? = w.heap[q]?
theorem Keep2.refl (A B : Nat) (w : World) : Keep2 A B w w := ⟨Nat.le_refl _, fun _ _ _ _ => rfl⟩
theorem Keep2.trans {A B : Nat} {a b c : World} (h : Keep2 A B a b) (k : Keep2 A B b c) : Keep2 A B a c :=
  ⟨Nat.le_trans h.1 k.1, fun q hq h1 h2 => (k.2 q (Nat.lt_of_lt_of_le hq h.1) h1 h2).trans (h.2 q hq h1 h2)⟩
theorem Keep2.ofGrew {A B : Nat} {w w' : World} (g : Grew w w') : Keep2 A B w w' := ⟨g.below.size, fun q hq _ _ => g.below.block q hq⟩
theorem Keep2.ofKeep {A B : Nat} {w w' : World} (k : Keep B w w') : Keep2 A B w w' := ⟨k.1, fun q hq _ h => k.2 q hq h⟩
theorem Keep2.set {A B : Nat} {w : World} {o : Nat} {v : Value} : Keep2 A B w (w.setCell ⟨A, o, none⟩ v) := ⟨by rw [World.size_setCell]; exact Nat.le_refl _, fun q hq h _ => set_other fun e => h e.symm⟩
theorem RdAt.ne {base A B : Nat} {W : World} {s : Gr.Rs} (h : RdAt base A B W s) : A ≠ B := fun e => by
  have h1 := h.2.1
  rw [e, h.2.2.2] at h1
  cases h1
theorem RdAt.grew {base A B : Nat} {W W' : World} {s : Gr.Rs} (h : RdAt base A B W s) (g : Grew W W') : RdAt base A B W' s := ⟨h.1, grew_heap g h.2.1, h.2.2.grew g⟩
theorem RdAt.put {base A B : Nat} {W W1 : World} {s : Gr.Rs} {z : List UInt8} {e : Int} (h : RdAt base A B W s) (hr : ReaderAt base B W1 z) (hk : Keep B W W1) : W1.heap[A]? = some (.cells #[.pointer (some ⟨B, 0, none⟩), .int .i64 s.2] 89) ∧ RdAt base A B (W1.setCell ⟨A, 1, none⟩ (.int .i64 e)) (z, e) := by
  have hA : W1.heap[A]? = some (.cells #[.pointer (some ⟨B, 0, none⟩), .int .i64 s.2] 89) := by rw [hk.2 A (heap_lt h.2.1) h.ne]; exact h.2.1
  exact ⟨hA, h.1, by rw [set_self hA]; rfl, hr.1, by rw [set_other h.ne]; exact hr.2⟩
theorem wn_len (s : List UInt8) (a b : Int) : (Gr.wn s a b).2.2.length ≤ s.length := within_len s a b
theorem numS_len (a b : Int) (s : Gr.Rs) : (Gr.numS a b s).2.1.length ≤ s.1.length := by
  unfold Gr.numS
  split
  · exact Nat.le_refl _
  · exact wn_len _ _ _
theorem numS_range {a b : Int} (s : Gr.Rs) (ha : a ≤ 0) (hb : 0 ≤ b) : a ≤ (Gr.numS a b s).1 ∧ (Gr.numS a b s).1 ≤ b := by
  unfold Gr.numS
  split
  · exact ⟨ha, hb⟩
  · unfold Gr.wn
    split
    · exact ⟨ha, hb⟩
    · split
      · exact ⟨ha, hb⟩
      · simp only; omega
def RdPost (w0 W : World) (A B : Nat) (v : Value) (s : Gr.Rs) (e : Ending) (W' : World) : Prop := e = .returned v ∧ RdAt w0.heap.size A B W' s ∧ Grew w0 W' ∧ Keep2 A B W W'
set_option maxHeartbeats 4000000 in
theorem rdNum_any (w0 : World) (A B : Nat) (s : Gr.Rs) (a b : Int) (W : World) (h : RdAt w0.heap.size A B W s) (hg : Grew w0 W) (hs : s.1.length ≤ 1000000) :
    Calls Tryz.prog 42 #[.pointer (some ⟨A, 0, none⟩), .int .i64 a, .int .i64 b] W (RdPost w0 W A B (.int .i64 (Gr.numS a b s).1) (Gr.numS a b s).2) := by
  have H := Lib.hid h
  have HG := Lib.hid hg
  have c0 := cell_of (o := 0) h.2.1
  have c1 := cell_of (o := 1) h.2.1
  have f1 := frozen_of (o := 1) h.2.1
  have hpA := Pre.mk (heap_lt h.2.1)
  simp at c0 c1
  obtain ⟨z, x⟩ := s
  simp only at hs c1
  by_cases he : x = 0
  · subst he
    have hn : Gr.numS a b (z, 0) = ((within z a b).1, ((within z a b).2.2, (within z a b).2.1)) := by unfold Gr.numS; rw [if_neg (by simp)]; rfl
    rw [hn]
    have hw := octWithin_any w0 B z a b W h.2.2 hg hs
    generalize within z a b = r at *
    obtain ⟨y, er, z'⟩ := r
    simp only at hw ⊢
    have HW := Lib.hid hw
    clear h hg hw hn
    go_enter Tryz.func42, Tryz.ntmps42
    go_wp2_with (go_at_call 83; refine HW.out.mono ?_; rintro e w1 ⟨rfl, hr1, hg1, hk1⟩; obtain ⟨hA1, hR1⟩ := RdAt.put (e := er) H.out hr1 hk1; (have d1 := cell_of (o := 1) hA1); (have g1 := frozen_of (o := 1) hA1); (have pA1 := Pre.mk (heap_lt hA1)); simp at d1; (have HR1 := Lib.hid hR1); (have HG1 := Lib.hid hg1); (have HK1 := Lib.hid hk1); clear hr1 hg1 hk1 hA1 hR1)
    go_ret
    exact ⟨rfl, HR1.out, HG1.out.set H.out.1 _, (Keep2.ofKeep HK1.out).trans Keep2.set⟩
  · rw [Gr.numS_err a b (s := (z, x)) he]
    have he2 : (x != 0) = true := by rw [bne_iff_ne]; exact he
    clear h hg he
    go_enter Tryz.func42, Tryz.ntmps42
    go_wp2
    go_ret
    exact ⟨rfl, H.out, HG.out, Keep2.refl _ _ _⟩
/-- a list's numbers, one behind the other -/
theorem listS_succ (a b : Int) : ∀ (k : Nat) (s : Gr.Rs), Gr.listS a b (k + 1) s = ((Gr.listS a b k s).1 ++ [(Gr.numS a b (Gr.listS a b k s).2).1], (Gr.numS a b (Gr.listS a b k s).2).2)
  | 0, s => rfl
  | k + 1, s => by
    have ih := listS_succ a b k (Gr.numS a b s).2
    rw [Gr.listS, ih]
    rfl
theorem listS_len (a b : Int) : ∀ (k : Nat) (s : Gr.Rs), (Gr.listS a b k s).1.length = k ∧ (Gr.listS a b k s).2.1.length ≤ s.1.length
  | 0, s => ⟨rfl, Nat.le_refl _⟩
  | k + 1, s => by
    obtain ⟨h1, h2⟩ := listS_len a b k (Gr.numS a b s).2
    have h3 := numS_len a b s
    refine ⟨?_, ?_⟩
    · rw [Gr.listS, List.length_cons, h1]
    · rw [Gr.listS]
      exact Nat.le_trans h2 h3
theorem OwnAt.keep2 {α : Type} {base base0 A B : Nat} {e : TypeId} {k : Nat} {enc : α → List Value} {w w' : World} {v : Value} {l : List α} {s : Gr.Rs} (h : OwnAt base e k enc w v l) (hk : Keep2 A B w w') (hr : RdAt base0 A B w s) (h1 : e ≠ 89 := by decide) (h2 : e ≠ 122 := by decide) : OwnAt base e k enc w' v l :=
  OwnAt.same h fun b hb => by
    obtain ⟨_, cs, hc⟩ := OwnAt.block h hb
    refine hk.2 b (heap_lt hc) (fun q => ?_) fun q => ?_
    · subst q
      have := hr.2.1
      rw [hc] at this
      cases this
      exact h1 rfl
    · subst q
      have := hr.2.2.2
      rw [hc] at this
      cases this
      exact h2 rfl
theorem RdAt.app {α : Type} {base base0 A B : Nat} {e : TypeId} {k : Nat} {enc : α → List Value} {w0 W W' : World} {v v' : Value} {l l2 : List α} {s : Gr.Rs} (h : RdAt base A B W s) (ho : OwnAt base0 e k enc W v l) (hA : Appended w0 e k enc W v l2 v' W') (h1 : 89 ≠ e := by decide) (h2 : 122 ≠ e := by decide) : RdAt base A B W' s :=
  ⟨h.1, by rw [hA.2.2.2.1 A (heap_lt h.2.1) (OwnAt.other ho h.2.1 h1)]; exact h.2.1, h.2.2.1, by rw [hA.2.2.2.1 B (heap_lt h.2.2.2) (OwnAt.other ho h.2.2.2 h2)]; exact h.2.2.2⟩
theorem Keep2.app {α : Type} {e : TypeId} {k : Nat} {enc : α → List Value} {A B : Nat} {w0 w W W' : World} {v v' : Value} {l : List α} (hk : Keep2 A B w W) (hA : Appended w0 e k enc W v l v' W') (hi : ∀ q, v.ownBlock = some q → w.heap.size ≤ q) : Keep2 A B w W' ∧ ∀ q, v'.ownBlock = some q → w.heap.size ≤ q :=
  ⟨⟨Nat.le_trans hk.1 hA.2.2.1, fun q hq h1 h2 => (hA.2.2.2.1 q (Nat.lt_of_lt_of_le hq hk.1) fun h => by have := hi q h; omega).trans (hk.2 q hq h1 h2)⟩, fun q hq => by
    rcases hA.2.2.2.2 q hq with h | h
    · exact hi q h
    · exact Nat.le_trans hk.1 h⟩
/-- a list comes back in memory of the call's own -/
def RdList (w0 W : World) (A B : Nat) (l : List Int) (s : Gr.Rs) (e : Ending) (W' : World) : Prop := ∃ v, e = .returned v ∧ OwnAt W.heap.size 3 1 encN W' v l ∧ RdAt w0.heap.size A B W' s ∧ Grew w0 W' ∧ Keep2 A B W W'
set_option maxHeartbeats 4000000 in
theorem rdList_any (w0 : World) (A B : Nat) (s : Gr.Rs) (m a b : Int) (W : World) (h : RdAt w0.heap.size A B W s) (hg : Grew w0 W) (hs : s.1.length ≤ 1000000) (hm : 0 ≤ m) (hm2 : m ≤ 1000) :
    Calls Tryz.prog 84 #[.pointer (some ⟨A, 0, none⟩), .int .i64 m, .int .i64 a, .int .i64 b] W (RdList w0 W A B (Gr.listS a b (Gr.numS 0 m s).1.toNat (Gr.numS 0 m s).2).1 (Gr.listS a b (Gr.numS 0 m s).1.toNat (Gr.numS 0 m s).2).2) := by
  have hn := rdNum_any w0 A B s 0 m W h hg hs
  have hr := numS_range (a := 0) (b := m) s (by omega) hm
  have hl := numS_len 0 m s
  generalize Gr.numS 0 m s = r at *
  obtain ⟨n, s1⟩ := r
  simp only at hn hr hl ⊢
  obtain ⟨N, rfl⟩ : ∃ N : Nat, n = N := ⟨n.toNat, by omega⟩
  rw [Int.toNat_natCast]
  have HN := Lib.hid hn
  have hBlt := heap_lt h.2.2.2
  clear h hg hn
  go_enter Tryz.func84, Tryz.ntmps84
  go_wp2_with (go_at_call 42; refine HN.out.mono ?_; rintro e w1 ⟨rfl, hr1, hg1, hk1⟩; (have HR1 := Lib.hid hr1); (have HG1 := Lib.hid hg1); (have HK1 := Lib.hid hk1); clear hr1 hg1 hk1)
  go_loopg [9, 13] N (fun gg s9 s13 wr => ∃ (k : Nat) (vk : Value), k ≤ N ∧ N - k ≤ gg ∧ s13 = .int .i64 k ∧ vk = s9 ∧ Hid (OwnAt w0.heap.size 3 1 encN wr vk (Gr.listS a b k s1).1) ∧ Hid (RdAt w0.heap.size A B wr (Gr.listS a b k s1).2) ∧ Hid (Grew w0 wr) ∧ Hid (Keep2 A B W wr) ∧ Hid (∀ q, vk.ownBlock = some q → W.heap.size ≤ q))
  case atStart => exact ⟨0, _, Nat.zero_le _, by omega, rfl, rfl, Lib.hid (OwnAt.nil _), HR1, HG1, HK1, Lib.hid fun q h => by cases h⟩
  case round =>
    obtain ⟨k, vk, hk, hgg, rfl, rfl, HO, HR, HG, HK, HI⟩ := hrel
    obtain ⟨hl1, hl2⟩ := listS_len a b k s1
    by_cases hlt : k < N
    · have hsc := listS_succ a b k s1
      have hnum := rdNum_any w0 A B (Gr.listS a b k s1).2 a b wr HR.out HG.out (by omega)
      have HSC := Lib.hid hsc
      have HNUM := Lib.hid hnum
      obtain ⟨ak, ck, rfl⟩ := (HO.out.rows encN_len).len
      have HL1 := Lib.hid hl1
      clear hsc hnum hl1 hl2
      generalize Gr.numS a b (Gr.listS a b k s1).2 = y at *
      obtain ⟨y1, y2⟩ := y
      simp only at HNUM HSC
      generalize hLS : Gr.listS a b k s1 = LS at *
      have HLS := Lib.hid hLS
      clear hLS
      go_wp2_with (first
        | (go_at_call 42; refine HNUM.out.mono ?_; rintro e w2 ⟨rfl, hr2, hg2, hk2⟩; (have HR2 := Lib.hid hr2); (have HG2 := Lib.hid hg2); (have HK2 := Lib.hid hk2); (have HO2 := Lib.hid (OwnAt.keep2 HO.out hk2 HR.out)); clear hr2 hg2 hk2)
        | (at_builtin; go_loud (refine wpList_ownK (w0 := w0) rfl (.tmp 15) (.tmp 20) 38 _ _ _ _ [y1] rfl Tryz.underlying38 infoInt1 rfl (by decide) encN_len encN_one rfl (OwnAt.grew HO2.out (by repeat (first | with_reducible exact Grew.refl _ | apply Grew.more | apply Grew.alloc | apply Grew.drew | apply Grew.drewN))) (HG2.out.trans (by repeat (first | with_reducible exact Grew.refl _ | apply Grew.more | apply Grew.alloc | apply Grew.drew | apply Grew.drewN))) rfl (int_at _ _ _ _ rfl (by simp [go_sem])) (by rw [HL1.out]; simp; omega) (by decide) (by simp) ?_; intro v5 W5 hA; (have HA := Lib.hid hA); clear hA)))
      obtain ⟨q4, q5⟩ := Keep2.app (HK.out.trans (HK2.out.trans (Keep2.ofGrew (by repeat (first | with_reducible exact Grew.refl _ | apply Grew.more | apply Grew.alloc | apply Grew.drew | apply Grew.drewN))))) HA.out HI.out
      have q2 := RdAt.app (HR2.out.grew (by repeat (first | with_reducible exact Grew.refl _ | apply Grew.more | apply Grew.alloc | apply Grew.drew | apply Grew.drewN))) (OwnAt.grew HO2.out (by repeat (first | with_reducible exact Grew.refl _ | apply Grew.more | apply Grew.alloc | apply Grew.drew | apply Grew.drewN))) HA.out
      have Q2 := Lib.hid q2
      have Q4 := Lib.hid q4
      have Q5 := Lib.hid q5
      clear q2 q4 q5
      go_roundg (N - (k + 1))
      case measure => omega
      case rel => exact ⟨k + 1, _, by omega, by omega, by go_num, rfl, Lib.hid (by rw [HSC.out]; exact HA.out.2.1), Lib.hid (by rw [HSC.out]; exact Q2.out), Lib.hid HA.out.1, Q4, Q5⟩
    · obtain rfl : k = N := by omega
      obtain ⟨ak, ck, rfl⟩ := (HO.out.rows encN_len).len
      go_wp2
      go_ret
      exact ⟨_, rfl, OwnAt.up HO.out HI.out, HR.out, HG.out, HK.out⟩
end Go.Proofs.YtmnllmbchpebbaaGreatDoor

/-! pack's reader: prog, end. -/
namespace Go.Proofs.YtmnllmbchpebbaaGreatDoor
set_option linter.unusedSimpArgs false
set_option linter.unusedVariables false
open Go.RowKit Ga
set_option maxRecDepth 100000

theorem RdAt.setOther {base A B C : Nat} {W : World} {s : Gr.Rs} {o : Nat} {v : Value} (h : RdAt base A B W s) (hA : C ≠ A) (hB : C ≠ B) : RdAt base A B (W.setCell ⟨C, o, none⟩ v) s :=
  ⟨h.1, by rw [set_other hA]; exact h.2.1, h.2.2.1, by rw [set_other hB]; exact h.2.2.2⟩
theorem OwnAt.setOther {α : Type} {base C : Nat} {e t : TypeId} {k : Nat} {enc : α → List Value} {W : World} {v x : Value} {l : List α} {o : Nat} {c : Array Value} {f : Nat × Nat} (h : OwnAt base e k enc W v l) (hC : W.heap[C]? = some (.cells c t f)) (ht : t ≠ e) : OwnAt base e k enc (W.setCell ⟨C, o, none⟩ x) v l :=
  OwnAt.same h fun b hb => set_other fun q => by
    subst q
    exact own_ne h hC ht hb
def RdProg (w0 W : World) (A B : Nat) (l : List Vm.Ins) (s : Gr.Rs) (e : Ending) (W' : World) : Prop := ∃ v, e = .returned v ∧ OwnAt W.heap.size 131 2 encI W' v l ∧ RdAt w0.heap.size A B W' s ∧ Grew w0 W' ∧ Keep2 A B W W'
set_option maxHeartbeats 4000000 in
theorem rdProg_any (w0 : World) (A B : Nat) (s : Gr.Rs) (W : World) (h : RdAt w0.heap.size A B W s) (hg : Grew w0 W) (hs : s.1.length ≤ 1000000) :
    Calls Tryz.prog 85 #[.pointer (some ⟨A, 0, none⟩)] W (RdProg w0 W A B (Gr.progS getL s).1 (Gr.progS getL s).2) := by
  have H := Lib.hid h
  have HG := Lib.hid hg
  have c0 := cell_of (o := 0) h.2.1
  have c1 := cell_of (o := 1) h.2.1
  have hpA := Pre.mk (heap_lt h.2.1)
  simp at c0 c1
  obtain ⟨z, x⟩ := s
  simp only at hs c1
  by_cases he : x = 0
  · subst he
    have hn : Gr.progS getL (z, 0) = ((getL z).1, ((getL z).2.2, (getL z).2.1)) := by unfold Gr.progS; rw [if_neg (by simp)]
    rw [hn]
    have hw := codeGet_keep w0 B z W h.2.2 hg hs
    generalize getL z = r at *
    obtain ⟨y, er, z'⟩ := r
    simp only at hw ⊢
    have HW := Lib.hid hw
    clear h hg hw hn
    go_enter Tryz.func85, Tryz.ntmps85
    go_wp2_with (go_at_call 119; refine HW.out.mono ?_; rintro e w1 ⟨v1, rfl, ho1, hr1, hg1, hk1⟩; simp only at ho1 hr1; obtain ⟨a1, cc1, rfl⟩ := (ho1.rows encI_len).len; obtain ⟨hA1, hR1⟩ := RdAt.put (e := er) H.out hr1 hk1; (have d1 := cell_of (o := 1) hA1); (have g1 := frozen_of (o := 1) hA1); (have pA1 := Pre.mk (heap_lt hA1)); simp at d1; (have HO1 := Lib.hid (OwnAt.setOther (o := 1) (x := .int .i64 er) ho1 hA1 (by decide))); (have HR1 := Lib.hid hR1); (have HG1 := Lib.hid hg1); (have HK1 := Lib.hid hk1); clear ho1 hr1 hg1 hk1 hA1 hR1)
    go_ret
    exact ⟨_, rfl, HO1.out, HR1.out, HG1.out.set H.out.1 _, (Keep2.ofKeep HK1.out).trans Keep2.set⟩
  · have hn : Gr.progS getL (z, x) = ([], (z, x)) := by unfold Gr.progS; rw [if_pos he]
    rw [hn]
    have he2 : (x != 0) = true := by rw [bne_iff_ne]; exact he
    clear h hg he hn
    go_enter Tryz.func85, Tryz.ntmps85
    go_wp2
    go_ret
    exact ⟨_, rfl, OwnAt.nil _, H.out, HG.out, Keep2.refl _ _ _⟩
/-- the error of all that was read -/
def endE (s : Gr.Rs) (fine : Bool) : Int := if s.2 ≠ 0 then s.2 else if decide (0 < s.1.length) || !fine then 4 else 0
set_option maxHeartbeats 4000000 in
theorem rdEnd_any (base A B : Nat) (s : Gr.Rs) (fine : Bool) (W : World) (h : RdAt base A B W s) :
    Calls Tryz.prog 46 #[.pointer (some ⟨A, 0, none⟩), .bool fine] W fun e w' => e = .returned (.int .i64 (endE s fine)) ∧ w' = W := by
  have c0 := cell_of (o := 0) h.2.1
  have c1 := cell_of (o := 1) h.2.1
  have hpA := Pre.mk (heap_lt h.2.1)
  simp at c0 c1
  obtain ⟨z, x⟩ := s
  simp only at c1
  have hL := octLeft_any base B z W h.2.2
  have HL := Lib.hid hL
  clear h hL
  by_cases he : x = 0
  · subst he
    by_cases hz : 0 < z.length
    · have hn : endE (z, 0) fine = 4 := by unfold endE; rw [if_neg (by simp)]; simp [hz]
      rw [hn]
      have hz' : (0 : Int) < (z.length : Int) := by omega
      clear hn
      go_enter Tryz.func46, Tryz.ntmps46
      go_wp2_with (go_at_call 90; refine HL.out.mono ?_; rintro e w1 ⟨rfl, rfl⟩)
      go_ret
      exact ⟨rfl, rfl⟩
    · have hz' : ¬ (0 : Int) < (z.length : Int) := by omega
      cases fine with
      | true =>
        have hn : endE (z, 0) true = 0 := by unfold endE; rw [if_neg (by simp)]; simp [hz]
        rw [hn]
        clear hn
        go_enter Tryz.func46, Tryz.ntmps46
        go_wp2_with (go_at_call 90; refine HL.out.mono ?_; rintro e w1 ⟨rfl, rfl⟩)
        go_ret
        exact ⟨rfl, rfl⟩
      | false =>
        have hn : endE (z, 0) false = 4 := by unfold endE; rw [if_neg (by simp)]; simp
        rw [hn]
        clear hn
        go_enter Tryz.func46, Tryz.ntmps46
        go_wp2_with (go_at_call 90; refine HL.out.mono ?_; rintro e w1 ⟨rfl, rfl⟩)
        go_ret
        exact ⟨rfl, rfl⟩
  · have he2 : (x != 0) = true := by rw [bne_iff_ne]; exact he
    have hn : endE (z, x) fine = x := by unfold endE; rw [if_pos he]
    rw [hn]
    clear hn he
    go_enter Tryz.func46, Tryz.ntmps46
    go_wp2
    go_ret
    exact ⟨rfl, rfl⟩
end Go.Proofs.YtmnllmbchpebbaaGreatDoor

/-! pack's reader: node. -/
namespace Go.Proofs.YtmnllmbchpebbaaGreatDoor
set_option linter.unusedSimpArgs false
set_option linter.unusedVariables false
open Go.RowKit Ga
set_option maxRecDepth 100000

/-- a node's cells, the routes as a list -/
def nodeArr (id kind : Int) (vf vp : Value) (par : Int) (rs : List Int) : Array Value := #[.int .i64 id, .int .i64 kind, vf, vp, .int .i64 par] ++ (rs.map (Value.int .i64)).toArray
theorem nodeArr_set (id kind : Int) (vf vp : Value) (par : Int) (rs : List Int) (k : Nat) (y : Int) : (nodeArr id kind vf vp par rs).setIfInBounds (5 + k) (.int .i64 y) = nodeArr id kind vf vp par (rs.set k y) := by
  unfold nodeArr
  apply Array.ext'
  simp only [Array.toList_setIfInBounds, Array.toList_append, List.map_set]
  rw [List.set_append_right _ _ (by simp)]
  simp
theorem nodeArr_get (id kind : Int) (vf vp : Value) (par : Int) (rs : List Int) (k : Nat) (h : k < rs.length) : (nodeArr id kind vf vp par rs)[5 + k]? = some (.int .i64 rs[k]) := by
  unfold nodeArr
  rw [Array.getElem?_append_right (by simp)]
  simp [h]
def padR (l : List Int) : List Int := l ++ List.replicate (8 - l.length) 0
theorem padR_len {l : List Int} (h : l.length ≤ 8) : (padR l).length = 8 := by unfold padR; rw [List.length_append, List.length_replicate]; omega
theorem padR_set {l : List Int} {y : Int} (h : l.length < 8) : (padR l).set l.length y = padR (l ++ [y]) := by
  unfold padR
  rw [List.set_append_right _ _ (Nat.le_refl _), Nat.sub_self, List.length_append, List.append_assoc]
  obtain ⟨m, hm⟩ : ∃ m, 8 - l.length = m + 1 := ⟨7 - l.length, by omega⟩
  rw [hm, show 8 - (l.length + [y].length) = m by simp; omega]
  rfl
theorem Keep2.setNew {A B C : Nat} {w W : World} {o : Nat} {v : Value} (h : Keep2 A B w W) (hC : w.heap.size ≤ C) : Keep2 A B w (W.setCell ⟨C, o, none⟩ v) :=
  ⟨by rw [World.size_setCell]; exact h.1, fun q hq h1 h2 => by rw [set_other (show C ≠ q by omega)]; exact h.2 q hq h1 h2⟩
theorem eight (l : List Int) (h : l.length = 8) : ∃ o0 o1 o2 o3 o4 o5 o6 o7, l = [o0, o1, o2, o3, o4, o5, o6, o7] := by
  match l, h with
  | [o0, o1, o2, o3, o4, o5, o6, o7], _ => exact ⟨o0, o1, o2, o3, o4, o5, o6, o7, rfl⟩
/-- a node comes back in memory of the call's own -/
def RdNode (w0 W : World) (A B : Nat) (n : Gr.Nd) (s : Gr.Rs) (e : Ending) (W' : World) : Prop := ∃ c : NdC, e = .returned (.agg #[.int .i64 c.id, .int .i64 c.kind, .slice c.af c.nf c.cf, .slice c.ap c.np c.cp, .int .i64 c.par, .int .i64 c.r0, .int .i64 c.r1, .int .i64 c.r2, .int .i64 c.r3, .int .i64 c.r4, .int .i64 c.r5, .int .i64 c.r6, .int .i64 c.r7]) ∧ NodeIs W' c n ∧ OwnsNd W.heap.size W' c n ∧ RdAt w0.heap.size A B W' s ∧ Grew w0 W' ∧ Keep2 A B W W'
theorem set13 {W : World} {q : Nat} {t : TypeId} {u0 u1 u2 u3 u4 u5 u6 u7 u8 u9 u10 u11 u12 : Value} (h : W.heap[q]? = some (.cells #[u0, u1, u2, u3, u4, u5, u6, u7, u8, u9, u10, u11, u12] t)) (v0 v1 v2 v3 v4 v5 v6 v7 v8 v9 v10 v11 v12 : Value) : (((((((((((((W.setCell ⟨q, 0, none⟩ v0).setCell ⟨q, 1, none⟩ v1).setCell ⟨q, 2, none⟩ v2).setCell ⟨q, 3, none⟩ v3).setCell ⟨q, 4, none⟩ v4).setCell ⟨q, 5, none⟩ v5).setCell ⟨q, 6, none⟩ v6).setCell ⟨q, 7, none⟩ v7).setCell ⟨q, 8, none⟩ v8).setCell ⟨q, 9, none⟩ v9).setCell ⟨q, 10, none⟩ v10).setCell ⟨q, 11, none⟩ v11).setCell ⟨q, 12, none⟩ v12).heap[q]? = some (.cells #[v0, v1, v2, v3, v4, v5, v6, v7, v8, v9, v10, v11, v12] t) := by
  have h0 := set_self (o := 0) (v := v0) h
  simp at h0
  have h1 := set_self (o := 1) (v := v1) h0
  simp at h1
  have h2 := set_self (o := 2) (v := v2) h1
  simp at h2
  have h3 := set_self (o := 3) (v := v3) h2
  simp at h3
  have h4 := set_self (o := 4) (v := v4) h3
  simp at h4
  have h5 := set_self (o := 5) (v := v5) h4
  simp at h5
  have h6 := set_self (o := 6) (v := v6) h5
  simp at h6
  have h7 := set_self (o := 7) (v := v7) h6
  simp at h7
  have h8 := set_self (o := 8) (v := v8) h7
  simp at h8
  have h9 := set_self (o := 9) (v := v9) h8
  simp at h9
  have h10 := set_self (o := 10) (v := v10) h9
  simp at h10
  have h11 := set_self (o := 11) (v := v11) h10
  simp at h11
  have h12 := set_self (o := 12) (v := v12) h11
  simp at h12
  exact h12
theorem res_node {W : World} {tmps : Array Value} {q : Nat} {id kind par o0 o1 o2 o3 o4 o5 o6 o7 : Int} {vf vp : Value} (hs : tmps.size = 32) (ht : tmps[4]? = some (.pointer (some ⟨q, 0, none⟩))) (h : W.heap[q]? = some (.cells #[.int .i64 id, .int .i64 kind, vf, vp, .int .i64 par, .int .i64 o0, .int .i64 o1, .int .i64 o2, .int .i64 o3, .int .i64 o4, .int .i64 o5, .int .i64 o6, .int .i64 o7] 42)) :
    (results Tryz.f43 tmps).run Tryz.prog W = .ok (.agg #[.int .i64 id, .int .i64 kind, vf, vp, .int .i64 par, .int .i64 o0, .int .i64 o1, .int .i64 o2, .int .i64 o3, .int .i64 o4, .int .i64 o5, .int .i64 o6, .int .i64 o7]) W := by
  have c0 := cell_of (o := 0) h
  have c1 := cell_of (o := 1) h
  have c2 := cell_of (o := 2) h
  have c3 := cell_of (o := 3) h
  have c4 := cell_of (o := 4) h
  have c5 := cell_of (o := 5) h
  have c6 := cell_of (o := 6) h
  have c7 := cell_of (o := 7) h
  have c8 := cell_of (o := 8) h
  have c9 := cell_of (o := 9) h
  have c10 := cell_of (o := 10) h
  have c11 := cell_of (o := 11) h
  have c12 := cell_of (o := 12) h
  have ht2 : tmps.getD 4 undef = .pointer (some ⟨q, 0, none⟩) := by rw [Array.getD_eq_getD_getElem?, ht]; rfl
  simp at c0 c1 c2 c3 c4 c5 c6 c7 c8 c9 c10 c11 c12
  simp [results, Tryz.results43, go_sem, ht, c0, c1, c2, c3, c4, c5, c6, c7, c8, c9, c10, c11, c12]
theorem rdNode_made {w0 W W' : World} {A B : Nat} (c : NdC) {n : Gr.Nd} {s : Gr.Rs} (hi : n.id = c.id) (hk : n.kind = c.kind) (hp : n.par = c.par) (hr : n.route = [c.r0, c.r1, c.r2, c.r3, c.r4, c.r5, c.r6, c.r7])
    (o1 : OwnAt W.heap.size 3 1 encN W' c.vf n.frm) (o2 : OwnAt W.heap.size 131 2 encI W' c.vp n.prog) (h1 : RdAt w0.heap.size A B W' s) (h2 : Grew w0 W') (h3 : Keep2 A B W W') : RdNode w0 W A B n s (.returned (.agg #[.int .i64 c.id, .int .i64 c.kind, .slice c.af c.nf c.cf, .slice c.ap c.np c.cp, .int .i64 c.par, .int .i64 c.r0, .int .i64 c.r1, .int .i64 c.r2, .int .i64 c.r3, .int .i64 c.r4, .int .i64 c.r5, .int .i64 c.r6, .int .i64 c.r7])) W' :=
  ⟨c, rfl, ⟨hi, hk, o1.rows encN_len, o2.rows encI_len, hp, hr, OwnAt.cap o1⟩, ⟨o1, o2⟩, h1, h2, h3⟩
set_option maxHeartbeats 8000000 in
theorem rdNode_any (w0 : World) (A B : Nat) (s : Gr.Rs) (lp : Int) (hlp : lp ≤ 0 ∨ lp ≤ 3) (W : World) (h : RdAt w0.heap.size A B W s) (hg : Grew w0 W) (hs : s.1.length ≤ 1000000) :
    Calls Tryz.prog 43 #[.pointer (some ⟨A, 0, none⟩), .int .i64 lp] W (RdNode w0 W A B (Gr.nodeS getL lp s).1 (Gr.nodeS getL lp s).2) := by
  have hAlt := heap_lt h.2.1
  have hBlt := heap_lt h.2.2.2
  have hAB := h.ne
  have HH := Lib.hid h
  have HG := Lib.hid hg
  clear h hg
  -- the numbers that come up
  have n1 := rdNum_any w0 A B s 0 7
  have l1 := numS_len 0 7 s
  obtain ⟨id, s1, e1⟩ : ∃ x t, Gr.numS 0 7 s = (x, t) := ⟨_, _, rfl⟩
  rw [e1] at n1 l1
  have n2 := rdNum_any w0 A B s1 0 2
  have l2 := numS_len 0 2 s1
  obtain ⟨kind, s2, e2⟩ : ∃ x t, Gr.numS 0 2 s1 = (x, t) := ⟨_, _, rfl⟩
  rw [e2] at n2 l2
  have n3 := rdList_any w0 A B s2 3 0 7
  have l3 := (listS_len 0 7 (Gr.numS 0 3 s2).1.toNat (Gr.numS 0 3 s2).2).2
  have l3' := numS_len 0 3 s2
  obtain ⟨fr, s3, e3⟩ : ∃ x t, Gr.listS 0 7 (Gr.numS 0 3 s2).1.toNat (Gr.numS 0 3 s2).2 = (x, t) := ⟨_, _, rfl⟩
  rw [e3] at n3 l3
  have n4 := rdProg_any w0 A B s3
  have l4 := progS_len s3
  obtain ⟨pr, s4, e4⟩ : ∃ x t, Gr.progS getL s3 = (x, t) := ⟨_, _, rfl⟩
  rw [e4] at n4 l4
  have n5 := rdNum_any w0 A B s4 lp 3
  have l5 := numS_len lp 3 s4
  obtain ⟨par, s5, e5⟩ : ∃ x t, Gr.numS lp 3 s4 = (x, t) := ⟨_, _, rfl⟩
  rw [e5] at n5 l5
  have hres : Gr.nodeS getL lp s = (⟨id, kind, fr, pr, par, (Gr.listS 0 2 8 s5).1⟩, (Gr.listS 0 2 8 s5).2) := by
    unfold Gr.nodeS
    simp only [e1, e2, e3, e4, e5]
  rw [hres]
  simp only at n1 n2 n3 n4 n5 l1 l2 l3 l4 l5
  have N1 := Lib.hid n1
  have N2 := Lib.hid n2
  have N3 := Lib.hid n3
  have N4 := Lib.hid n4
  have N5 := Lib.hid n5
  clear hres e1 e2 e3 e4 e5 n1 n2 n3 n4 n5
  have HT4 := Lib.hid (heap_new_at W (.cells #[.int .i64 0, .int .i64 0, .slice none 0 0, .slice none 0 0, .int .i64 0, .int .i64 0, .int .i64 0, .int .i64 0, .int .i64 0, .int .i64 0, .int .i64 0, .int .i64 0, .int .i64 0] 42) _ rfl)
  go_enter Tryz.func43, Tryz.ntmps43
  go_wp2_with fail
  refine (N1.out _ (HH.out.grew (by repeat (first | with_reducible exact Grew.refl _ | apply Grew.more | apply Grew.alloc | apply Grew.drew | apply Grew.drewN))) (HG.out.trans (by repeat (first | with_reducible exact Grew.refl _ | apply Grew.more | apply Grew.alloc | apply Grew.drew | apply Grew.drewN))) hs).mono ?_
  rintro e W1 ⟨rfl, r1, g1, k1⟩
  have R1 := Lib.hid r1
  have G1 := Lib.hid g1
  have K1 := Lib.hid k1
  clear r1 g1 k1
  go_wp2_with fail
  refine (N2.out _ R1.out G1.out (by omega)).mono ?_
  rintro e W2 ⟨rfl, r2, g2, k2⟩
  have R2 := Lib.hid r2
  have G2 := Lib.hid g2
  have K2 := Lib.hid (K1.out.trans k2)
  have z1 := k2.1
  have z2 := K1.out.1
  rw [World.size_alloc] at z2
  clear r2 g2 k2
  have h5 := heap_new_at W2 (.cells #[.int .i64 id, .int .i64 kind, .slice none 0 0, .slice none 0 0, .int .i64 0, .int .i64 0, .int .i64 0, .int .i64 0, .int .i64 0, .int .i64 0, .int .i64 0, .int .i64 0, .int .i64 0] 42) _ rfl
  have H5 := Lib.hid h5
  clear h5
  go_wp2_with fail
  refine (N3.out _ (R2.out.grew (by repeat (first | with_reducible exact Grew.refl _ | apply Grew.more | apply Grew.alloc | apply Grew.drew | apply Grew.drewN))) (G2.out.trans (by repeat (first | with_reducible exact Grew.refl _ | apply Grew.more | apply Grew.alloc | apply Grew.drew | apply Grew.drewN))) (by omega) (by decide) (by decide)).mono ?_
  rintro e W3 ⟨vf, rfl, o3, r3, g3, k3⟩
  have h53 := k3.2 W2.heap.size (by rw [World.size_alloc]; omega) (by omega) (by omega)
  rw [H5.out] at h53
  obtain ⟨af, cf, rfl⟩ := (o3.rows encN_len).len
  have z3 := k3.1
  rw [World.size_alloc] at z3
  have q2 := cell_of (o := 2) h53
  have f2 := frozen_of (o := 2) h53
  have p2 := Pre.mk (heap_lt h53)
  simp at q2
  have R3 := Lib.hid r3
  have G3 := Lib.hid g3
  have K3 := Lib.hid ((K2.out.trans (Keep2.ofGrew (by repeat (first | with_reducible exact Grew.refl _ | apply Grew.more | apply Grew.alloc | apply Grew.drew | apply Grew.drewN)))).trans k3)
  have O3 := Lib.hid o3
  have H53 := Lib.hid h53
  clear o3 r3 g3 k3 h53
  have hTA : W2.heap.size ≠ A := by omega
  have hTB : W2.heap.size ≠ B := by omega
  have hT0 : w0.heap.size ≤ W2.heap.size := G2.out.below.size
  have hTW : (W.alloc (.cells #[.int .i64 0, .int .i64 0, .slice none 0 0, .slice none 0 0, .int .i64 0, .int .i64 0, .int .i64 0, .int .i64 0, .int .i64 0, .int .i64 0, .int .i64 0, .int .i64 0, .int .i64 0] 42)).heap.size ≤ W2.heap.size := by rw [World.size_alloc]; omega
  have R3s := Lib.hid (RdAt.setOther (o := 2) (v := .slice af fr.length cf) R3.out hTA hTB)
  have G3s := Lib.hid (G3.out.set (o := 2) hT0 (.slice af fr.length cf))
  have K3s := Lib.hid (Keep2.setNew (o := 2) (v := .slice af fr.length cf) K3.out hTW)
  have O3s := Lib.hid (OwnAt.setOther (o := 2) (x := .slice af fr.length cf) O3.out H53.out (by decide))
  have h5s : (W3.setCell ⟨W2.heap.size, 2, none⟩ (.slice af fr.length cf)).heap[W2.heap.size]? = some (.cells #[.int .i64 id, .int .i64 kind, .slice af fr.length cf, .slice none 0 0, .int .i64 0, .int .i64 0, .int .i64 0, .int .i64 0, .int .i64 0, .int .i64 0, .int .i64 0, .int .i64 0, .int .i64 0] 42) := by rw [set_self H53.out]; rfl
  have H5s := Lib.hid h5s
  clear h5s
  go_wp2_with fail
  clear q2 f2 p2
  refine (N4.out _ R3s.out G3s.out (by omega)).mono ?_
  rintro e W4 ⟨vp, rfl, o4, r4, g4, k4⟩
  obtain ⟨ap, cp, rfl⟩ := (o4.rows encI_len).len
  have h54 := k4.2 W2.heap.size (heap_lt H5s.out) hTA hTB
  rw [H5s.out] at h54
  have q3 := cell_of (o := 3) h54
  have f3 := frozen_of (o := 3) h54
  have p3 := Pre.mk (heap_lt h54)
  simp at q3
  have R4s := Lib.hid (RdAt.setOther (o := 3) (v := .slice ap pr.length cp) r4 hTA hTB)
  have G4s := Lib.hid (g4.set (o := 3) hT0 (.slice ap pr.length cp))
  have K4s := Lib.hid (Keep2.setNew (o := 3) (v := .slice ap pr.length cp) (K3s.out.trans k4) hTW)
  have O34 := Lib.hid (OwnAt.setOther (o := 3) (x := .slice ap pr.length cp) (OwnAt.keep2 O3s.out k4 R3s.out) h54 (by decide))
  have O4s := Lib.hid (OwnAt.setOther (o := 3) (x := .slice ap pr.length cp) o4 h54 (by decide))
  have h5t : (W4.setCell ⟨W2.heap.size, 3, none⟩ (.slice ap pr.length cp)).heap[W2.heap.size]? = some (.cells #[.int .i64 id, .int .i64 kind, .slice af fr.length cf, .slice ap pr.length cp, .int .i64 0, .int .i64 0, .int .i64 0, .int .i64 0, .int .i64 0, .int .i64 0, .int .i64 0, .int .i64 0, .int .i64 0] 42) := by rw [set_self h54]; rfl
  have H5t := Lib.hid h5t
  have z4 := k4.1
  rw [World.size_setCell] at z4
  clear o4 r4 g4 k4 h54 h5t
  go_wp2_with fail
  clear q3 f3 p3
  refine (N5.out _ R4s.out G4s.out (by omega)).mono ?_
  rintro e W5 ⟨rfl, r5, g5, k5⟩
  have h55 := k5.2 W2.heap.size (heap_lt H5t.out) hTA hTB
  rw [H5t.out] at h55
  have q4 := cell_of (o := 4) h55
  have f4 := frozen_of (o := 4) h55
  have p4 := Pre.mk (heap_lt h55)
  simp at q4
  have R5s := Lib.hid (RdAt.setOther (o := 4) (v := .int .i64 par) r5 hTA hTB)
  have G5s := Lib.hid (g5.set (o := 4) hT0 (.int .i64 par))
  have K5s := Lib.hid (Keep2.setNew (o := 4) (v := .int .i64 par) (K4s.out.trans k5) hTW)
  have O35 := Lib.hid (OwnAt.low (base' := W.heap.size) (OwnAt.setOther (o := 4) (x := .int .i64 par) (OwnAt.keep2 O34.out k5 R4s.out) h55 (by decide)) (by rw [World.size_alloc]; omega))
  have O45 := Lib.hid (OwnAt.low (base' := W.heap.size) (OwnAt.setOther (o := 4) (x := .int .i64 par) (OwnAt.keep2 O4s.out k5 R4s.out) h55 (by decide)) (by rw [World.size_setCell]; omega))
  have h5u : (W5.setCell ⟨W2.heap.size, 4, none⟩ (.int .i64 par)).heap[W2.heap.size]? = some (.cells (nodeArr id kind (.slice af fr.length cf) (.slice ap pr.length cp) par (padR (Gr.listS 0 2 0 s5).1)) 42) := by rw [set_self h55]; rfl
  have H5u := Lib.hid h5u
  clear r5 g5 k5 h55 h5u
  go_wp2
  go_loopg [22] 8 (fun gg s22 wr => ∃ k : Nat, k ≤ 8 ∧ 8 - k ≤ gg ∧ s22 = .int .i64 k ∧ Hid (RdAt w0.heap.size A B wr (Gr.listS 0 2 k s5).2) ∧ Hid (Grew w0 wr) ∧ Hid (Keep2 A B (W.alloc (.cells #[.int .i64 0, .int .i64 0, .slice none 0 0, .slice none 0 0, .int .i64 0, .int .i64 0, .int .i64 0, .int .i64 0, .int .i64 0, .int .i64 0, .int .i64 0, .int .i64 0, .int .i64 0] 42)) wr) ∧ Hid (wr.heap[W2.heap.size]? = some (.cells (nodeArr id kind (.slice af fr.length cf) (.slice ap pr.length cp) par (padR (Gr.listS 0 2 k s5).1)) 42)) ∧ Hid (OwnAt W.heap.size 3 1 encN wr (.slice af fr.length cf) fr) ∧ Hid (OwnAt W.heap.size 131 2 encI wr (.slice ap pr.length cp) pr))
  case atStart => exact ⟨0, by omega, by omega, rfl, R5s, G5s, K5s, H5u, O35, O45⟩
  case round =>
    obtain ⟨k, hk, hgg, rfl, HR, HGr, HK, HT, HF, HP⟩ := hrel
    obtain ⟨hl1, hl2⟩ := listS_len 0 2 k s5
    by_cases hlt : k < 8
    · have hsc := listS_succ 0 2 k s5
      have hnum := rdNum_any w0 A B (Gr.listS 0 2 k s5).2 0 2 wr HR.out HGr.out (by omega)
      have HSC := Lib.hid hsc
      have HNUM := Lib.hid hnum
      have HL1 := Lib.hid hl1
      clear hsc hnum hl1 hl2
      generalize Gr.numS 0 2 (Gr.listS 0 2 k s5).2 = y at *
      obtain ⟨y1, y2⟩ := y
      simp only at HNUM HSC
      generalize hLS : Gr.listS 0 2 k s5 = LS at *
      have HLS := Lib.hid hLS
      clear hLS
      go_wp2_with (go_at_call 42; refine HNUM.out.mono ?_; rintro e W6 ⟨rfl, r6, g6, k6⟩; (have h56 := k6.2 W2.heap.size (heap_lt HT.out) hTA hTB); rw [HT.out] at h56; (have q6 := cell_of (o := 5 + k) h56); rw [nodeArr_get _ _ _ _ _ _ _ (by rw [padR_len (by rw [HL1.out]; omega)]; exact hlt)] at q6; (have f6 := frozen_of (o := 5 + k) h56); (have p6 := Pre.mk (heap_lt h56)); (have R6 := Lib.hid r6); (have G6 := Lib.hid g6); (have K6 := Lib.hid k6); (have H56 := Lib.hid h56); clear r6 g6 k6 h56)
      have hT7 : (W6.setCell ⟨W2.heap.size, 5 + k, none⟩ (.int .i64 y1)).heap[W2.heap.size]? = some (.cells (nodeArr id kind (.slice af fr.length cf) (.slice ap pr.length cp) par (padR (LS.1 ++ [y1]))) 42) := by
        rw [set_self H56.out, nodeArr_set]
        have := padR_set (l := LS.1) (y := y1) (by rw [HL1.out]; exact hlt)
        rw [HL1.out] at this
        rw [this]
      have HT7 := Lib.hid hT7
      clear hT7
      go_roundg (8 - (k + 1))
      case measure => omega
      case rel => exact ⟨k + 1, by omega, by omega, by go_num, Lib.hid (by rw [HSC.out]; exact R6.out.setOther hTA hTB), Lib.hid (G6.out.set hT0 _), Lib.hid (Keep2.setNew (HK.out.trans K6.out) hTW), Lib.hid (by rw [HSC.out]; exact HT7.out), Lib.hid (OwnAt.setOther (OwnAt.keep2 HF.out K6.out HR.out) H56.out (by decide)), Lib.hid (OwnAt.setOther (OwnAt.keep2 HP.out K6.out HR.out) H56.out (by decide))⟩
    · obtain rfl : k = 8 := by omega
      generalize hLS : Gr.listS 0 2 8 s5 = LS at *
      obtain ⟨o, s6⟩ := LS
      simp only at hl1 hl2 HT HR
      obtain ⟨o0, o1, o2, o3, o4, o5, o6, o7, rfl⟩ := eight o hl1
      have hT8 : wr.heap[W2.heap.size]? = some (.cells #[.int .i64 id, .int .i64 kind, .slice af fr.length cf, .slice ap pr.length cp, .int .i64 par, .int .i64 o0, .int .i64 o1, .int .i64 o2, .int .i64 o3, .int .i64 o4, .int .i64 o5, .int .i64 o6, .int .i64 o7] 42) := HT.out
      have hT4 := HK.out.2 W.heap.size (by rw [World.size_alloc]; omega) (by omega) (by omega)
      rw [HT4.out] at hT4
      have c0 := cell_of (o := 0) hT8
      have c1 := cell_of (o := 1) hT8
      have c2 := cell_of (o := 2) hT8
      have c3 := cell_of (o := 3) hT8
      have c4 := cell_of (o := 4) hT8
      have c5 := cell_of (o := 5) hT8
      have c6 := cell_of (o := 6) hT8
      have c7 := cell_of (o := 7) hT8
      have c8 := cell_of (o := 8) hT8
      have c9 := cell_of (o := 9) hT8
      have c10 := cell_of (o := 10) hT8
      have c11 := cell_of (o := 11) hT8
      have c12 := cell_of (o := 12) hT8
      have d0 := cell_of (o := 0) hT4
      have f0 := frozen_of (o := 0) hT4
      have d1 := cell_of (o := 1) hT4
      have f1 := frozen_of (o := 1) hT4
      have d2 := cell_of (o := 2) hT4
      have f2 := frozen_of (o := 2) hT4
      have d3 := cell_of (o := 3) hT4
      have f3 := frozen_of (o := 3) hT4
      have d4 := cell_of (o := 4) hT4
      have f4 := frozen_of (o := 4) hT4
      have d5 := cell_of (o := 5) hT4
      have f5 := frozen_of (o := 5) hT4
      have d6 := cell_of (o := 6) hT4
      have f6 := frozen_of (o := 6) hT4
      have d7 := cell_of (o := 7) hT4
      have f7 := frozen_of (o := 7) hT4
      have d8 := cell_of (o := 8) hT4
      have f8 := frozen_of (o := 8) hT4
      have d9 := cell_of (o := 9) hT4
      have f9 := frozen_of (o := 9) hT4
      have d10 := cell_of (o := 10) hT4
      have f10 := frozen_of (o := 10) hT4
      have d11 := cell_of (o := 11) hT4
      have f11 := frozen_of (o := 11) hT4
      have d12 := cell_of (o := 12) hT4
      have f12 := frozen_of (o := 12) hT4
      have pT4 := Pre.mk (heap_lt hT4)
      have pT8 := Pre.mk (heap_lt hT8)
      have hne : W2.heap.size ≠ W.heap.size := by omega
      have HT4b := Lib.hid hT4
      simp at c0 c1 c2 c3 c4 c5 c6 c7 c8 c9 c10 c11 c12 d0 d1 d2 d3 d4 d5 d6 d7 d8 d9 d10 d11 d12
      clear hT8 hT4 hLS
      go_wp2
      have hA4 : W.heap.size ≠ A := by omega
      have hB4 : W.heap.size ≠ B := by omega
      have hF4 := OwnAt.other HF.out HT4b.out (by decide)
      have hP4 := OwnAt.other HP.out HT4b.out (by decide)
      refine bodyPost_ret (v := .agg #[.int .i64 id, .int .i64 kind, .slice af fr.length cf, .slice ap pr.length cp, .int .i64 par, .int .i64 o0, .int .i64 o1, .int .i64 o2, .int .i64 o3, .int .i64 o4, .int .i64 o5, .int .i64 o6, .int .i64 o7])
        (res_node rfl rfl ?_) rfl
        (rdNode_made ⟨id, kind, af, fr.length, cf, ap, pr.length, cp, par, o0, o1, o2, o3, o4, o5, o6, o7⟩ rfl rfl rfl rfl ?_ ?_ ?_ ?_ ?_)
      · exact set13 HT4b.out _ _ _ _ _ _ _ _ _ _ _ _ _
      · exact OwnAt.same HF.out fun b hb => by
          have : W.heap.size ≠ b := fun e => hF4 (by rw [e]; exact hb)
          iterate 13 rw [set_other this]
      · exact OwnAt.same HP.out fun b hb => by
          have : W.heap.size ≠ b := fun e => hP4 (by rw [e]; exact hb)
          iterate 13 rw [set_other this]
      · iterate 13 refine RdAt.setOther ?_ hA4 hB4
        exact HR.out
      · have hWW : w0.heap.size ≤ W.heap.size := HG.out.below.size
        iterate 13 refine Grew.set ?_ hWW _
        exact HGr.out
      · iterate 13 refine Keep2.setNew ?_ (Nat.le_refl _)
        exact (Keep2.ofGrew (by repeat (first | with_reducible exact Grew.refl _ | apply Grew.more | apply Grew.alloc | apply Grew.drew | apply Grew.drewN))).trans HK.out
end Go.Proofs.YtmnllmbchpebbaaGreatDoor

/-! pack's reader: nodes; sorted; GetGraph. -/
namespace Go.Proofs.YtmnllmbchpebbaaGreatDoor
set_option linter.unusedSimpArgs false
set_option linter.unusedVariables false
open Go.RowKit Ga
set_option maxRecDepth 100000

theorem OwnsNd.keep2 {base base0 A B : Nat} {w w' : World} {c : NdC} {n : Gr.Nd} {s : Gr.Rs} (o : OwnsNd base w c n) (hk : Keep2 A B w w') (hr : RdAt base0 A B w s) : OwnsNd base w' c n := ⟨OwnAt.keep2 o.1 hk hr, OwnAt.keep2 o.2 hk hr⟩
theorem NodesIn.keep2 {base base0 A B : Nat} {w w' : World} {lc : List NdC} {l : List Gr.Nd} {s : Gr.Rs} (h : NodesIn base w lc l) (hk : Keep2 A B w w') (hr : RdAt base0 A B w s) : NodesIn base w' lc l :=
  Rel.mono (fun c n ⟨h1, h2⟩ => ⟨(h2.keep2 hk hr).is h1, h2.keep2 hk hr⟩) h
theorem nodeS_len (lp : Int) (s : Gr.Rs) : (Gr.nodeS getL lp s).2.1.length ≤ s.1.length := by
  unfold Gr.nodeS
  simp only
  have l1 := numS_len 0 7 s
  have l2 := numS_len 0 2 (Gr.numS 0 7 s).2
  generalize (Gr.numS 0 2 (Gr.numS 0 7 s).2).2 = s2 at *
  have l3 := numS_len 0 3 s2
  have l4 := (listS_len 0 7 (Gr.numS 0 3 s2).1.toNat (Gr.numS 0 3 s2).2).2
  generalize (Gr.listS 0 7 (Gr.numS 0 3 s2).1.toNat (Gr.numS 0 3 s2).2).2 = s3 at *
  have l5 := progS_len s3
  generalize (Gr.progS getL s3).2 = s4 at *
  have l6 := numS_len lp 3 s4
  have l7 := (listS_len 0 2 8 (Gr.numS lp 3 s4).2).2
  omega
end Go.Proofs.YtmnllmbchpebbaaGreatDoor

/-! pack.sorted: the nodes stand by their numbers. -/
namespace Go.Proofs.YtmnllmbchpebbaaGreatDoor
set_option linter.unusedSimpArgs false
set_option linter.unusedVariables false
open Go.RowKit Ga
set_option maxRecDepth 100000

end Go.Proofs.YtmnllmbchpebbaaGreatDoor

/-! pack.GetGraph. -/
namespace Go.Proofs.YtmnllmbchpebbaaGreatDoor
set_option linter.unusedSimpArgs false
set_option linter.unusedVariables false
open Go.RowKit Ga
set_option maxRecDepth 100000

theorem readL_many : ∀ (n : Nat) (s : List UInt8) (acc : List Val), (readL n s acc).1.length ≤ acc.length + n
  | 0, s, acc => Nat.le_refl _
  | n + 1, s, acc => by
    rw [readL]
    split
    · simp
    · split
      · simp
      · have := readL_many n (numR (within s 0 17).2.2).2.2 (acc ++ [((within s 0 17).1, (numR (within s 0 17).2.2).1)])
        rw [List.length_append] at this
        simp at this
        omega
theorem getL_many (s : List UInt8) : (getL s).1.length ≤ 24 := by
  have h0 : (within s 0 24).1.toNat ≤ 24 := by
    have := numS_range (a := 0) (b := 24) (s, 0) (by omega) (by omega)
    unfold Gr.numS at this
    rw [if_neg (by simp)] at this
    have h2 : (within s 0 24).1 ≤ 24 := this.2
    omega
  have h1 := readL_many (within s 0 24).1.toNat (within s 0 24).2.2 []
  simp only [List.length_nil, Nat.zero_add] at h1
  unfold getL
  split
  · simp
  · split
    · omega
    · split
      · omega
      · simp
theorem nodeS_small (lp : Int) (s : Gr.Rs) : (Gr.nodeS getL lp s).1.frm.length ≤ 3 ∧ (Gr.nodeS getL lp s).1.prog.length ≤ 24 ∧ 0 ≤ (Gr.nodeS getL lp s).1.id ∧ (Gr.nodeS getL lp s).1.id ≤ 7 ∧ (Gr.nodeS getL lp s).1.route.length = 8 := by
  unfold Gr.nodeS
  simp only
  have h1 := numS_range (a := 0) (b := 7) s (by omega) (by omega)
  refine ⟨?_, ?_, h1.1, h1.2, (listS_len 0 2 8 _).1⟩
  · rw [(listS_len 0 7 _ _).1]
    have := numS_range (a := 0) (b := 3) (Gr.numS 0 2 (Gr.numS 0 7 s).2).2 (by omega) (by omega)
    omega
  · unfold Gr.progS
    split
    · simp
    · exact getL_many _
theorem NodesAt.nil (w : World) : NodesAt w (.slice none 0 0) [] := ⟨[], RowsAt.nil, rfl, fun i c n h => by simp at h⟩
theorem rd_new (w : World) (s : List UInt8) : RdAt w.heap.size (w.heap.size + 1) w.heap.size ((w.alloc (.cells #[.string ⟨s.toArray⟩] 122)).alloc (.cells #[.pointer (some ⟨w.heap.size, 0, none⟩), .int .i64 0] 89)) (s, 0) :=
  ⟨by omega, heap_new_at _ _ _ (by rw [World.size_alloc]), Nat.le_refl _, heap_alloc_old (heap_new_at _ _ _ rfl) _⟩

end Go.Proofs.YtmnllmbchpebbaaGreatDoor

/-! [8]int: equal. -/
namespace Go.Proofs.YtmnllmbchpebbaaGreatDoor
set_option linter.unusedSimpArgs false
set_option linter.unusedVariables false
open Go.RowKit Ga
set_option maxRecDepth 100000
set_option maxHeartbeats 4000000 in
theorem eq8 (r0 r1 r2 r3 r4 r5 r6 r7 s0 s1 s2 s3 s4 s5 s6 s7 : Int) (w : World) : (binOp .eql 40 (.agg #[.int .i64 r0, .int .i64 r1, .int .i64 r2, .int .i64 r3, .int .i64 r4, .int .i64 r5, .int .i64 r6, .int .i64 r7]) (.agg #[.int .i64 s0, .int .i64 s1, .int .i64 s2, .int .i64 s3, .int .i64 s4, .int .i64 s5, .int .i64 s6, .int .i64 s7])).run Tryz.prog w = .ok (.bool (decide ([r0, r1, r2, r3, r4, r5, r6, r7] = [s0, s1, s2, s3, s4, s5, s6, s7]))) w := by
  have u3 := Tryz.underlying3
  have a3 := Tryz.isAgg3
  have z3 := Tryz.sizeOf3
  obtain ⟨i, hi⟩ : ∃ i, Tryz.prog.info? 3 = some i := info_of_underlying u3
  rw [run_eql_struct, show (10000 : Nat) = 9999 + 1 from rfl, run_equalIn_array w 9999 _ _ Tryz.underlying40 hi]
  rw [show Tryz.prog.cellsOf 3 = 1 by kernel_rfl]
  rw [show List.range 8 = [0, 1, 2, 3, 4, 5, 6, 7] from rfl]
  simp only [Op.eqItems]
  go_simp
  by_cases h0 : r0 = s0
  · by_cases h1 : r1 = s1
    · by_cases h2 : r2 = s2
      · by_cases h3 : r3 = s3
        · by_cases h4 : r4 = s4
          · by_cases h5 : r5 = s5
            · by_cases h6 : r6 = s6
              · by_cases h7 : r7 = s7
                · simp [h0, h1, h2, h3, h4, h5, h6, h7]
                · simp [h0, h1, h2, h3, h4, h5, h6, h7]
              · simp [h0, h1, h2, h3, h4, h5, h6]
            · simp [h0, h1, h2, h3, h4, h5]
          · simp [h0, h1, h2, h3, h4]
        · simp [h0, h1, h2, h3]
      · simp [h0, h1, h2]
    · simp [h0, h1]
  · simp [h0]
end Go.Proofs.YtmnllmbchpebbaaGreatDoor

/-! forebayref13.num, Node, Graph. -/
namespace Go.Proofs.YtmnllmbchpebbaaGreatDoor
set_option linter.unusedSimpArgs false
set_option linter.unusedVariables false
open Go.RowKit Ga
set_option maxRecDepth 100000

end Go.Proofs.YtmnllmbchpebbaaGreatDoor

/-! forebayref13.Graph. -/
namespace Go.Proofs.YtmnllmbchpebbaaGreatDoor
set_option linter.unusedSimpArgs false
set_option linter.unusedVariables false
open Go.RowKit Ga
set_option maxRecDepth 100000

end Go.Proofs.YtmnllmbchpebbaaGreatDoor

/-! forebayref08.Node, Same. -/
namespace Go.Proofs.YtmnllmbchpebbaaGreatDoor
set_option linter.unusedSimpArgs false
set_option linter.unusedVariables false
open Go.RowKit Ga
set_option maxRecDepth 100000

open Classical in
/-- two nodes are one -/
noncomputable def eqNd (n m : Gr.Nd) : Bool := decide (n = m)
open Classical in
theorem eqNd_false {n m : Gr.Nd} (h : n ≠ m) : eqNd n m = false := by unfold eqNd; exact decide_eq_false h
open Classical in
theorem eqNd_true {n m : Gr.Nd} (h : n = m) : eqNd n m = true := by unfold eqNd; exact decide_eq_true h
theorem eqNd_iff {n m : Gr.Nd} {p : Prop} [Decidable p] (h : n = m ↔ p) : eqNd n m = decide p := by
  by_cases hp : p
  · rw [eqNd_true (h.2 hp), decide_eq_true hp]
  · rw [eqNd_false (fun q => hp (h.1 q)), decide_eq_false hp]
set_option maxHeartbeats 8000000 in
theorem refNode08_any (c d : NdC) (n m : Gr.Nd) (w : World) (hn : NodeIs w c n) (hm : NodeIs w d m) : Calls Tryz.prog 49 #[.agg #[.int .i64 c.id, .int .i64 c.kind, .slice c.af c.nf c.cf, .slice c.ap c.np c.cp, .int .i64 c.par, .int .i64 c.r0, .int .i64 c.r1, .int .i64 c.r2, .int .i64 c.r3, .int .i64 c.r4, .int .i64 c.r5, .int .i64 c.r6, .int .i64 c.r7], .agg #[.int .i64 d.id, .int .i64 d.kind, .slice d.af d.nf d.cf, .slice d.ap d.np d.cp, .int .i64 d.par, .int .i64 d.r0, .int .i64 d.r1, .int .i64 d.r2, .int .i64 d.r3, .int .i64 d.r4, .int .i64 d.r5, .int .i64 d.r6, .int .i64 d.r7]] w (Gives (.bool (eqNd n m)) w) := by
  have HF := Lib.hid hn.f
  have HF2 := Lib.hid hm.f
  have HS := Lib.hid fun W (g : Grew w W) => refSame_any _ _ n.prog m.prog W (hn.p.grew g) (hm.p.grew g)
  obtain ⟨id, kind, af, cf, ap, cp, par, r0, r1, r2, r3, r4, r5, r6, r7, rfl⟩ := hn.lit
  obtain ⟨id2, kind2, af2, cf2, ap2, cp2, par2, s0, s1, s2, s3, s4, s5, s6, s7, rfl⟩ := hm.lit
  have e1 := hn.id
  have e2 := hn.kind
  have e3 := hn.par
  have e4 := hn.route
  have g1 := hm.id
  have g2 := hm.kind
  have g3 := hm.par
  have g4 := hm.route
  simp only at e1 e2 e3 e4 g1 g2 g3 g4 HF HF2 HS
  have E1 := Lib.hid e1
  have E2 := Lib.hid e2
  have E3 := Lib.hid e3
  have E4 := Lib.hid e4
  have G1 := Lib.hid g1
  have G2 := Lib.hid g2
  have G3 := Lib.hid g3
  have G4 := Lib.hid g4
  obtain ⟨fn, hfn⟩ : ∃ fn, fn = n.frm := ⟨_, rfl⟩
  obtain ⟨fm, hfm⟩ : ∃ fm, fm = m.frm := ⟨_, rfl⟩
  have HFN := Lib.hid hfn
  have HFM := Lib.hid hfm
  rw [← hfn] at HF
  rw [← hfm] at HF2
  rw [← hfn, ← hfm]
  clear e1 e2 e3 e4 g1 g2 g3 g4 hn hm hfn hfm
  have H8 := Lib.hid (eq8 r0 r1 r2 r3 r4 r5 r6 r7 s0 s1 s2 s3 s4 s5 s6 s7)
  show Calls Tryz.prog 49 #[.agg #[.int .i64 id, .int .i64 kind, .slice af fn.length cf, .slice ap n.prog.length cp, .int .i64 par, .int .i64 r0, .int .i64 r1, .int .i64 r2, .int .i64 r3, .int .i64 r4, .int .i64 r5, .int .i64 r6, .int .i64 r7], .agg #[.int .i64 id2, .int .i64 kind2, .slice af2 fm.length cf2, .slice ap2 m.prog.length cp2, .int .i64 par2, .int .i64 s0, .int .i64 s1, .int .i64 s2, .int .i64 s3, .int .i64 s4, .int .i64 s5, .int .i64 s6, .int .i64 s7]] w _
  by_cases hlen : fn.length = fm.length
  · have hne : ((fn.length : Int) != (fm.length : Int)) = false := by simp; omega
    have HLEN := Lib.hid hlen
    clear hlen
    go_enter Tryz.func49, Tryz.ntmps49
    go_wp2
    go_loopg [5] fn.length (fun gg z5 wr => ∃ g : Nat, g ≤ fn.length ∧ fn.length - g ≤ gg ∧ z5 = .int .i64 g ∧ Hid (Grew w wr) ∧ Hid (wr.heap[w.heap.size]? = some (.cells #[.int .i64 id, .int .i64 kind, .slice af fn.length cf, .slice ap n.prog.length cp, .int .i64 par, .int .i64 r0, .int .i64 r1, .int .i64 r2, .int .i64 r3, .int .i64 r4, .int .i64 r5, .int .i64 r6, .int .i64 r7] 42)) ∧ Hid (wr.heap[w.heap.size + 1]? = some (.cells #[.int .i64 id2, .int .i64 kind2, .slice af2 fm.length cf2, .slice ap2 m.prog.length cp2, .int .i64 par2, .int .i64 s0, .int .i64 s1, .int .i64 s2, .int .i64 s3, .int .i64 s4, .int .i64 s5, .int .i64 s6, .int .i64 s7] 42)) ∧ Hid (∀ j (h1 : j < fn.length) (h2 : j < fm.length), j < g → fn[j] = fm[j]))
    case atStart => exact ⟨0, by omega, by omega, rfl, Lib.hid (by repeat (first | with_reducible exact Grew.refl _ | apply Grew.more | apply Grew.alloc | apply Grew.drew | apply Grew.drewN)), Lib.hid (heap_alloc_old (heap_new_at w _ _ rfl) _), Lib.hid (heap_new_at _ _ _ (by rw [World.size_alloc])), Lib.hid fun j _ _ h => by omega⟩
    case round =>
      obtain ⟨g, hg8, hgg, rfl, HGR, HBX, HBY, HNO⟩ := hrel
      have c0 := cell_of (o := 0) HBX.out
      have d0 := cell_of (o := 0) HBY.out
      have c1 := cell_of (o := 1) HBX.out
      have d1 := cell_of (o := 1) HBY.out
      have c2 := cell_of (o := 2) HBX.out
      have d2 := cell_of (o := 2) HBY.out
      have c3 := cell_of (o := 3) HBX.out
      have d3 := cell_of (o := 3) HBY.out
      have c4 := cell_of (o := 4) HBX.out
      have d4 := cell_of (o := 4) HBY.out
      have c5 := cell_of (o := 5) HBX.out
      have d5 := cell_of (o := 5) HBY.out
      have c6 := cell_of (o := 6) HBX.out
      have d6 := cell_of (o := 6) HBY.out
      have c7 := cell_of (o := 7) HBX.out
      have d7 := cell_of (o := 7) HBY.out
      have c8 := cell_of (o := 8) HBX.out
      have d8 := cell_of (o := 8) HBY.out
      have c9 := cell_of (o := 9) HBX.out
      have d9 := cell_of (o := 9) HBY.out
      have c10 := cell_of (o := 10) HBX.out
      have d10 := cell_of (o := 10) HBY.out
      have c11 := cell_of (o := 11) HBX.out
      have d11 := cell_of (o := 11) HBY.out
      have c12 := cell_of (o := 12) HBX.out
      have d12 := cell_of (o := 12) HBY.out
      have px := Pre.mk (heap_lt HBX.out)
      have py := Pre.mk (heap_lt HBY.out)
      simp at c0 d0 c1 d1 c2 d2 c3 d3 c4 d4 c5 d5 c6 d6 c7 d7 c8 d8 c9 d9 c10 d10 c11 d11 c12 d12
      by_cases hlt : g < fn.length
      · obtain ⟨af', cf', e, hfb, hx⟩ := ints_open (HF.out.grew HGR.out)
        cases e
        obtain ⟨bf, offf, rfl, hpf, cx⟩ := hx g hlt
        obtain ⟨af3, cf3, e, -, hy⟩ := ints_open (HF2.out.grew HGR.out)
        cases e
        have hlt2 : g < fm.length := by have := HLEN.out; omega
        obtain ⟨bg, offg, rfl, hpg, cy⟩ := hy g hlt2
        have hmeas : fn.length - (g + 1) < fn.length - g := by omega
        have hg1 : g + 1 ≤ fn.length := hlt
        have HMEAS := Lib.hid (And.intro hmeas hg1)
        clear hmeas hg1 hx hy c0 d0 c1 d1 c3 d3 c4 d4 c5 d5 c6 d6 c7 d7 c8 d8 c9 d9 c10 d10 c11 d11 c12 d12
        by_cases hxy : fn[g] = fm[g]
        · have HXYZ := Lib.hid hxy
          rw [← hxy] at cy
          clear hxy
          generalize hgx : fn[g] = x at *
          have HGX := Lib.hid hgx
          clear hgx
          go_wp2_with fail
          go_quiet (fail)
          go_wp2
          go_roundg (fn.length - (g + 1))
          case measure => (have := HMEAS.out; omega)
          case rel => exact ⟨g + 1, HMEAS.out.2, Nat.le_refl _, by go_num, Lib.hid (HGR.out.trans (by repeat (first | with_reducible exact Grew.refl _ | apply Grew.more | apply Grew.alloc | apply Grew.drew | apply Grew.drewN))), Lib.hid (grew_heap (by repeat (first | with_reducible exact Grew.refl _ | apply Grew.more | apply Grew.alloc | apply Grew.drew | apply Grew.drewN)) HBX.out), Lib.hid (grew_heap (by repeat (first | with_reducible exact Grew.refl _ | apply Grew.more | apply Grew.alloc | apply Grew.drew | apply Grew.drewN)) HBY.out), Lib.hid fun j h1 h2 h => by
            rcases Nat.lt_or_ge j g with h3 | h3
            · exact HNO.out j h1 h2 h3
            · obtain rfl : j = g := by omega
              rw [HGX.out]
              exact HXYZ.out⟩
        · have hno : eqNd n m = false := eqNd_false fun h => hxy (by
            have := HFN.out.trans ((congrArg Gr.Nd.frm h).trans HFM.out.symm)
            subst this
            rfl)
          have HNO2 := Lib.hid hno
          have hxb : (fn[g] != fm[g]) = true := by rw [bne_iff_ne]; exact hxy
          clear hno hxy
          generalize fn[g] = x at *
          generalize fm[g] = y at *
          go_wp2_with fail
          go_quiet (fail)
          go_wp2
          go_ret
          exact ⟨by rw [HNO2.out]; rfl, HGR.out.trans (by repeat (first | with_reducible exact Grew.refl _ | apply Grew.more | apply Grew.alloc | apply Grew.drew | apply Grew.drewN))⟩
      · obtain rfl : g = fn.length := by omega
        have hff : fn = fm := List.ext_getElem HLEN.out fun j h1 h2 => HNO.out j h1 h2 h1
        have HFF := Lib.hid (HFN.out.symm.trans (hff.trans HFM.out))
        clear hff
        by_cases i0 : id = id2
        · by_cases k0 : kind = kind2
          · by_cases p0 : par = par2
            · by_cases r0e : ([r0, r1, r2, r3, r4, r5, r6, r7] : List Int) = [s0, s1, s2, s3, s4, s5, s6, s7]
              · have hR := Lib.hid r0e
                have h8 := fun W => (H8.out W).trans (by rw [decide_eq_true r0e])
                have hdec : eqNd n m = decide (n.prog = m.prog) := by
                  refine eqNd_iff ⟨fun h => by rw [h], fun h => ?_⟩
                  obtain ⟨a1, a2, a3, a4, a5, a6⟩ := n
                  obtain ⟨b1, b2, b3, b4, b5, b6⟩ := m
                  have q1 := E1.out
                  have q2 := G1.out
                  have q3 := E2.out
                  have q4 := G2.out
                  have q5 := E3.out
                  have q6 := G3.out
                  have q7 := E4.out
                  have q8 := G4.out
                  have q9 := HFF.out
                  simp only at q1 q2 q3 q4 q5 q6 q7 q8 q9 h
                  rw [q1, q2, q3, q4, q5, q6, q7, q8, q9, h, i0, k0, p0, r0e]
                have HDEC := Lib.hid hdec
                subst i0 k0 p0
                clear hdec r0e
                generalize decide (n.prog = m.prog) = q at *
                go_wp2_with (go_at_call 93; refine (HS.out _ (HGR.out.trans (by repeat (first | with_reducible exact Grew.refl _ | apply Grew.more | apply Grew.alloc | apply Grew.drew | apply Grew.drewN)))).mono ?_; rintro e w2 ⟨rfl, R5, n5, rfl⟩)
                go_ret
                exact ⟨by rw [HDEC.out]; rfl, HGR.out.trans (by repeat (first | with_reducible exact Grew.refl _ | apply Grew.more | apply Grew.alloc | apply Grew.drew | apply Grew.drewN))⟩
              · have h8 := fun W => (H8.out W).trans (by rw [decide_eq_false r0e])
                subst i0 k0 p0
                have hno : eqNd n m = false := eqNd_false fun h => r0e (E4.out.symm.trans ((congrArg Gr.Nd.route h).trans G4.out))
                have HNO2 := Lib.hid hno
                clear hno
                clear r0e
                go_wp2
                go_ret
                exact ⟨by rw [HNO2.out]; rfl, HGR.out⟩
            · subst i0 k0
              have p0b : (par == par2) = false := by simpa using p0
              have hno : eqNd n m = false := eqNd_false fun h => p0 (E3.out.symm.trans ((congrArg Gr.Nd.par h).trans G3.out))
              have HNO2 := Lib.hid hno
              clear hno
              clear p0
              go_wp2
              go_ret
              exact ⟨by rw [HNO2.out]; rfl, HGR.out⟩
          · subst i0
            have k0b : (kind == kind2) = false := by simpa using k0
            have hno : eqNd n m = false := eqNd_false fun h => k0 (E2.out.symm.trans ((congrArg Gr.Nd.kind h).trans G2.out))
            have HNO2 := Lib.hid hno
            clear hno
            clear k0
            go_wp2
            go_ret
            exact ⟨by rw [HNO2.out]; rfl, HGR.out⟩
        · have i0b : (id == id2) = false := by simpa using i0
          have hno : eqNd n m = false := eqNd_false fun h => i0 (E1.out.symm.trans ((congrArg Gr.Nd.id h).trans G1.out))
          have HNO2 := Lib.hid hno
          clear hno
          clear i0
          go_wp2
          go_ret
          exact ⟨by rw [HNO2.out]; rfl, HGR.out⟩
  · have hne : ((fn.length : Int) != (fm.length : Int)) = true := by rw [bne_iff_ne]; omega
    have hno : eqNd n m = false := eqNd_false fun h => hlen (by
      have := HFN.out.trans ((congrArg Gr.Nd.frm h).trans HFM.out.symm)
      rw [this])
    rw [hno]
    clear hno hlen
    go_enter Tryz.func49, Tryz.ntmps49
    go_wp2
    go_ret
    refine ⟨rfl, ?_⟩
    repeat (first | with_reducible exact Grew.refl _ | apply Grew.more | apply Grew.alloc | apply Grew.drew | apply Grew.drewN)
end Go.Proofs.YtmnllmbchpebbaaGreatDoor

/-! octet.Writer.Num where a number does not fit: nothing is written. -/
namespace Go.Proofs.YtmnllmbchpebbaaGreatDoor
set_option linter.unusedSimpArgs false
set_option linter.unusedVariables false
open Go.RowKit Ga
set_option maxRecDepth 100000

set_option maxHeartbeats 4000000 in
theorem writerNum_bad (base : Nat) (W : World) (B : Nat) (vb : Value) (bs : List UInt8) (v : Value) (l : List Int) (_hw : WriterAt base B W vb bs) (hv : RowsAt 1 encN W v l) (hok : l.all Oc.fitsN = false) :
    Calls Tryz.prog 128 #[.pointer (some ⟨B, 0, none⟩), v] W fun e W' => e = .returned (.int .i64 2) ∧ W' = W := by
  obtain ⟨a, cap, rfl, hm, hl⟩ := hv.open1
  have HL := Lib.hid hl
  have HOK := Lib.hid hok
  clear hv hok hl _hw
  go_enter Tryz.func128, Tryz.ntmps128
  go_wp2
  go_loopg [14] l.length (fun gg i wr => ∃ (k : Nat), k ≤ l.length ∧ l.length - k ≤ gg ∧ i = .int .i64 k ∧ wr = W ∧ Hid (∀ x ∈ l.take k, Oc.fitsN x = true))
  case atStart => exact ⟨0, Nat.zero_le _, by omega, rfl, rfl, Lib.hid fun x hx => by simp at hx⟩
  case round =>
    obtain ⟨k, hk, hgg, rfl, rfl, HNO⟩ := hrel
    by_cases hlt : k < l.length
    · obtain ⟨b, off, rfl, hb, hx⟩ := HL.out k hlt
      have HTK := Lib.hid (List.take_succ_eq_append_getElem hlt)
      generalize l[k] = x at *
      cases hf : Oc.fitsN x
      · have HF := Lib.hid hf
        clear hf
        go_wp2_with (go_at_call 167; refine (octFits_any _ _).mono ?_; rintro e w1 ⟨rfl, rfl⟩; rw [HF.out])
        go_ret
        exact ⟨rfl, rfl⟩
      · have HF := Lib.hid hf
        clear hf
        go_wp2_with (go_at_call 167; refine (octFits_any _ _).mono ?_; rintro e w1 ⟨rfl, rfl⟩; rw [HF.out])
        go_roundg (l.length - (k + 1))
        case measure => omega
        case rel => exact ⟨k + 1, by omega, by omega, by go_num, rfl, Lib.hid fun y hy => by
          rw [HTK.out, List.mem_append, List.mem_singleton] at hy
          rcases hy with hy | rfl
          · exact HNO.out y hy
          · exact HF.out⟩
    · obtain rfl : k = l.length := by omega
      have h1 := HNO.out
      rw [List.take_length] at h1
      have h2 := HOK.out
      rw [List.all_eq_true.2 h1] at h2
      cases h2
set_option maxHeartbeats 4000000 in
theorem codePut_bad (W : World) (B : Nat) (v : Value) (l : List Val) (hv : ValsAt W v l) (hf : Co.fitsI l = false) : Calls Tryz.prog 168 #[.pointer (some ⟨B, 0, none⟩), v] W (Gives (.int .i64 1) W) := by
  obtain ⟨a, cap, rfl, hm, -⟩ := hv.open2
  have HV := Lib.hid hv
  have HF := Lib.hid hf
  clear hv hf
  go_enter Tryz.func168, Tryz.ntmps168
  go_wp2_with (go_at_call 108; refine (codeFits_any _ l _ (HV.out.grew (by repeat (first | with_reducible exact Grew.refl _ | apply Grew.more | apply Grew.alloc | apply Grew.drew | apply Grew.drewN)))).mono ?_; rintro e w1 ⟨rfl, R3, n3, rfl⟩; rw [HF.out])
  go_ret
  refine ⟨rfl, ?_⟩
  repeat (first | with_reducible exact Grew.refl _ | apply Grew.more | apply Grew.alloc | apply Grew.drew | apply Grew.drewN)
/-- whatever the numbers: some bytes, or none -/
def PutSome (w0 W : World) (B : Nat) (bs : List UInt8) (n : Nat) (e : Ending) (W' : World) : Prop := ∃ x, e = .returned (.int .i64 x) ∧ Grew w0 W' ∧ KeptW w0.heap.size B W W' ∧ ∃ vb' zs, zs.length ≤ n ∧ WriterAt w0.heap.size B W' vb' (bs ++ zs)
theorem writerNum_some (w0 W : World) (B : Nat) (vb : Value) (bs : List UInt8) (v : Value) (l : List Int) (hw : WriterAt w0.heap.size B W vb bs) (hg : Grew w0 W) (hv : RowsAt 1 encN W v l)
    (hs : ∀ b off, (∃ n c, v = .slice (some ⟨b, off, none⟩) n c) → Safe w0.heap.size b W ∧ b ≠ B) (hlen : bs.length + l.length * 4 ≤ 100000) :
    Calls Tryz.prog 128 #[.pointer (some ⟨B, 0, none⟩), v] W (PutSome w0 W B bs (l.length * 4)) := by
  cases hok : l.all Oc.fitsN
  · refine (writerNum_bad _ W B vb bs v l hw hv hok).mono ?_
    rintro e W' ⟨rfl, rfl⟩
    exact ⟨2, rfl, hg, KeptW.refl _ _ _, vb, [], Nat.zero_le _, by rw [List.append_nil]; exact hw⟩
  · refine (writerNum_keep w0 W B vb bs v l hw hg hv hs hok hlen).mono ?_
    rintro e W' ⟨rfl, h1, h2, vb', h3⟩
    exact ⟨0, rfl, h1, h2, vb', Oc.bes l, by rw [Oc.bes_len]; omega, h3⟩
theorem codePut_some (w0 W : World) (B : Nat) (vb : Value) (bs : List UInt8) (v : Value) (l : List Val) (hw : WriterAt w0.heap.size B W vb bs) (hg : Grew w0 W) (hv : ValsAt W v l) (hs : ∀ b off, (∃ n c, v = .slice (some ⟨b, off, none⟩) n c) → Safe w0.heap.size b W ∧ b ≠ B) (hlen : bs.length ≤ 10000) :
    Calls Tryz.prog 168 #[.pointer (some ⟨B, 0, none⟩), v] W (PutSome w0 W B bs 300) := by
  cases hf : Co.fitsI l
  · refine (codePut_bad W B v l hv hf).mono ?_
    rintro e W' ⟨rfl, g⟩
    exact ⟨1, rfl, hg.trans g, KeptW.ofGrew g, vb, [], Nat.zero_le _, by rw [List.append_nil]; exact hw.grew g⟩
  · refine (codePut_keep w0 W B vb bs v l hw hg hv hs hf hlen).mono ?_
    rintro e W' ⟨rfl, h1, h2, vb', h3⟩
    exact ⟨0, rfl, h1, h2, vb', putI l, by have := putI_len l hf; omega, h3⟩
end Go.Proofs.YtmnllmbchpebbaaGreatDoor

/-! forebayref08.Check, cut: the frame, the code from a region on. -/
namespace Go.Proofs.YtmnllmbchpebbaaGreatDoor
set_option linter.unusedSimpArgs false
set_option linter.unusedVariables false
open Go.RowKit Ga
set_option maxRecDepth 100000

end Go.Proofs.YtmnllmbchpebbaaGreatDoor

/-! forebayref08.Check, cut: the routes. -/
namespace Go.Proofs.YtmnllmbchpebbaaGreatDoor
set_option linter.unusedSimpArgs false
set_option linter.unusedVariables false
open Go.RowKit Ga
set_option maxRecDepth 100000

end Go.Proofs.YtmnllmbchpebbaaGreatDoor
