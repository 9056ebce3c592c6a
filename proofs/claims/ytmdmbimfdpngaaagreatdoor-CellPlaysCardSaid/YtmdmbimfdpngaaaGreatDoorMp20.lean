import Derived.Test.YtmdmbimfdpngaaaGreatDoorMp19
import Derived.Test.YtmdmbimfdpngaaaGreatDoorMp12
import Derived.Deep.QuietTactic
import Derived.BigQuiet
/-! cell: Group, Of. -/
namespace Go.Proofs.YtmdmbimfdpngaaaGreatDoor
set_option linter.unusedSimpArgs false
set_option linter.unusedVariables false
open Go.RowKit Ga
set_option maxRecDepth 100000

theorem grew_cell {W W' : World} {a : Addr} {u : Value} (g : Grew W W') (h : W.cell? a = some u) : W'.cell? a = some u := below_keeps g.below a u h
theorem tmod8r (k : Int) : -8 < k.tmod 8 ∧ k.tmod 8 < 8 ∧ (k.tmod 8) % 8 = k % 8 := by
  rw [Int.tmod_eq_emod]
  split <;> simp <;> omega
theorem tmod8 (k : Int) : (k.tmod 8 + 8).tmod 8 = k % 8 := by
  obtain ⟨h1, h2, h3⟩ := tmod8r k
  rw [Int.tmod_eq_emod_of_nonneg (by omega)]
  omega
theorem group_any (k : Int) (w : World) : Calls Tryz.prog 52 #[.int .i64 k] w fun e w' => e = .returned (.int .i64 (k % 8)) ∧ w = w' := by
  obtain ⟨h1, h3, -⟩ := tmod8r k
  have h2 := tmod8 k
  go_enter Tryz.func52, Tryz.ntmps52
  go_wp2
  go_ret
  exact ⟨rfl, rfl⟩
set_option maxHeartbeats 2000000 in
theorem askedOf_any (n k nd : Int) (gs : List Int) (vg : Value) (B1 B2 : Nat) (W : World) (h1 : W.cell? ⟨B1, 0, none⟩ = some (.int .i64 nd)) (h2 : W.cell? ⟨B2, 0, none⟩ = some vg) (hgs : IntsAt W vg gs) :
    Calls Tryz.prog 50 #[.agg #[.int .i64 n, .int .i64 k], .pointer (some ⟨B1, 0, none⟩), .pointer (some ⟨B2, 0, none⟩)] W (Gives (.bool (ofP nd gs ⟨n, k, (0, 0), (0, 0)⟩)) W) := by
  have HC := Lib.hid fun W2 (g : Grew W W2) => containsI_any vg gs (k % 8) W2 (hgs.grew g)
  have p1 := Pre.ofCell h1
  have p2 := Pre.ofCell h2
  obtain ⟨ag, cg, rfl⟩ := hgs.len
  clear hgs
  by_cases hn : n = nd
  · subst hn
    have hb : ofP n gs ⟨n, k, (0, 0), (0, 0)⟩ = decide (k % 8 ∈ gs) := by unfold ofP; simp
    rw [hb]
    clear hb
    go_enter Tryz.func50, Tryz.ntmps50
    go_wp2
    go_quiet (first | (go_at_call 52; refine Calls.quiet_of_same ((group_any _ _).mono fun e w' h => ⟨h.1, h.2.symm⟩)) | (go_at_call 51; refine Calls.quiet_of_same (HC.out _ (by repeat (first | with_reducible exact Grew.refl _ | apply Grew.more | apply Grew.alloc | apply Grew.drew | apply Grew.drewN)))))
    go_wp2
    go_ret
    exact ⟨rfl, by repeat (first | with_reducible exact Grew.refl _ | apply Grew.more | apply Grew.alloc | apply Grew.drew | apply Grew.drewN)⟩
  · have hb : ofP nd gs ⟨n, k, (0, 0), (0, 0)⟩ = false := by unfold ofP; simp [hn]
    rw [hb]
    clear hb
    go_enter Tryz.func50, Tryz.ntmps50
    go_wp2
    go_quiet (fail)
    go_wp2
    go_ret
    exact ⟨rfl, by repeat (first | with_reducible exact Grew.refl _ | apply Grew.more | apply Grew.alloc | apply Grew.drew | apply Grew.drewN)⟩
set_option maxHeartbeats 8000000 in
theorem tabSomeOf_any (W : World) (t b n : Nat) (m : List Tab.En) (hT : TableAt W t b n m) (nd : Int) (gs : List Int) (vg : Value) (B1 B2 : Nat) (hB1 : W.cell? ⟨B1, 0, none⟩ = some (.int .i64 nd)) (hB2 : W.cell? ⟨B2, 0, none⟩ = some vg) (hgs : IntsAt W vg gs) : Calls Tryz.prog 48 #[.pointer (some ⟨t, 0, none⟩), .func (.func 50) #[] #[.pointer (some ⟨B1, 0, none⟩), .pointer (some ⟨B2, 0, none⟩)]] W (AllPost (m.filter (ofP nd gs)) W) := by
  have tc := cell_of (o := 0) hT.1
  simp at tc
  have pt := Pre.mk (heap_lt hT.1)
  obtain ⟨D, ho, hD⟩ := hT.2
  have HO := Lib.hid ho
  have HD := Lib.hid hD
  have hbW := ho.lt
  have HAS := Lib.hid fun n k W2 (g : Grew W W2) => askedOf_any n k nd gs vg B1 B2 W2 (grew_cell g hB1) (grew_cell g hB2) (hgs.grew g)
  clear hT ho hD hB1 hB2 hgs
  go_enter Tryz.func48, Tryz.ntmps48
  go_wp2_with (at_range; refine wpList_range_own _ rfl (.tmp 13) 104 rfl 115 48 cell_law Tryz.underlying104 ceR b n D rfl HO.out ?_; intro W1 hr1 hg1 hs1; (have HR1 := Lib.hid hr1); (have HG1 := Lib.hid ((Grew.refl W).grown hg1 fun q hq => by cases hq)); clear hr1 hg1 hs1)
  go_simp
  go_loopg [5] (Maps.size D) (fun gg s5 wr => ∃ (left : Lit → Bool) (cnt : Nat) (lo : List Tab.En) (vk : Value), cnt ≤ gg ∧ vk = s5 ∧ Hid (OwnAt W.heap.size 53 6 encEn wr vk (lo.filter (ofP nd gs))) ∧ Hid (RangesC wr b W.heap.size n D left cnt) ∧ Hid (Grew W wr) ∧ Hid (Seen D m lo left))
  case atStart => exact ⟨_, _, [], _, Nat.le_refl _, rfl, Lib.hid (OwnAt.nil _), HR1, HG1, Lib.hid (Seen.start HD.out)⟩
  case round =>
    obtain ⟨left, cnt, lo, vk, hgg, rfl, HOW, HRG, HG, HS⟩ := hrel
    have h512 := len512 (fun x hx => HD.out.there x (HS.out.sub x hx)) HS.out.un
    have hfl := List.length_filter_le (ofP nd gs) lo
    obtain ⟨ak, ck, rfl⟩ := (OwnAt.rows HOW.out encEn_len).len
    go_wp2_with (at_next; go_loud (refine wpList_next_ranges _ rfl (.tmp 14) rfl 115 cell_law ceR (fun x : Int × Int => ceK x.1 x.2) (fun c : Val × Val => cev c.1 c.2) place_inv cev_inv b W.heap.size n D left cnt rfl HRG.out ?_ ?_))
    · intro hc0 hl0
      have hp := HS.out.done HD.out hl0
      have HP := Lib.hid hp
      clear hc0 hl0 hp
      go_wp2_with (go_at_call 79; refine (sortEnts_any W.heap.size _ _ (lo.filter (ofP nd gs)) (OwnAt.grew HOW.out (by repeat (first | with_reducible exact Grew.refl _ | apply Grew.more | apply Grew.alloc | apply Grew.drew | apply Grew.drewN))) (fun x hx => HD.out.there x (HS.out.sub x (List.mem_filter.1 hx).1)) (by omega)).mono ?_; rintro e w3 ⟨rfl, l', q1, q2, q3, q4, q5, q6⟩; (have Q1 := Lib.hid q1); (have Q2 := Lib.hid q2); (have Q3 := Lib.hid q3); (have Q6 := Lib.hid (q6 W (HG.out.trans (by repeat (first | with_reducible exact Grew.refl _ | apply Grew.more | apply Grew.alloc | apply Grew.drew | apply Grew.drewN))) (Nat.le_refl _))); clear q1 q2 q3 q4 q5 q6)
      go_ret
      exact ⟨_, l', rfl, Q1.out, Q2.out.trans (HP.out.filter _), Q3.out, Q6.out⟩
    · intro n' k' p0 q0 p1 q1 kl y1 y2 W1 cnt1 hkk hlk hRy hat hrg1 hlt hg1 hs1 hen
      have HS1 := Lib.hid (HS.out.next HD.out hkk hlk hRy hat)
      have HG1 := Lib.hid (HG.out.grown hg1 fun q hq => by cases hq; exact Nat.le_refl _)
      have HO1 : Hid (OwnAt W.heap.size 53 6 encEn W1 (.slice ak (lo.filter (ofP nd gs)).length ck) (lo.filter (ofP nd gs))) := Lib.hid (OwnAt.same HOW.out fun q hq => hg1.block q (by obtain ⟨_, cs, hc⟩ := OwnAt.block HOW.out hq; exact heap_lt hc) (fun e => (rangesC_own HRG.out HOW.out).2 (by rw [hq, e])))
      have HRG1 := Lib.hid hrg1
      unfold ceK cev at hen ⊢
      clear hkk hlk hRy hat hrg1 hg1 hs1
      cases hof : ofP nd gs ⟨n', k', (p0, q0), (p1, q1)⟩
      · have HFL : Hid ((lo ++ [(⟨n', k', (p0, q0), (p1, q1)⟩ : Tab.En)]).filter (ofP nd gs) = lo.filter (ofP nd gs)) := Lib.hid (by rw [List.filter_append, List.filter_cons, hof]; simp)
        have HOF : Hid (ofP nd gs ⟨n', k', (0, 0), (0, 0)⟩ = false) := Lib.hid hof
        clear hof
        go_wp2_with (go_at_call 50; refine (HAS.out _ _ _ (HG1.out.trans (by repeat (first | with_reducible exact Grew.refl _ | apply Grew.more | apply Grew.alloc | apply Grew.drew | apply Grew.drewN)))).mono ?_; rintro e w3 ⟨rfl, R3, n3, rfl⟩; rw [HOF.out])
        go_roundg cnt1
        case measure => omega
        case rel => exact ⟨_, cnt1, _, _, Nat.le_refl _, rfl, Lib.hid (by rw [HFL.out]; exact OwnAt.grew HO1.out (by repeat (first | with_reducible exact Grew.refl _ | apply Grew.more | apply Grew.alloc | apply Grew.drew | apply Grew.drewN))), Lib.hid (rangesC_grew HRG1.out (by repeat (first | with_reducible exact Grew.refl _ | apply Grew.more | apply Grew.alloc | apply Grew.drew | apply Grew.drewN))), Lib.hid (HG1.out.trans (by repeat (first | with_reducible exact Grew.refl _ | apply Grew.more | apply Grew.alloc | apply Grew.drew | apply Grew.drewN))), HS1⟩
      · have HFL : Hid ((lo ++ [(⟨n', k', (p0, q0), (p1, q1)⟩ : Tab.En)]).filter (ofP nd gs) = lo.filter (ofP nd gs) ++ [(⟨n', k', (p0, q0), (p1, q1)⟩ : Tab.En)]) := Lib.hid (by rw [List.filter_append, List.filter_cons, hof]; simp)
        have HOF : Hid (ofP nd gs ⟨n', k', (0, 0), (0, 0)⟩ = true) := Lib.hid hof
        clear hof
        go_wp2_with (first
          | (go_at_call 50; refine (HAS.out _ _ _ (HG1.out.trans (by repeat (first | with_reducible exact Grew.refl _ | apply Grew.more | apply Grew.alloc | apply Grew.drew | apply Grew.drewN)))).mono ?_; rintro e w3 ⟨rfl, R3, n3, rfl⟩; rw [HOF.out])
          | (at_builtin; go_loud (refine wpList_ownK (w0 := W) rfl (.tmp 23) (.tmp 30) 31 _ _ _ _ [⟨n', k', (p0, q0), (p1, q1)⟩] rfl Tryz.underlying31 infoEn rfl (by decide) encEn_len encEn_one rfl (OwnAt.grew HO1.out (by repeat (first | with_reducible exact Grew.refl _ | apply Grew.more | apply Grew.alloc | apply Grew.drew | apply Grew.drewN))) (HG1.out.trans (by repeat (first | with_reducible exact Grew.refl _ | apply Grew.more | apply Grew.alloc | apply Grew.drew | apply Grew.drewN))) rfl (en_at _ _ _ _ rfl (by simp [go_sem])) (by simp; omega) (by decide) (by simp) ?_; intro v5 W5 hA; (have HA := Lib.hid hA); clear hA)))
        have HR5 := Lib.hid (rangesC_app (rangesC_grew HRG1.out (by repeat (first | with_reducible exact Grew.refl _ | apply Grew.more | apply Grew.alloc | apply Grew.drew | apply Grew.drewN))) (OwnAt.grew HO1.out (by repeat (first | with_reducible exact Grew.refl _ | apply Grew.more | apply Grew.alloc | apply Grew.drew | apply Grew.drewN))) HA.out)
        go_roundg cnt1
        case measure => omega
        case rel => exact ⟨_, cnt1, _, _, Nat.le_refl _, rfl, Lib.hid (by rw [HFL.out]; exact HA.out.2.1), HR5, Lib.hid HA.out.1, HS1⟩
theorem tabOf_any (W : World) (t b n : Nat) (m : List Tab.En) (hT : TableAt W t b n m) (nd : Int) (gs : List Int) (vg : Value) (hgs : IntsAt W vg gs) : Calls Tryz.prog 24 #[.pointer (some ⟨t, 0, none⟩), .int .i64 nd, vg] W (AllPost (m.filter (ofP nd gs)) W) := by
  have HT := Lib.hid hT
  have HGS := Lib.hid hgs
  obtain ⟨ag, cg, rfl⟩ := hgs.len
  clear hT hgs
  go_enter Tryz.func24, Tryz.ntmps24
  go_wp2_with (go_at_call 48; go_loud (refine (tabSomeOf_any _ t b n m (HT.out.grew (by repeat (first | with_reducible exact Grew.refl _ | apply Grew.more | apply Grew.alloc | apply Grew.drew | apply Grew.drewN))) nd gs _ _ _ (by simp [go_sem]) (by simp [go_sem]) (HGS.out.grew (by repeat (first | with_reducible exact Grew.refl _ | apply Grew.more | apply Grew.alloc | apply Grew.drew | apply Grew.drewN)))).mono ?_); rintro e w1 ⟨v, s, rfl, h1, h2, h3, h4⟩; obtain ⟨ak, ck, rfl⟩ := (OwnAt.rows h1 encEn_len).len; (have H1 := Lib.hid h1); (have H2 := Lib.hid h2); (have H3 := Lib.hid h3); (have H4 := Lib.hid h4); clear h1 h2 h3 h4)
  go_ret
  exact ⟨_, s, rfl, OwnAt.low H1.out (by simp [World.size_alloc]; omega), H2.out, H3.out, Grew.trans (by repeat (first | with_reducible exact Grew.refl _ | apply Grew.more | apply Grew.alloc | apply Grew.drew | apply Grew.drewN)) H4.out⟩
end Go.Proofs.YtmdmbimfdpngaaaGreatDoor

/-! What a table answers, and that this makes it up. -/
namespace Go.Proofs.YtmdmbimfdpngaaaGreatDoor
set_option linter.unusedSimpArgs false
set_option linter.unusedVariables false
open Go.RowKit Ga
set_option maxRecDepth 100000

/-- what is kept at a place -/
def getT (m : List Tab.En) (n k : Int) : Val × Val := match m.find? fun x => Tab.num x == n * 64 + k with
  | none => ((0, 0), (0, 0))
  | some x => (x.c0, x.c1)
theorem getT_no {m : List Tab.En} {n k : Int} (h : ∀ x ∈ m, Tab.num x ≠ n * 64 + k) : getT m n k = ((0, 0), (0, 0)) := by
  unfold getT
  rw [List.find?_eq_none.2 fun x hx => by simpa using h x hx]
theorem getT_is {m : List Tab.En} (hu : UnE m) {x : Tab.En} (hx : x ∈ m) {n k : Int} (h : Tab.num x = n * 64 + k) : getT m n k = (x.c0, x.c1) := by
  unfold getT
  cases hf : m.find? fun x => Tab.num x == n * 64 + k with
  | none =>
    have := List.find?_eq_none.1 hf x hx
    simp [h] at this
  | some y =>
    have h1 := List.find?_some hf
    have h2 := List.mem_of_find?_eq_some hf
    have h3 : Tab.num y = n * 64 + k := by simpa using h1
    rw [un_eq hu h2 hx (h3.trans h.symm)]
theorem getT_cases (m : List Tab.En) (n k : Int) : (∃ x ∈ m, Tab.num x = n * 64 + k ∧ getT m n k = (x.c0, x.c1)) ∨ ((∀ x ∈ m, Tab.num x ≠ n * 64 + k) ∧ getT m n k = ((0, 0), (0, 0))) := by
  cases hf : m.find? fun x => Tab.num x == n * 64 + k with
  | none =>
    have := List.find?_eq_none.1 hf
    refine .inr ⟨fun x hx => by simpa using this x hx, ?_⟩
    unfold getT
    rw [hf]
  | some y =>
    have h1 := List.find?_some hf
    have h2 := List.mem_of_find?_eq_some hf
    refine .inl ⟨y, h2, by simpa using h1, ?_⟩
    unfold getT
    rw [hf]
theorem nz_no {x : Tab.En} (h : Tab.nz x = false) : x.c0 = (0, 0) ∧ x.c1 = (0, 0) := by
  unfold Tab.nz at h
  simpa using h
theorem nz_get {x : Tab.En} (h : Tab.nz x = true) : (x.c0, x.c1) ≠ (((0, 0), (0, 0)) : Val × Val) := by
  unfold Tab.nz at h
  intro e
  injection e with e1 e2
  rw [e1, e2] at h
  simp at h
theorem setT_mem {m : List Tab.En} {x y : Tab.En} (h : y ∈ Tab.setT m x) : y = x ∨ (y ∈ m ∧ Tab.num y ≠ Tab.num x) := by
  unfold Tab.setT at h
  split at h
  · rcases List.mem_cons.1 h with h | h
    · exact .inl h
    · exact .inr ⟨(List.mem_filter.1 h).1, by simpa using (List.mem_filter.1 h).2⟩
  · exact .inr ⟨(List.mem_filter.1 h).1, by simpa using (List.mem_filter.1 h).2⟩
theorem setT_un {m : List Tab.En} (h : UnE m) (x : Tab.En) : UnE (Tab.setT m x) := by
  unfold Tab.setT
  split
  · refine List.pairwise_cons.2 ⟨fun y hy e => ?_, h.filter _⟩
    have := (List.mem_filter.1 hy).2
    simp [e] at this
  · exact h.filter _
theorem getT_set {m : List Tab.En} (hu : UnE m) (x : Tab.En) (n k : Int) : getT (Tab.setT m x) n k = if Tab.num x = n * 64 + k then (x.c0, x.c1) else getT m n k := by
  split
  · rename_i h
    cases hz : Tab.nz x
    · obtain ⟨e1, e2⟩ := nz_no hz
      rw [e1, e2]
      refine getT_no fun y hy e => ?_
      unfold Tab.setT at hy
      rw [hz, if_neg (by simp)] at hy
      have := (List.mem_filter.1 hy).2
      simp [e, h] at this
    · refine getT_is (setT_un hu x) ?_ h
      unfold Tab.setT
      rw [if_pos hz]
      exact List.mem_cons_self ..
  · rename_i h
    rcases getT_cases m n k with ⟨y, hy, h1, h2⟩ | ⟨h1, h2⟩
    · rw [h2]
      refine getT_is (setT_un hu x) ?_ h1
      have hf : y ∈ m.filter fun y => Tab.num y != Tab.num x := List.mem_filter.2 ⟨hy, by rw [h1, bne_iff_ne]; exact fun e => h e.symm⟩
      unfold Tab.setT
      split
      · exact List.mem_cons_of_mem _ hf
      · exact hf
    · rw [h2]
      refine getT_no fun y hy e => ?_
      rcases setT_mem hy with rfl | ⟨h3, _⟩
      · exact h e
      · exact h1 y h3 e
/-- a table: unlike places, none empty, each one right -/
structure OkT (m : List Tab.En) : Prop where
  un : UnE m
  nz : ∀ x ∈ m, Tab.nz x = true
  ok : ∀ x ∈ m, okEn x = true
theorem okEn_there {x : Tab.En} (h : okEn x = true) : There x := by
  unfold okEn at h
  rw [Bool.and_eq_true] at h
  exact thereB_iff.1 h.1
theorem OkT.there {m : List Tab.En} (h : OkT m) : ∀ x ∈ m, There x := fun x hx => okEn_there (h.ok x hx)
theorem OkT.nil : OkT [] := ⟨List.Pairwise.nil, fun x hx => (by cases hx), fun x hx => (by cases hx)⟩
theorem OkT.set {m : List Tab.En} (h : OkT m) {x : Tab.En} (hx : okEn x = true) : OkT (Tab.setT m x) := by
  refine ⟨setT_un h.un x, fun y hy => ?_, fun y hy => ?_⟩
  · unfold Tab.setT at hy
    split at hy
    · rcases List.mem_cons.1 hy with rfl | h2
      · assumption
      · exact h.nz y (List.mem_filter.1 h2).1
    · exact h.nz y (List.mem_filter.1 hy).1
  · rcases setT_mem hy with rfl | ⟨h2, _⟩
    · exact hx
    · exact h.ok y h2
theorem OkT.filter {m : List Tab.En} (h : OkT m) (p : Tab.En → Bool) : OkT (m.filter p) := ⟨h.un.filter _, fun x hx => h.nz x (List.mem_filter.1 hx).1, fun x hx => h.ok x (List.mem_filter.1 hx).1⟩
theorem OkT.new {l : List Tab.En} (h : newOk l = true) : OkT (Tab.newT l) := by
  have ho := Tab.newT_ok l
  unfold newOk at h
  rw [List.all_eq_true] at h
  exact ⟨ho.un, ho.nz, fun x hx => h x (ho.sub x hx)⟩
/-- who answers alike keeps alike -/
theorem OkT.perm {m m' : List Tab.En} (h : OkT m) (h' : OkT m') (he : ∀ n k : Int, 0 ≤ n → n < 8 → 0 ≤ k → k < 64 → getT m n k = getT m' n k) : m.Perm m' := by
  have hn : ∀ {l : List Tab.En}, UnE l → l.Nodup := fun hp => by
    rw [List.nodup_iff_pairwise_ne]
    exact hp.imp fun h e => h (by rw [e])
  have half : ∀ {m m' : List Tab.En}, OkT m → OkT m' → (∀ n k : Int, 0 ≤ n → n < 8 → 0 ≤ k → k < 64 → getT m n k = getT m' n k) → ∀ x ∈ m, x ∈ m' := by
    intro m m' h h' he x hx
    have ht := h.there x hx
    unfold There at ht
    have e1 := getT_is h.un hx (n := x.node) (k := x.key) rfl
    have e2 := he x.node x.key (by omega) (by omega) (by omega) (by omega)
    rcases getT_cases m' x.node x.key with ⟨y, hy, h1, h2⟩ | ⟨h1, h2⟩
    · have hy' := h'.there y hy
      obtain ⟨q1, q2⟩ := (hy'.inj (h.there x hx)).1 (h1.trans rfl)
      rw [e1, h2] at e2
      injection e2 with e3 e4
      obtain ⟨a, b, c, d⟩ := x
      obtain ⟨a', b', c', d'⟩ := y
      simp only at q1 q2 e3 e4
      subst q1 q2 e3 e4
      exact hy
    · rw [e1, h2] at e2
      exact absurd e2 (nz_get (h.nz x hx))
  rw [List.perm_ext_iff_of_nodup (hn h.un) (hn h'.un)]
  exact fun x => ⟨half h h' he x, half h' h (fun n k a b c d => (he n k a b c d).symm) x⟩
end Go.Proofs.YtmdmbimfdpngaaaGreatDoor
