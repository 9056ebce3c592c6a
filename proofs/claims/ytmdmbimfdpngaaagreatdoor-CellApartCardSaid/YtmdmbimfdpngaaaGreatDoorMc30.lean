import Derived.Test.YtmdmbimfdpngaaaGreatDoorMc29
import Derived.Test.YtmdmbimfdpngaaaGreatDoorMc17
import Derived.Deep.QuietTactic
import Derived.BigQuiet
/-! What tables do, in plain lists. -/
namespace Go.Proofs.YtmdmbimfdpngaaaGreatDoor
set_option linter.unusedSimpArgs false
set_option linter.unusedVariables false
open Go.RowKit Ga
set_option maxRecDepth 100000

/-- unlike places -/
abbrev UnE (m : List Tab.En) : Prop := m.Pairwise fun a b => Tab.num a ≠ Tab.num b
abbrev SoE (m : List Tab.En) : Prop := m.Pairwise fun a b => Tab.num a ≤ Tab.num b
theorem un_perm {m s : List Tab.En} (h : UnE m) (hp : s.Perm m) : UnE s := (hp.pairwise_iff (fun h => fun e => h e.symm)).2 h
/-- by places there is just one order -/
theorem so_unique {m s s' : List Tab.En} (hu : UnE m) (h1 : s.Perm m) (h2 : s'.Perm m) (o1 : SoE s) (o2 : SoE s') : s = s' := by
  refine List.Perm.eq_of_pairwise (le := fun a b => Tab.num a ≤ Tab.num b) (fun a b ha hb e1 e2 => ?_) o1 o2 (h1.trans h2.symm)
  exact un_eq hu (h1.mem_iff.1 ha) (h2.mem_iff.1 hb) (by omega)
theorem so_lt {s : List Tab.En} (hu : UnE s) (ho : SoE s) : s.Pairwise fun a b => Tab.num a < Tab.num b := (ho.and hu).imp fun h => by omega
/-- a table made of what another keeps is the same -/
theorem newT_all {m s : List Tab.En} (hu : UnE m) (hz : ∀ x ∈ m, Tab.nz x = true) (hp : s.Perm m) (ho : SoE s) : Tab.newT s = s.reverse :=
  Tab.newT_rev s (so_lt (un_perm hu hp) ho) fun x hx => hz x (hp.mem_iff.1 hx)
/-- is it asked for? -/
def ofP (nd : Int) (gs : List Int) (x : Tab.En) : Bool := decide (x.node = nd) && decide (x.key % 8 ∈ gs)
theorem len_split {α : Type} (p : α → Bool) : ∀ m : List α, (m.filter fun x => !p x).length + (m.filter p).length = m.length
  | [] => rfl
  | x :: m => by
    have := len_split p m
    rw [List.filter_cons, List.filter_cons]
    cases p x <;> simp <;> omega
/-- which group of which node, in one number -/
def grp (x : Tab.En) : Int := x.node * 8 + x.key % 8
def upto (m : List Tab.En) (c : Int) : Nat := (m.filter fun x => decide (grp x < c)).length
theorem upto_zero {m : List Tab.En} (h : ∀ x ∈ m, There x) : upto m 0 = 0 := by
  unfold upto
  rw [List.length_eq_zero_iff, List.filter_eq_nil_iff]
  intro x hx
  have := h x hx
  unfold There at this
  unfold grp
  simp only [decide_eq_true_eq]
  omega
theorem upto_all {m : List Tab.En} (h : ∀ x ∈ m, There x) : upto m 64 = m.length := by
  unfold upto
  rw [List.filter_eq_self.2]
  intro x hx
  have := h x hx
  unfold There at this
  unfold grp
  simp only [decide_eq_true_eq]
  omega
theorem upto_step {m : List Tab.En} (h : ∀ x ∈ m, There x) (n g : Nat) (hg : g < 8) : upto m (n * 8 + g + 1) = upto m (n * 8 + g) + (m.filter (ofP n [(g : Int)])).length := by
  unfold upto
  induction m with
  | nil => rfl
  | cons x m ih =>
    have ih := ih fun y hy => h y (List.mem_cons_of_mem _ hy)
    have hx := h x (List.mem_cons_self ..)
    unfold There at hx
    rw [List.filter_cons, List.filter_cons, List.filter_cons]
    have e1 : ofP n [(g : Int)] x = decide (grp x = n * 8 + g) := by
      unfold ofP grp
      rw [← Bool.decide_and]
      refine decide_eq_decide.2 ?_
      rw [List.mem_singleton]
      omega
    rw [e1]
    by_cases h1 : grp x < n * 8 + g
    · have h2 : grp x < n * 8 + g + 1 := by omega
      have h3 : ¬ grp x = n * 8 + g := by omega
      simp only [h1, h2, h3, decide_true, decide_false, if_true, if_false, Bool.false_eq_true, List.length_cons]
      omega
    · by_cases h2 : grp x = n * 8 + g
      · have h3 : grp x < n * 8 + g + 1 := by omega
        rw [decide_eq_true h3, decide_eq_false h1, decide_eq_true h2, if_pos rfl, if_neg (by decide), if_pos rfl, List.length_cons, List.length_cons]
        omega
      · have h3 : ¬ grp x < n * 8 + g + 1 := by omega
        simp only [h1, h2, h3, decide_true, decide_false, if_true, if_false, Bool.false_eq_true]
        omega
theorem ofP_drop_self {m : List Tab.En} {nd : Int} {gs : List Int} : (m.filter fun x => !ofP nd gs x).filter (ofP nd gs) = [] := by
  rw [List.filter_eq_nil_iff]
  intro x hx
  have := (List.mem_filter.1 hx).2
  simpa using this
theorem ofP_drop_other {m : List Tab.En} {nd nd2 : Int} {gs gs2 : List Int} (h : nd ≠ nd2) : (m.filter fun x => !ofP nd gs x).filter (ofP nd2 gs2) = m.filter (ofP nd2 gs2) := by
  rw [List.filter_filter]
  refine List.filter_congr fun x _ => ?_
  unfold ofP
  by_cases h1 : x.node = nd2
  · have h2 : decide (x.node = nd) = false := decide_eq_false fun e => h (e.symm.trans h1)
    rw [h2]
    simp
  · simp [h1]
end Go.Proofs.YtmdmbimfdpngaaaGreatDoor

/-! cell: Group, Of. -/
namespace Go.Proofs.YtmdmbimfdpngaaaGreatDoor
set_option linter.unusedSimpArgs false
set_option linter.unusedVariables false
open Go.RowKit Ga
set_option maxRecDepth 100000

theorem grew_cell {W W' : World} {a : Addr} {u : Value} (g : Grew W W') (h : W.cell? a = some u) : W'.cell? a = some u := below_keeps g.below a u h
theorem tmod8r (k : Int) : -8 < k.tmod 8 ∧ k.tmod 8 < 8 ∧ (k.tmod 8) % 8 = k % 8 := by
  rw [Int.tmod_eq_emod]
  split <;> simp <;> omega
theorem tmod8 (k : Int) : (k.tmod 8 + 8).tmod 8 = k % 8 := by
  obtain ⟨h1, h2, h3⟩ := tmod8r k
  rw [Int.tmod_eq_emod_of_nonneg (by omega)]
  omega
theorem group_any (k : Int) (w : World) : Calls Tryz.prog 52 #[.int .i64 k] w fun e w' => e = .returned (.int .i64 (k % 8)) ∧ w = w' := by
  obtain ⟨h1, h3, -⟩ := tmod8r k
  have h2 := tmod8 k
  go_enter Tryz.func52, Tryz.ntmps52
  go_wp2
  go_ret
  exact ⟨rfl, rfl⟩
set_option maxHeartbeats 2000000 in
theorem askedOf_any (n k nd : Int) (gs : List Int) (vg : Value) (B1 B2 : Nat) (W : World) (h1 : W.cell? ⟨B1, 0, none⟩ = some (.int .i64 nd)) (h2 : W.cell? ⟨B2, 0, none⟩ = some vg) (hgs : IntsAt W vg gs) :
    Calls Tryz.prog 50 #[.agg #[.int .i64 n, .int .i64 k], .pointer (some ⟨B1, 0, none⟩), .pointer (some ⟨B2, 0, none⟩)] W (Gives (.bool (ofP nd gs ⟨n, k, (0, 0), (0, 0)⟩)) W) := by
  have HC := Lib.hid fun W2 (g : Grew W W2) => containsI_any vg gs (k % 8) W2 (hgs.grew g)
  have p1 := Pre.ofCell h1
  have p2 := Pre.ofCell h2
  obtain ⟨ag, cg, rfl⟩ := hgs.len
  clear hgs
  by_cases hn : n = nd
  · subst hn
    have hb : ofP n gs ⟨n, k, (0, 0), (0, 0)⟩ = decide (k % 8 ∈ gs) := by unfold ofP; simp
    rw [hb]
    clear hb
    go_enter Tryz.func50, Tryz.ntmps50
    go_wp2
    go_quiet (first | (go_at_call 52; refine Calls.quiet_of_same ((group_any _ _).mono fun e w' h => ⟨h.1, h.2.symm⟩)) | (go_at_call 51; refine Calls.quiet_of_same (HC.out _ (by repeat (first | with_reducible exact Grew.refl _ | apply Grew.more | apply Grew.alloc | apply Grew.drew | apply Grew.drewN)))))
    go_wp2
    go_ret
    exact ⟨rfl, by repeat (first | with_reducible exact Grew.refl _ | apply Grew.more | apply Grew.alloc | apply Grew.drew | apply Grew.drewN)⟩
  · have hb : ofP nd gs ⟨n, k, (0, 0), (0, 0)⟩ = false := by unfold ofP; simp [hn]
    rw [hb]
    clear hb
    go_enter Tryz.func50, Tryz.ntmps50
    go_wp2
    go_quiet (fail)
    go_wp2
    go_ret
    exact ⟨rfl, by repeat (first | with_reducible exact Grew.refl _ | apply Grew.more | apply Grew.alloc | apply Grew.drew | apply Grew.drewN)⟩
set_option maxHeartbeats 8000000 in
theorem tabSomeOf_any (W : World) (t b n : Nat) (m : List Tab.En) (hT : TableAt W t b n m) (nd : Int) (gs : List Int) (vg : Value) (B1 B2 : Nat) (hB1 : W.cell? ⟨B1, 0, none⟩ = some (.int .i64 nd)) (hB2 : W.cell? ⟨B2, 0, none⟩ = some vg) (hgs : IntsAt W vg gs) : Calls Tryz.prog 48 #[.pointer (some ⟨t, 0, none⟩), .func (.func 50) #[] #[.pointer (some ⟨B1, 0, none⟩), .pointer (some ⟨B2, 0, none⟩)]] W (AllPost (m.filter (ofP nd gs)) W) := by
  have tc := cell_of (o := 0) hT.1
  simp at tc
  have pt := Pre.mk (heap_lt hT.1)
  obtain ⟨D, ho, hD⟩ := hT.2
  have HO := Lib.hid ho
  have HD := Lib.hid hD
  have hbW := ho.lt
  have HAS := Lib.hid fun n k W2 (g : Grew W W2) => askedOf_any n k nd gs vg B1 B2 W2 (grew_cell g hB1) (grew_cell g hB2) (hgs.grew g)
  clear hT ho hD hB1 hB2 hgs
  go_enter Tryz.func48, Tryz.ntmps48
  go_wp2_with (at_range; refine wpList_range_own _ rfl (.tmp 13) 104 rfl 115 48 cell_law Tryz.underlying104 ceR b n D rfl HO.out ?_; intro W1 hr1 hg1 hs1; (have HR1 := Lib.hid hr1); (have HG1 := Lib.hid ((Grew.refl W).grown hg1 fun q hq => by cases hq)); clear hr1 hg1 hs1)
  go_simp
  go_loopg [5] (Maps.size D) (fun gg s5 wr => ∃ (left : Lit → Bool) (cnt : Nat) (lo : List Tab.En) (vk : Value), cnt ≤ gg ∧ vk = s5 ∧ Hid (OwnAt W.heap.size 53 6 encEn wr vk (lo.filter (ofP nd gs))) ∧ Hid (RangesC wr b W.heap.size n D left cnt) ∧ Hid (Grew W wr) ∧ Hid (Seen D m lo left))
  case atStart => exact ⟨_, _, [], _, Nat.le_refl _, rfl, Lib.hid (OwnAt.nil _), HR1, HG1, Lib.hid (Seen.start HD.out)⟩
  case round =>
    obtain ⟨left, cnt, lo, vk, hgg, rfl, HOW, HRG, HG, HS⟩ := hrel
    have h512 := len512 (fun x hx => HD.out.there x (HS.out.sub x hx)) HS.out.un
    have hfl := List.length_filter_le (ofP nd gs) lo
    obtain ⟨ak, ck, rfl⟩ := (OwnAt.rows HOW.out encEn_len).len
    go_wp2_with (at_next; go_loud (refine wpList_next_ranges _ rfl (.tmp 14) rfl 115 cell_law ceR (fun x : Int × Int => ceK x.1 x.2) (fun c : Val × Val => cev c.1 c.2) place_inv cev_inv b W.heap.size n D left cnt rfl HRG.out ?_ ?_))
    · intro hc0 hl0
      have hp := HS.out.done HD.out hl0
      have HP := Lib.hid hp
      clear hc0 hl0 hp
      go_wp2_with (go_at_call 79; refine (sortEnts_any W.heap.size _ _ (lo.filter (ofP nd gs)) (OwnAt.grew HOW.out (by repeat (first | with_reducible exact Grew.refl _ | apply Grew.more | apply Grew.alloc | apply Grew.drew | apply Grew.drewN))) (fun x hx => HD.out.there x (HS.out.sub x (List.mem_filter.1 hx).1)) (by omega)).mono ?_; rintro e w3 ⟨rfl, l', q1, q2, q3, q4, q5, q6⟩; (have Q1 := Lib.hid q1); (have Q2 := Lib.hid q2); (have Q3 := Lib.hid q3); (have Q6 := Lib.hid (q6 W (HG.out.trans (by repeat (first | with_reducible exact Grew.refl _ | apply Grew.more | apply Grew.alloc | apply Grew.drew | apply Grew.drewN))) (Nat.le_refl _))); clear q1 q2 q3 q4 q5 q6)
      go_ret
      exact ⟨_, l', rfl, Q1.out, Q2.out.trans (HP.out.filter _), Q3.out, Q6.out⟩
    · intro n' k' p0 q0 p1 q1 kl y1 y2 W1 cnt1 hkk hlk hRy hat hrg1 hlt hg1 hs1 hen
      have HS1 := Lib.hid (HS.out.next HD.out hkk hlk hRy hat)
      have HG1 := Lib.hid (HG.out.grown hg1 fun q hq => by cases hq; exact Nat.le_refl _)
      have HO1 : Hid (OwnAt W.heap.size 53 6 encEn W1 (.slice ak (lo.filter (ofP nd gs)).length ck) (lo.filter (ofP nd gs))) := Lib.hid (OwnAt.same HOW.out fun q hq => hg1.block q (by obtain ⟨_, cs, hc⟩ := OwnAt.block HOW.out hq; exact heap_lt hc) (fun e => (rangesC_own HRG.out HOW.out).2 (by rw [hq, e])))
      have HRG1 := Lib.hid hrg1
      unfold ceK cev at hen ⊢
      clear hkk hlk hRy hat hrg1 hg1 hs1
      cases hof : ofP nd gs ⟨n', k', (p0, q0), (p1, q1)⟩
      · have HFL : Hid ((lo ++ [(⟨n', k', (p0, q0), (p1, q1)⟩ : Tab.En)]).filter (ofP nd gs) = lo.filter (ofP nd gs)) := Lib.hid (by rw [List.filter_append, List.filter_cons, hof]; simp)
        have HOF : Hid (ofP nd gs ⟨n', k', (0, 0), (0, 0)⟩ = false) := Lib.hid hof
        clear hof
        go_wp2_with (go_at_call 50; refine (HAS.out _ _ _ (HG1.out.trans (by repeat (first | with_reducible exact Grew.refl _ | apply Grew.more | apply Grew.alloc | apply Grew.drew | apply Grew.drewN)))).mono ?_; rintro e w3 ⟨rfl, R3, n3, rfl⟩; rw [HOF.out])
        go_roundg cnt1
        case measure => omega
        case rel => exact ⟨_, cnt1, _, _, Nat.le_refl _, rfl, Lib.hid (by rw [HFL.out]; exact OwnAt.grew HO1.out (by repeat (first | with_reducible exact Grew.refl _ | apply Grew.more | apply Grew.alloc | apply Grew.drew | apply Grew.drewN))), Lib.hid (rangesC_grew HRG1.out (by repeat (first | with_reducible exact Grew.refl _ | apply Grew.more | apply Grew.alloc | apply Grew.drew | apply Grew.drewN))), Lib.hid (HG1.out.trans (by repeat (first | with_reducible exact Grew.refl _ | apply Grew.more | apply Grew.alloc | apply Grew.drew | apply Grew.drewN))), HS1⟩
      · have HFL : Hid ((lo ++ [(⟨n', k', (p0, q0), (p1, q1)⟩ : Tab.En)]).filter (ofP nd gs) = lo.filter (ofP nd gs) ++ [(⟨n', k', (p0, q0), (p1, q1)⟩ : Tab.En)]) := Lib.hid (by rw [List.filter_append, List.filter_cons, hof]; simp)
        have HOF : Hid (ofP nd gs ⟨n', k', (0, 0), (0, 0)⟩ = true) := Lib.hid hof
        clear hof
        go_wp2_with (first
          | (go_at_call 50; refine (HAS.out _ _ _ (HG1.out.trans (by repeat (first | with_reducible exact Grew.refl _ | apply Grew.more | apply Grew.alloc | apply Grew.drew | apply Grew.drewN)))).mono ?_; rintro e w3 ⟨rfl, R3, n3, rfl⟩; rw [HOF.out])
          | (at_builtin; go_loud (refine wpList_ownK (w0 := W) rfl (.tmp 23) (.tmp 30) 31 _ _ _ _ [⟨n', k', (p0, q0), (p1, q1)⟩] rfl Tryz.underlying31 infoEn rfl (by decide) encEn_len encEn_one rfl (OwnAt.grew HO1.out (by repeat (first | with_reducible exact Grew.refl _ | apply Grew.more | apply Grew.alloc | apply Grew.drew | apply Grew.drewN))) (HG1.out.trans (by repeat (first | with_reducible exact Grew.refl _ | apply Grew.more | apply Grew.alloc | apply Grew.drew | apply Grew.drewN))) rfl (en_at _ _ _ _ rfl (by simp [go_sem])) (by simp; omega) (by decide) (by simp) ?_; intro v5 W5 hA; (have HA := Lib.hid hA); clear hA)))
        have HR5 := Lib.hid (rangesC_app (rangesC_grew HRG1.out (by repeat (first | with_reducible exact Grew.refl _ | apply Grew.more | apply Grew.alloc | apply Grew.drew | apply Grew.drewN))) (OwnAt.grew HO1.out (by repeat (first | with_reducible exact Grew.refl _ | apply Grew.more | apply Grew.alloc | apply Grew.drew | apply Grew.drewN))) HA.out)
        go_roundg cnt1
        case measure => omega
        case rel => exact ⟨_, cnt1, _, _, Nat.le_refl _, rfl, Lib.hid (by rw [HFL.out]; exact HA.out.2.1), HR5, Lib.hid HA.out.1, HS1⟩
theorem tabOf_any (W : World) (t b n : Nat) (m : List Tab.En) (hT : TableAt W t b n m) (nd : Int) (gs : List Int) (vg : Value) (hgs : IntsAt W vg gs) : Calls Tryz.prog 24 #[.pointer (some ⟨t, 0, none⟩), .int .i64 nd, vg] W (AllPost (m.filter (ofP nd gs)) W) := by
  have HT := Lib.hid hT
  have HGS := Lib.hid hgs
  obtain ⟨ag, cg, rfl⟩ := hgs.len
  clear hT hgs
  go_enter Tryz.func24, Tryz.ntmps24
  go_wp2_with (go_at_call 48; go_loud (refine (tabSomeOf_any _ t b n m (HT.out.grew (by repeat (first | with_reducible exact Grew.refl _ | apply Grew.more | apply Grew.alloc | apply Grew.drew | apply Grew.drewN))) nd gs _ _ _ (by simp [go_sem]) (by simp [go_sem]) (HGS.out.grew (by repeat (first | with_reducible exact Grew.refl _ | apply Grew.more | apply Grew.alloc | apply Grew.drew | apply Grew.drewN)))).mono ?_); rintro e w1 ⟨v, s, rfl, h1, h2, h3, h4⟩; obtain ⟨ak, ck, rfl⟩ := (OwnAt.rows h1 encEn_len).len; (have H1 := Lib.hid h1); (have H2 := Lib.hid h2); (have H3 := Lib.hid h3); (have H4 := Lib.hid h4); clear h1 h2 h3 h4)
  go_ret
  exact ⟨_, s, rfl, OwnAt.low H1.out (by simp [World.size_alloc]; omega), H2.out, H3.out, Grew.trans (by repeat (first | with_reducible exact Grew.refl _ | apply Grew.more | apply Grew.alloc | apply Grew.drew | apply Grew.drewN)) H4.out⟩
end Go.Proofs.YtmdmbimfdpngaaaGreatDoor
